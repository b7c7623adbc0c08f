/- Walks of package bbt: opening, formatting. -/
import Derived.Test.YtdfidkhbldedlaaGreatT4
namespace Go.Proofs.YtdfidkhbldedlaaGreat
open Go.K
set_option linter.unusedVariables false
set_option linter.unusedSimpArgs false
instance zer105 : Zer Tryz.prog 105 ([.pointer none, .slice none 0 0, .slice none 0 0, .int .u64 0, .int .i64 0, .int .i64 0, .int .i64 0]) := ⟨by kernel_rfl⟩
instance plc105 : Plc Tryz.prog 105 [(0, 1), (1, 2), (3, 1), (4, 1), (5, 1), (6, 1)] := ⟨⟨_, Tryz.underlying105, fun _ => by kernel_rfl⟩⟩
instance ent15 : Ent Tryz.prog 15 := ⟨fun _ _ => by kernel_rfl⟩
instance ent21 : Ent Tryz.prog 21 := ⟨fun _ _ => by kernel_rfl⟩

/-- What Open gives. -/
def OpenR (a : Nat) (c : Chip) (v : Value) (H : Hp) : Prop :=
  if (openC c).1 = 0 then ∃ t : Tab, v = .tuple #[ptr t.b, .int .i64 0] ∧ H = tabH a t ++ (chH c ++ []) ∧ t.ts = (openC c).2
  else v = .tuple #[.pointer none, .int .i64 (openC c).1] ∧ H = chH c ++ []
/-- What is told of an area: where the plan's rows lie. -/
def scOk (s : Sc) (u l : Sl Int) : Prop := u.list = s.uses ∧ l.list = s.lost
theorem open_fn {c : Chip} (hb : 2 ≤ c.blocks.length ∧ c.blocks.length ≤ 1000) : Does Tryz.prog 21 [ptr c.aC] (chH c) (OpenR c.aC c) := by
  refine fn_enter (n := 101) Tryz.func21 Tryz.ntmps21 rfl (Nat.le_of_ble_eq_true rfl) ?_
  refine s_seq ?_
  refine s_region0 (fun ops => ?_)
  refine o_rd (rd_assign rfl) rfl ?_
  refine o_rd (rd_assign rfl) rfl ?_
  refine o_nil ?_
  refine n_K ?_
  refine s_seq ?_
  refine s_region0 (fun ops => ?_)
  refine o_rd (rd_move rfl) rfl ?_
  refine o_rd (rd_build_s rfl rfl) rfl ?_
  refine o_box rfl rfl (fun b20 => ?_)
  refine o_rd (rd_assign rfl) rfl ?_
  refine o_nil ?_
  refine n_K ?_
  refine s_seq ?_
  refine s_region0 (fun ops => ?_)
  refine o_rd (rd_assign rfl) rfl ?_
  refine o_nil ?_
  refine n_K ?_
  refine s_seq ?_
  refine s_seq ?_
  refine s_region0 (fun ops => ?_)
  refine o_rd (rd_move rfl) rfl ?_
  refine o_nil ?_
  refine n_K ?_
  refine s_block ?_
  refine sc_eq (G := (b20, true, C (tabC c.aC ⟨b20, .nil, .nil, 0, 0, 0, 0⟩) tTb) :: ((Sl.nil : Sl Int).hp tI ++ ((Sl.nil : Sl Int).hp tI ++ (chH c ++ [])))) (by simp only [Sl.hp_nil, List.nil_append, List.append_nil]; rfl) ?_
  refine s_loop2 [0, 4] (by repeat' first | exact Keep2.nil | apply Keep2.cons rfl) (fun (st : Nat × Tab) => [(21, .int .i64 st.1), (5, .bool (openU c st.1).2)]) (fun (st : Nat × Tab) => (b20, true, C (tabC c.aC st.2) tTb) :: (st.2.u.hp tI ++ (st.2.l.hp tI ++ (chH c ++ [])))) (fun (st : Nat × Tab) => st.1 ≤ 2 ∧ st.2.ts = (openU c st.1).1 ∧ st.2.b = b20 ∧ (0 < st.1 → mayE c 0 0 = 0)) (fun (st : Nat × Tab) => 2 - st.1) ((0, ⟨b20, .nil, .nil, 0, 0, 0, 0⟩)) ⟨Nat.zero_le _, rfl, rfl, fun h => by simp at h⟩ (by repeat' first | exact Keep.nil | refine Keep.cons rfl ?_) (by repeat (first | exact Split.nil | (apply Split.cons; next => repeat (first | exact Pick.here | apply Pick.there | apply Pick.app)) | (apply Split.chunk; next => repeat (first | exact PickL.here | exact PickL.last | apply PickL.there | apply PickL.app)) | (apply Split.lst; repeat (first | exact PickL.here | exact PickL.last | apply PickL.there | apply PickL.app)))) ?_
  rintro ⟨k, t⟩ ⟨h0, h1, h2, h3⟩
  simp only at h0 h1 h2 h3
  refine s_seq ?_
  refine s_region0 (fun ops => ?_)
  refine o_rd (rd_bin rfl rfl rfl) rfl ?_
  refine o_nil ?_
  refine n_K ?_
  refine s_seq ?_
  refine s_cond rfl (fun c22 => ?_) (fun c22 => ?_)
  · simp only [decide_eq_true_eq, decide_eq_false_iff_not] at c22
    refine s_skip ?_
    refine n_K ?_
    refine s_seq ?_
    refine s_block ?_
    refine s_seq ?_
    refine s_region0 (fun ops => ?_)
    refine o_rd (rd_move rfl) rfl ?_
    refine o_rd (rd_assign rfl) rfl ?_
    refine o_nil ?_
    refine n_K ?_
    refine s_seq ?_
    refine s_region0 (fun ops => ?_)
    refine o_rd (rd_assign rfl) rfl ?_
    refine o_nil ?_
    refine n_K ?_
    refine s_seq ?_
    refine s_region0 (fun ops => ?_)
    refine o_alloc rfl (fun b8 => ?_)
    refine o_nil ?_
    refine n_K ?_
    refine s_seq ?_
    refine s_region0 (fun ops => ?_)
    refine o_rd (rd_assign rfl) rfl ?_
    refine o_nil ?_
    refine n_K ?_
    refine s_seq ?_
    refine s_region0 (fun ops => ?_)
    refine o_rd (rd_assign rfl) rfl ?_
    refine o_rd (rd_assign rfl) rfl ?_
    refine o_nil ?_
    refine n_K ?_
    refine s_seq ?_
    refine s_seq ?_
    refine s_region0 (fun ops => ?_)
    refine o_rd (rd_move rfl) rfl ?_
    refine o_nil ?_
    refine n_K ?_
    refine s_block ?_
    refine sc_eq (G := (b8, true, C [(Sl.nil : Sl Int).val, (Sl.nil : Sl Int).val] tPl) :: ((Sl.nil : Sl Int).hp tI ++ ((Sl.nil : Sl Int).hp tI ++ ((b20, true, C (tabC c.aC t) tTb) :: (t.u.hp tI ++ (t.l.hp tI ++ (chH c ++ []))))))) (by simp only [Sl.hp_nil, List.nil_append]; rfl) ?_
    refine s_loop2 [0, 4, 5, 6, 8, 21] (by repeat' first | exact Keep2.nil | apply Keep2.cons rfl) (fun (st : Nat × Sl Int × Sl Int) => [(24, .int .i64 st.1), (7, .int .i64 (scanU c k st.1).last), (9, wv (scanU c k st.1).newest), (10, .int .i64 (scanU c k st.1).at'), (11, .bool (scanU c k st.1).any)]) (fun (st : Nat × Sl Int × Sl Int) => (b8, true, C [st.2.1.val, st.2.2.val] tPl) :: (st.2.1.hp tI ++ (st.2.2.hp tI ++ ((b20, true, C (tabC c.aC t) tTb) :: (t.u.hp tI ++ (t.l.hp tI ++ (chH c ++ []))))))) (fun (st : Nat × Sl Int × Sl Int) => st.1 ≤ 8 ∧ scOk (scanU c k st.1) st.2.1 st.2.2 ∧ (0 < st.1 → mayE c 0 0 = 0)) (fun (st : Nat × Sl Int × Sl Int) => 8 - st.1) ((0, .nil, .nil)) ⟨Nat.zero_le _, ⟨rfl, rfl⟩, fun h => by simp at h⟩ (by repeat' first | exact Keep.nil | refine Keep.cons rfl ?_) (by repeat (first | exact Split.nil | (apply Split.cons; next => repeat (first | exact Pick.here | apply Pick.there | apply Pick.app)) | (apply Split.chunk; next => repeat (first | exact PickL.here | exact PickL.last | apply PickL.there | apply PickL.app)) | (apply Split.lst; repeat (first | exact PickL.here | exact PickL.last | apply PickL.there | apply PickL.app)))) ?_
    rintro ⟨i, u, l⟩ ⟨k0, k1, k2⟩
    simp only at k0 k1 k2
    refine s_seq ?_
    refine s_region0 (fun ops => ?_)
    refine o_rd (rd_bin rfl rfl rfl) rfl ?_
    refine o_nil ?_
    refine n_K ?_
    refine s_seq ?_
    refine s_cond rfl (fun c25 => ?_) (fun c25 => ?_)
    · simp only [decide_eq_true_eq, decide_eq_false_iff_not] at c25
      have hms : mayE c k i = mayE c 0 0 := may_same hb.1 (by omega) (by omega)
      have hsc : scanU c k (i + 1) = scan1 c k i (scanU c k i) := rfl
      refine s_skip ?_
      refine n_K ?_
      refine s_seq ?_
      refine s_block ?_
      refine s_seq ?_
      refine s_region0 (fun ops => ?_)
      refine o_rd (rd_move rfl) rfl ?_
      refine o_rd (rd_assign rfl) rfl ?_
      refine o_nil ?_
      refine n_K ?_
      refine s_seq ?_
      refine s_region0 (fun ops => ?_)
      refine o_rd (rd_move rfl) rfl ?_
      refine o_rd (rd_move rfl) rfl ?_
      refine o_rd (rd_move rfl) rfl ?_
      refine c_is rfl (read_fn) (by repeat (first | exact Split.nil | (apply Split.cons; next => repeat (first | exact Pick.here | apply Pick.there | apply Pick.app)) | (apply Split.chunk; next => repeat (first | exact PickL.here | exact PickL.last | apply PickL.there | apply PickL.app)) | (apply Split.lst; repeat (first | exact PickL.here | exact PickL.last | apply PickL.there | apply PickL.app)))) rfl (by repeat (first | exact Ap.nil | apply Ap.cons | apply Ap.app | exact Ap.one)) ?_
      refine o_rd (rd_move rfl) rfl ?_
      refine o_rd (rd_extract rfl rfl) rfl ?_
      refine o_rd (rd_extract rfl rfl) rfl ?_
      refine o_alloc rfl (fun b13 => ?_)
      rw [zeroP_eq]
      first | refine o_store rfl rfl (by repeat' first | exact Upd.here | apply Upd.there | apply Upd.app) (vc_vb) (vbc_len) (spl_vb (by first | exact vbc_len | exact List.length_replicate ..)) ?_ | refine o_store rfl rfl (by repeat' first | exact Upd.here | apply Upd.there | apply Upd.app) rfl rfl rfl ?_
      refine o_rd (rd_assign rfl) rfl ?_
      refine o_nil ?_
      refine n_K ?_
      refine s_seq ?_
      refine s_seq ?_
      refine s_region0 (fun ops => ?_)
      refine o_rd (rd_move rfl) rfl ?_
      refine o_rd (rd_bin rfl rfl rfl) rfl ?_
      refine o_nil ?_
      refine n_K ?_
      refine s_cond rfl (fun c35 => ?_) (fun c35 => ?_)
      · skip
        have hne : ¬ mayE c 0 0 = 0 := (by rw [← hms]; simpa using c35)
        have hres : openC c = (mayE c 0 0, ts0) := (by unfold openC; rw [if_pos hne])
        refine s_seq ?_
        refine s_region0 (fun ops => ?_)
        refine o_rd (rd_move rfl) rfl ?_
        refine o_rd (rd_assign rfl) rfl ?_
        refine o_rd (rd_assign rfl) rfl ?_
        refine o_nil ?_
        refine n_K ?_
        refine s_ret ?_
        refine r_K ?_
        refine r_blk ?_
        refine r_K ?_
        refine r_K ?_
        refine r_blk ?_
        refine r_K ?_
        refine r_blk ?_
        refine r_K ?_
        refine r_K ?_
        refine r_blk ?_
        refine r_K ?_
        exact leaf_r (rets2 Tryz.results21 (rv_tmp rfl) (rv_tmp rfl)) (by unfold OpenR; rw [if_neg (by rw [hres]; exact hne), hres, hms]; exact ⟨rfl, rfl⟩) (by repeat (first | exact Split.nil | (apply Split.cons; next => repeat (first | exact Pick.here | apply Pick.there | apply Pick.app)) | (apply Split.chunk; next => repeat (first | exact PickL.here | exact PickL.last | apply PickL.there | apply PickL.app)) | (apply Split.lst; repeat (first | exact PickL.here | exact PickL.last | apply PickL.there | apply PickL.app))))
      · skip
        have hz : mayE c 0 0 = 0 := (by rw [← hms]; simpa using c35)
        refine s_skip ?_
        refine n_K ?_
        refine s_seq ?_
        refine s_seq ?_
        refine s_region0 (fun ops => ?_)
        refine o_rd (rd_ldA rfl (by repeat' first | exact List.Mem.head _ | apply List.Mem.tail | apply List.mem_append_right) (by first | exact cut_vb | rfl)) rfl ?_
        refine c_is rfl (blankp_fn) (by repeat (first | exact Split.nil | (apply Split.cons; next => repeat (first | exact Pick.here | apply Pick.there | apply Pick.app)) | (apply Split.chunk; next => repeat (first | exact PickL.here | exact PickL.last | apply PickL.there | apply PickL.app)) | (apply Split.lst; repeat (first | exact PickL.here | exact PickL.last | apply PickL.there | apply PickL.app)))) rfl (by repeat (first | exact Ap.nil | apply Ap.cons | apply Ap.app | exact Ap.one)) ?_
        refine o_rd (rd_not rfl) rfl ?_
        refine o_nil ?_
        refine n_K ?_
        refine s_cond rfl (fun c39 => ?_) (fun c39 => ?_)
        · skip
          have hla : (if blankB (readP c k i) = true then (scanU c k i).last else (i : Int) + 1) = (i : Int) + 1 := (by rw [if_neg (by simpa using c39)])
          refine s_region0 (fun ops => ?_)
          refine o_rd (rd_move rfl) rfl ?_
          refine o_rd (rd_add64 rfl rfl (by omega)) rfl ?_
          refine o_rd (rd_assign rfl) rfl ?_
          refine o_nil ?_
          refine n_K ?_
          refine s_seq ?_
          refine s_drawT [] [(11, (.fork [(0, false), (1, false)] 2 (.fork [] 3 (.one [(4, false), (5, false), (6, false), (7, false), (8, true), (9, true), (10, false)]) 8 (.one [(3, true), (4, false), (5, false), (6, false), (7, false), (9, true), (10, false)])) 8 (.one [(2, true), (3, true), (4, false), (5, false), (6, false), (7, false), (9, true), (10, false)]))), (12, (.one [(11, false)]))] (by kernel_rfl) rfl (fun ops w0 H0 y => ?_)
          refine pt_all ?_
          refine t_fork ?_ rfl
          refine x_rd (rd_ldA rfl (by repeat' first | exact List.Mem.head _ | apply List.Mem.tail | apply List.mem_append_right) (by first | exact cut_vb | rfl)) rfl ?_
          refine x_rd (rd_move rfl) rfl ?_
          refine x_nil ⟨⟨_, (by repeat (first | exact Split.nil | (apply Split.cons; next => repeat (first | exact Pick.here | apply Pick.there | apply Pick.app)) | (apply Split.chunk; next => repeat (first | exact PickL.here | exact PickL.last | apply PickL.there | apply PickL.app)) | (apply Split.lst; repeat (first | exact PickL.here | exact PickL.last | apply PickL.there | apply PickL.app))))⟩, ?_, ?_⟩
          refine x_so ?_
          refine c_is rfl (blocks_fn) (by repeat (first | exact Split.nil | (apply Split.cons; next => repeat (first | exact Pick.here | apply Pick.there | apply Pick.app)) | (apply Split.chunk; next => repeat (first | exact PickL.here | exact PickL.last | apply PickL.there | apply PickL.app)) | (apply Split.lst; repeat (first | exact PickL.here | exact PickL.last | apply PickL.there | apply PickL.app)))) rfl (by repeat (first | exact Ap.nil | apply Ap.cons | apply Ap.app | exact Ap.one)) ?_
          refine o_nil ⟨rfl, ⟨_, (by repeat (first | exact Split.nil | (apply Split.cons; next => repeat (first | exact Pick.here | apply Pick.there | apply Pick.app)) | (apply Split.chunk; next => repeat (first | exact PickL.here | exact PickL.last | apply PickL.there | apply PickL.app)) | (apply Split.lst; repeat (first | exact PickL.here | exact PickL.last | apply PickL.there | apply PickL.app))))⟩, ?_⟩
          refine x_nil ?_
          refine t_fork ?_ rfl
          refine x_nil ⟨⟨_, (by repeat (first | exact Split.nil | (apply Split.cons; next => repeat (first | exact Pick.here | apply Pick.there | apply Pick.app)) | (apply Split.chunk; next => repeat (first | exact PickL.here | exact PickL.last | apply PickL.there | apply PickL.app)) | (apply Split.lst; repeat (first | exact PickL.here | exact PickL.last | apply PickL.there | apply PickL.app))))⟩, ?_, ?_⟩
          refine x_so ?_
          refine c_ex rfl (read_fn2 (q := readP c k i) (n := c.blocks.length)) (by repeat (first | exact Split.nil | (apply Split.cons; next => repeat (first | exact Pick.here | apply Pick.there | apply Pick.app)) | (apply Split.chunk; next => repeat (first | exact PickL.here | exact PickL.last | apply PickL.there | apply PickL.app)) | (apply Split.lst; repeat (first | exact PickL.here | exact PickL.last | apply PickL.there | apply PickL.app)))) rfl (fun v46 Y46 h46 => ?_)
          obtain ⟨u46, l46, rfl, rfl, hu46, hl46, ou46, ol46⟩ := h46
          refine so_ap (by repeat (first | exact Ap.nil | apply Ap.cons | apply Ap.app | exact Ap.one)) ?_
          refine o_nil ⟨rfl, ⟨_, (by repeat (first | exact Split.nil | (apply Split.cons; next => repeat (first | exact Pick.here | apply Pick.there | apply Pick.app)) | (apply Split.chunk; next => repeat (first | exact PickL.here | exact PickL.last | apply PickL.there | apply PickL.app)) | (apply Split.lst; repeat (first | exact PickL.here | exact PickL.last | apply PickL.there | apply PickL.app))))⟩, ?_⟩
          refine x_nil ?_
          refine t_one ?_
          refine x_rd (rd_move rfl) rfl ?_
          refine x_rd (rd_extract rfl rfl) rfl ?_
          refine x_rd (rd_extract rfl rfl) rfl ?_
          refine x_rd (rd_extract rfl rfl) rfl ?_
          refine x_so ?_
          refine o_alloc rfl (fun b15 => ?_)
          refine o_nil ⟨rfl, ⟨_, (by repeat (first | exact Split.nil | (apply Split.cons; next => repeat (first | exact Pick.here | apply Pick.there | apply Pick.app)) | (apply Split.chunk; next => repeat (first | exact PickL.here | exact PickL.last | apply PickL.there | apply PickL.app)) | (apply Split.lst; repeat (first | exact PickL.here | exact PickL.last | apply PickL.there | apply PickL.app))))⟩, ?_⟩
          refine x_so ?_
          refine o_store rfl rfl (by repeat' first | exact Upd.here | apply Upd.there | apply Upd.app) rfl rfl rfl ?_
          refine o_nil ⟨rfl, ⟨_, (by repeat (first | exact Split.nil | (apply Split.cons; next => repeat (first | exact Pick.here | apply Pick.there | apply Pick.app)) | (apply Split.chunk; next => repeat (first | exact PickL.here | exact PickL.last | apply PickL.there | apply PickL.app)) | (apply Split.lst; repeat (first | exact PickL.here | exact PickL.last | apply PickL.there | apply PickL.app))))⟩, ?_⟩
          refine x_rd (rd_assign rfl) rfl ?_
          refine x_nil ?_
          rotate_left
          refine x_so ?_
          refine o_alloc rfl (fun b15 => ?_)
          refine o_nil ⟨rfl, ⟨_, (by repeat (first | exact Split.nil | (apply Split.cons; next => repeat (first | exact Pick.here | apply Pick.there | apply Pick.app)) | (apply Split.chunk; next => repeat (first | exact PickL.here | exact PickL.last | apply PickL.there | apply PickL.app)) | (apply Split.lst; repeat (first | exact PickL.here | exact PickL.last | apply PickL.there | apply PickL.app))))⟩, ?_⟩
          refine x_nil ?_
          refine t_one ?_
          refine x_so ?_
          refine c_ex rfl (read_fn2 (q := readP c k i) (n := c.blocks.length)) (by repeat (first | exact Split.nil | (apply Split.cons; next => repeat (first | exact Pick.here | apply Pick.there | apply Pick.app)) | (apply Split.chunk; next => repeat (first | exact PickL.here | exact PickL.last | apply PickL.there | apply PickL.app)) | (apply Split.lst; repeat (first | exact PickL.here | exact PickL.last | apply PickL.there | apply PickL.app)))) rfl (fun v46 Y46 h46 => ?_)
          obtain ⟨u46, l46, rfl, rfl, hu46, hl46, ou46, ol46⟩ := h46
          refine so_ap (by repeat (first | exact Ap.nil | apply Ap.cons | apply Ap.app | exact Ap.one)) ?_
          refine o_nil ⟨rfl, ⟨_, (by repeat (first | exact Split.nil | (apply Split.cons; next => repeat (first | exact Pick.here | apply Pick.there | apply Pick.app)) | (apply Split.chunk; next => repeat (first | exact PickL.here | exact PickL.last | apply PickL.there | apply PickL.app)) | (apply Split.lst; repeat (first | exact PickL.here | exact PickL.last | apply PickL.there | apply PickL.app))))⟩, ?_⟩
          refine x_rd (rd_move rfl) rfl ?_
          refine x_rd (rd_extract rfl rfl) rfl ?_
          refine x_rd (rd_extract rfl rfl) rfl ?_
          refine x_rd (rd_extract rfl rfl) rfl ?_
          refine x_so ?_
          refine o_store rfl rfl (by repeat' first | exact Upd.here | apply Upd.there | apply Upd.app) rfl rfl rfl ?_
          refine o_nil ⟨rfl, ⟨_, (by repeat (first | exact Split.nil | (apply Split.cons; next => repeat (first | exact Pick.here | apply Pick.there | apply Pick.app)) | (apply Split.chunk; next => repeat (first | exact PickL.here | exact PickL.last | apply PickL.there | apply PickL.app)) | (apply Split.lst; repeat (first | exact PickL.here | exact PickL.last | apply PickL.there | apply PickL.app))))⟩, ?_⟩
          refine x_rd (rd_assign rfl) rfl ?_
          refine x_nil ?_
          rotate_left
          refine x_so ?_
          refine o_alloc rfl (fun b15 => ?_)
          refine o_nil ⟨rfl, ⟨_, (by repeat (first | exact Split.nil | (apply Split.cons; next => repeat (first | exact Pick.here | apply Pick.there | apply Pick.app)) | (apply Split.chunk; next => repeat (first | exact PickL.here | exact PickL.last | apply PickL.there | apply PickL.app)) | (apply Split.lst; repeat (first | exact PickL.here | exact PickL.last | apply PickL.there | apply PickL.app))))⟩, ?_⟩
          refine x_nil ?_
          refine t_one ?_
          refine x_so ?_
          refine c_is rfl (blocks_fn) (by repeat (first | exact Split.nil | (apply Split.cons; next => repeat (first | exact Pick.here | apply Pick.there | apply Pick.app)) | (apply Split.chunk; next => repeat (first | exact PickL.here | exact PickL.last | apply PickL.there | apply PickL.app)) | (apply Split.lst; repeat (first | exact PickL.here | exact PickL.last | apply PickL.there | apply PickL.app)))) rfl (by repeat (first | exact Ap.nil | apply Ap.cons | apply Ap.app | exact Ap.one)) ?_
          refine o_nil ⟨rfl, ⟨_, (by repeat (first | exact Split.nil | (apply Split.cons; next => repeat (first | exact Pick.here | apply Pick.there | apply Pick.app)) | (apply Split.chunk; next => repeat (first | exact PickL.here | exact PickL.last | apply PickL.there | apply PickL.app)) | (apply Split.lst; repeat (first | exact PickL.here | exact PickL.last | apply PickL.there | apply PickL.app))))⟩, ?_⟩
          refine x_so ?_
          refine c_ex rfl (read_fn2 (q := readP c k i) (n := c.blocks.length)) (by repeat (first | exact Split.nil | (apply Split.cons; next => repeat (first | exact Pick.here | apply Pick.there | apply Pick.app)) | (apply Split.chunk; next => repeat (first | exact PickL.here | exact PickL.last | apply PickL.there | apply PickL.app)) | (apply Split.lst; repeat (first | exact PickL.here | exact PickL.last | apply PickL.there | apply PickL.app)))) rfl (fun v46 Y46 h46 => ?_)
          obtain ⟨u46, l46, rfl, rfl, hu46, hl46, ou46, ol46⟩ := h46
          refine so_ap (by repeat (first | exact Ap.nil | apply Ap.cons | apply Ap.app | exact Ap.one)) ?_
          refine o_nil ⟨rfl, ⟨_, (by repeat (first | exact Split.nil | (apply Split.cons; next => repeat (first | exact Pick.here | apply Pick.there | apply Pick.app)) | (apply Split.chunk; next => repeat (first | exact PickL.here | exact PickL.last | apply PickL.there | apply PickL.app)) | (apply Split.lst; repeat (first | exact PickL.here | exact PickL.last | apply PickL.there | apply PickL.app))))⟩, ?_⟩
          refine x_rd (rd_move rfl) rfl ?_
          refine x_rd (rd_extract rfl rfl) rfl ?_
          refine x_rd (rd_extract rfl rfl) rfl ?_
          refine x_rd (rd_extract rfl rfl) rfl ?_
          refine x_so ?_
          refine o_store rfl rfl (by repeat' first | exact Upd.here | apply Upd.there | apply Upd.app) rfl rfl rfl ?_
          refine o_nil ⟨rfl, ⟨_, (by repeat (first | exact Split.nil | (apply Split.cons; next => repeat (first | exact Pick.here | apply Pick.there | apply Pick.app)) | (apply Split.chunk; next => repeat (first | exact PickL.here | exact PickL.last | apply PickL.there | apply PickL.app)) | (apply Split.lst; repeat (first | exact PickL.here | exact PickL.last | apply PickL.there | apply PickL.app))))⟩, ?_⟩
          refine x_rd (rd_assign rfl) rfl ?_
          refine x_nil ?_
          rotate_left
          all_goals
            refine pt_all ?_
            refine t_one ?_
            refine x_rd (rd_assign rfl) rfl ?_
            refine x_nil ?_
            refine pt_end ?_
            refine n_K ?_
            refine s_seq ?_
            refine s_region [(1, 51), (4, 54)] rfl (fun ops y => ?_)
            refine o_rd (rd_move rfl) rfl ?_
            refine o_rd (rd_move rfl) rfl ?_
            refine' o_and (j := 1) (k := 7) y rfl rfl rfl rfl rfl rfl rfl (fun hg51 => ?_) ?_
            rotate_left
            · try simp at hg51
              refine o_g y rfl rfl ?_
              refine o_rd (rd_move rfl) rfl ?_
              refine o_g y rfl rfl ?_
              refine o_rd (rd_not rfl) rfl ?_
              refine o_g y rfl rfl ?_
              refine o_rd (rd_move rfl) rfl ?_
              refine' o_or (j := 4) (k := 3) y rfl rfl rfl rfl rfl rfl rfl (fun hg54 => ?_) ?_
              rotate_left
              · try simp at hg54
                refine o_g y rfl rfl ?_
                refine o_rd (rd_move rfl) rfl ?_
                refine o_g y rfl rfl ?_
                refine o_rd (rd_move rfl) rfl ?_
                refine o_g y rfl rfl ?_
                refine o_rd (rd_bin rfl rfl rfl) rfl ?_
                exact o_nil ⟨rfl, rfl, ⟨_, (by repeat (first | exact Split.nil | (apply Split.cons; next => repeat (first | exact Pick.here | apply Pick.there | apply Pick.app)) | (apply Split.chunk; next => repeat (first | exact PickL.here | exact PickL.last | apply PickL.there | apply PickL.app)) | (apply Split.lst; repeat (first | exact PickL.here | exact PickL.last | apply PickL.there | apply PickL.app))))⟩⟩
              exact o_nil ⟨rfl, rfl, ⟨_, (by repeat (first | exact Split.nil | (apply Split.cons; next => repeat (first | exact Pick.here | apply Pick.there | apply Pick.app)) | (apply Split.chunk; next => repeat (first | exact PickL.here | exact PickL.last | apply PickL.there | apply PickL.app)) | (apply Split.lst; repeat (first | exact PickL.here | exact PickL.last | apply PickL.there | apply PickL.app))))⟩⟩
            refine o_nil ?_
            refine n_K ?_
            refine s_cond rfl (fun c59 => ?_) (fun c59 => ?_)
            · skip
              have hs1 : scanU c k (i + 1) = ⟨(if blankB (readP c k i) = true then (scanU c k i).last else (i : Int) + 1), (readT (readP c k i) c.blocks.length).1, (readT (readP c k i) c.blocks.length).2.1, (readT (readP c k i) c.blocks.length).2.2.1, i, true⟩ := (by rw [hsc]; unfold scan1; simp only []; rw [if_pos c59])
              rw [hla] at hs1
              refine s_region0 (fun ops => ?_)
              refine o_rd (rd_ldA rfl (by repeat' first | exact List.Mem.head _ | apply List.Mem.tail | apply List.mem_append_right) rfl) rfl ?_
              refine o_rd (rd_move rfl) rfl ?_
              refine o_rd (rd_move rfl) rfl ?_
              refine o_store rfl rfl (by repeat' first | exact Upd.here | apply Upd.there | apply Upd.app) rfl rfl rfl ?_
              refine o_rd (rd_assign rfl) rfl ?_
              refine o_rd (rd_assign rfl) rfl ?_
              refine o_rd (rd_assign rfl) rfl ?_
              refine o_nil ?_
              refine n_blk ?_
              refine n_K ?_
              refine s_region0 (fun ops => ?_)
              refine o_rd (rd_add64 rfl rfl (by omega)) rfl ?_
              refine o_rd (rd_move rfl) rfl ?_
              refine o_nil ?_
              refine n_K ?_
              first | refine ⟨(i + 1, u, l), ⟨by simp only; omega, by rw [hs1]; exact k1, fun _ => hz⟩, by simp only; omega, (by rw [hs1]; exact (by repeat' first | exact Keep.nil | refine Keep.cons rfl ?_)), (by repeat' first | exact Keep.nil | refine Keep.cons rfl ?_), _, (by repeat (first | exact Split.nil | (apply Split.cons; next => repeat (first | exact Pick.here | apply Pick.there | apply Pick.app)) | (apply Split.chunk; next => repeat (first | exact PickL.here | exact PickL.last | apply PickL.there | apply PickL.app)) | (apply Split.lst; repeat (first | exact PickL.here | exact PickL.last | apply PickL.there | apply PickL.app))))⟩ | refine ⟨(i + 1, u46, l46), ⟨by simp only; omega, by rw [hs1]; exact ⟨hu46, hl46⟩, fun _ => hz⟩, by simp only; omega, (by rw [hs1]; exact (by repeat' first | exact Keep.nil | refine Keep.cons rfl ?_)), (by repeat' first | exact Keep.nil | refine Keep.cons rfl ?_), _, (by repeat (first | exact Split.nil | (apply Split.cons; next => repeat (first | exact Pick.here | apply Pick.there | apply Pick.app)) | (apply Split.chunk; next => repeat (first | exact PickL.here | exact PickL.last | apply PickL.there | apply PickL.app)) | (apply Split.lst; repeat (first | exact PickL.here | exact PickL.last | apply PickL.there | apply PickL.app))))⟩
            · skip
              have hs1 : scanU c k (i + 1) = { scanU c k i with last := (if blankB (readP c k i) = true then (scanU c k i).last else (i : Int) + 1) } := (by rw [hsc]; unfold scan1; simp only []; rw [if_neg (by rw [c59]; exact Bool.false_ne_true)])
              rw [hla] at hs1
              refine s_skip ?_
              refine n_blk ?_
              refine n_K ?_
              refine s_region0 (fun ops => ?_)
              refine o_rd (rd_add64 rfl rfl (by omega)) rfl ?_
              refine o_rd (rd_move rfl) rfl ?_
              refine o_nil ?_
              refine n_K ?_
              first | refine ⟨(i + 1, u, l), ⟨by simp only; omega, by rw [hs1]; exact k1, fun _ => hz⟩, by simp only; omega, (by rw [hs1]; exact (by repeat' first | exact Keep.nil | refine Keep.cons rfl ?_)), (by repeat' first | exact Keep.nil | refine Keep.cons rfl ?_), _, (by repeat (first | exact Split.nil | (apply Split.cons; next => repeat (first | exact Pick.here | apply Pick.there | apply Pick.app)) | (apply Split.chunk; next => repeat (first | exact PickL.here | exact PickL.last | apply PickL.there | apply PickL.app)) | (apply Split.lst; repeat (first | exact PickL.here | exact PickL.last | apply PickL.there | apply PickL.app))))⟩ | refine ⟨(i + 1, u46, l46), ⟨by simp only; omega, by rw [hs1]; exact ⟨hu46, hl46⟩, fun _ => hz⟩, by simp only; omega, (by rw [hs1]; exact (by repeat' first | exact Keep.nil | refine Keep.cons rfl ?_)), (by repeat' first | exact Keep.nil | refine Keep.cons rfl ?_), _, (by repeat (first | exact Split.nil | (apply Split.cons; next => repeat (first | exact Pick.here | apply Pick.there | apply Pick.app)) | (apply Split.chunk; next => repeat (first | exact PickL.here | exact PickL.last | apply PickL.there | apply PickL.app)) | (apply Split.lst; repeat (first | exact PickL.here | exact PickL.last | apply PickL.there | apply PickL.app))))⟩
        · skip
          have hla : (if blankB (readP c k i) = true then (scanU c k i).last else (i : Int) + 1) = (scanU c k i).last := (by rw [if_pos (by simpa using c39)])
          refine s_skip ?_
          refine n_K ?_
          refine s_seq ?_
          refine s_drawT [] [(11, (.fork [(0, false), (1, false)] 2 (.fork [] 3 (.one [(4, false), (5, false), (6, false), (7, false), (8, true), (9, true), (10, false)]) 8 (.one [(3, true), (4, false), (5, false), (6, false), (7, false), (9, true), (10, false)])) 8 (.one [(2, true), (3, true), (4, false), (5, false), (6, false), (7, false), (9, true), (10, false)]))), (12, (.one [(11, false)]))] (by kernel_rfl) rfl (fun ops w0 H0 y => ?_)
          refine pt_all ?_
          refine t_fork ?_ rfl
          refine x_rd (rd_ldA rfl (by repeat' first | exact List.Mem.head _ | apply List.Mem.tail | apply List.mem_append_right) (by first | exact cut_vb | rfl)) rfl ?_
          refine x_rd (rd_move rfl) rfl ?_
          refine x_nil ⟨⟨_, (by repeat (first | exact Split.nil | (apply Split.cons; next => repeat (first | exact Pick.here | apply Pick.there | apply Pick.app)) | (apply Split.chunk; next => repeat (first | exact PickL.here | exact PickL.last | apply PickL.there | apply PickL.app)) | (apply Split.lst; repeat (first | exact PickL.here | exact PickL.last | apply PickL.there | apply PickL.app))))⟩, ?_, ?_⟩
          refine x_so ?_
          refine c_is rfl (blocks_fn) (by repeat (first | exact Split.nil | (apply Split.cons; next => repeat (first | exact Pick.here | apply Pick.there | apply Pick.app)) | (apply Split.chunk; next => repeat (first | exact PickL.here | exact PickL.last | apply PickL.there | apply PickL.app)) | (apply Split.lst; repeat (first | exact PickL.here | exact PickL.last | apply PickL.there | apply PickL.app)))) rfl (by repeat (first | exact Ap.nil | apply Ap.cons | apply Ap.app | exact Ap.one)) ?_
          refine o_nil ⟨rfl, ⟨_, (by repeat (first | exact Split.nil | (apply Split.cons; next => repeat (first | exact Pick.here | apply Pick.there | apply Pick.app)) | (apply Split.chunk; next => repeat (first | exact PickL.here | exact PickL.last | apply PickL.there | apply PickL.app)) | (apply Split.lst; repeat (first | exact PickL.here | exact PickL.last | apply PickL.there | apply PickL.app))))⟩, ?_⟩
          refine x_nil ?_
          refine t_fork ?_ rfl
          refine x_nil ⟨⟨_, (by repeat (first | exact Split.nil | (apply Split.cons; next => repeat (first | exact Pick.here | apply Pick.there | apply Pick.app)) | (apply Split.chunk; next => repeat (first | exact PickL.here | exact PickL.last | apply PickL.there | apply PickL.app)) | (apply Split.lst; repeat (first | exact PickL.here | exact PickL.last | apply PickL.there | apply PickL.app))))⟩, ?_, ?_⟩
          refine x_so ?_
          refine c_ex rfl (read_fn2 (q := readP c k i) (n := c.blocks.length)) (by repeat (first | exact Split.nil | (apply Split.cons; next => repeat (first | exact Pick.here | apply Pick.there | apply Pick.app)) | (apply Split.chunk; next => repeat (first | exact PickL.here | exact PickL.last | apply PickL.there | apply PickL.app)) | (apply Split.lst; repeat (first | exact PickL.here | exact PickL.last | apply PickL.there | apply PickL.app)))) rfl (fun v46 Y46 h46 => ?_)
          obtain ⟨u46, l46, rfl, rfl, hu46, hl46, ou46, ol46⟩ := h46
          refine so_ap (by repeat (first | exact Ap.nil | apply Ap.cons | apply Ap.app | exact Ap.one)) ?_
          refine o_nil ⟨rfl, ⟨_, (by repeat (first | exact Split.nil | (apply Split.cons; next => repeat (first | exact Pick.here | apply Pick.there | apply Pick.app)) | (apply Split.chunk; next => repeat (first | exact PickL.here | exact PickL.last | apply PickL.there | apply PickL.app)) | (apply Split.lst; repeat (first | exact PickL.here | exact PickL.last | apply PickL.there | apply PickL.app))))⟩, ?_⟩
          refine x_nil ?_
          refine t_one ?_
          refine x_rd (rd_move rfl) rfl ?_
          refine x_rd (rd_extract rfl rfl) rfl ?_
          refine x_rd (rd_extract rfl rfl) rfl ?_
          refine x_rd (rd_extract rfl rfl) rfl ?_
          refine x_so ?_
          refine o_alloc rfl (fun b15 => ?_)
          refine o_nil ⟨rfl, ⟨_, (by repeat (first | exact Split.nil | (apply Split.cons; next => repeat (first | exact Pick.here | apply Pick.there | apply Pick.app)) | (apply Split.chunk; next => repeat (first | exact PickL.here | exact PickL.last | apply PickL.there | apply PickL.app)) | (apply Split.lst; repeat (first | exact PickL.here | exact PickL.last | apply PickL.there | apply PickL.app))))⟩, ?_⟩
          refine x_so ?_
          refine o_store rfl rfl (by repeat' first | exact Upd.here | apply Upd.there | apply Upd.app) rfl rfl rfl ?_
          refine o_nil ⟨rfl, ⟨_, (by repeat (first | exact Split.nil | (apply Split.cons; next => repeat (first | exact Pick.here | apply Pick.there | apply Pick.app)) | (apply Split.chunk; next => repeat (first | exact PickL.here | exact PickL.last | apply PickL.there | apply PickL.app)) | (apply Split.lst; repeat (first | exact PickL.here | exact PickL.last | apply PickL.there | apply PickL.app))))⟩, ?_⟩
          refine x_rd (rd_assign rfl) rfl ?_
          refine x_nil ?_
          rotate_left
          refine x_so ?_
          refine o_alloc rfl (fun b15 => ?_)
          refine o_nil ⟨rfl, ⟨_, (by repeat (first | exact Split.nil | (apply Split.cons; next => repeat (first | exact Pick.here | apply Pick.there | apply Pick.app)) | (apply Split.chunk; next => repeat (first | exact PickL.here | exact PickL.last | apply PickL.there | apply PickL.app)) | (apply Split.lst; repeat (first | exact PickL.here | exact PickL.last | apply PickL.there | apply PickL.app))))⟩, ?_⟩
          refine x_nil ?_
          refine t_one ?_
          refine x_so ?_
          refine c_ex rfl (read_fn2 (q := readP c k i) (n := c.blocks.length)) (by repeat (first | exact Split.nil | (apply Split.cons; next => repeat (first | exact Pick.here | apply Pick.there | apply Pick.app)) | (apply Split.chunk; next => repeat (first | exact PickL.here | exact PickL.last | apply PickL.there | apply PickL.app)) | (apply Split.lst; repeat (first | exact PickL.here | exact PickL.last | apply PickL.there | apply PickL.app)))) rfl (fun v46 Y46 h46 => ?_)
          obtain ⟨u46, l46, rfl, rfl, hu46, hl46, ou46, ol46⟩ := h46
          refine so_ap (by repeat (first | exact Ap.nil | apply Ap.cons | apply Ap.app | exact Ap.one)) ?_
          refine o_nil ⟨rfl, ⟨_, (by repeat (first | exact Split.nil | (apply Split.cons; next => repeat (first | exact Pick.here | apply Pick.there | apply Pick.app)) | (apply Split.chunk; next => repeat (first | exact PickL.here | exact PickL.last | apply PickL.there | apply PickL.app)) | (apply Split.lst; repeat (first | exact PickL.here | exact PickL.last | apply PickL.there | apply PickL.app))))⟩, ?_⟩
          refine x_rd (rd_move rfl) rfl ?_
          refine x_rd (rd_extract rfl rfl) rfl ?_
          refine x_rd (rd_extract rfl rfl) rfl ?_
          refine x_rd (rd_extract rfl rfl) rfl ?_
          refine x_so ?_
          refine o_store rfl rfl (by repeat' first | exact Upd.here | apply Upd.there | apply Upd.app) rfl rfl rfl ?_
          refine o_nil ⟨rfl, ⟨_, (by repeat (first | exact Split.nil | (apply Split.cons; next => repeat (first | exact Pick.here | apply Pick.there | apply Pick.app)) | (apply Split.chunk; next => repeat (first | exact PickL.here | exact PickL.last | apply PickL.there | apply PickL.app)) | (apply Split.lst; repeat (first | exact PickL.here | exact PickL.last | apply PickL.there | apply PickL.app))))⟩, ?_⟩
          refine x_rd (rd_assign rfl) rfl ?_
          refine x_nil ?_
          rotate_left
          refine x_so ?_
          refine o_alloc rfl (fun b15 => ?_)
          refine o_nil ⟨rfl, ⟨_, (by repeat (first | exact Split.nil | (apply Split.cons; next => repeat (first | exact Pick.here | apply Pick.there | apply Pick.app)) | (apply Split.chunk; next => repeat (first | exact PickL.here | exact PickL.last | apply PickL.there | apply PickL.app)) | (apply Split.lst; repeat (first | exact PickL.here | exact PickL.last | apply PickL.there | apply PickL.app))))⟩, ?_⟩
          refine x_nil ?_
          refine t_one ?_
          refine x_so ?_
          refine c_is rfl (blocks_fn) (by repeat (first | exact Split.nil | (apply Split.cons; next => repeat (first | exact Pick.here | apply Pick.there | apply Pick.app)) | (apply Split.chunk; next => repeat (first | exact PickL.here | exact PickL.last | apply PickL.there | apply PickL.app)) | (apply Split.lst; repeat (first | exact PickL.here | exact PickL.last | apply PickL.there | apply PickL.app)))) rfl (by repeat (first | exact Ap.nil | apply Ap.cons | apply Ap.app | exact Ap.one)) ?_
          refine o_nil ⟨rfl, ⟨_, (by repeat (first | exact Split.nil | (apply Split.cons; next => repeat (first | exact Pick.here | apply Pick.there | apply Pick.app)) | (apply Split.chunk; next => repeat (first | exact PickL.here | exact PickL.last | apply PickL.there | apply PickL.app)) | (apply Split.lst; repeat (first | exact PickL.here | exact PickL.last | apply PickL.there | apply PickL.app))))⟩, ?_⟩
          refine x_so ?_
          refine c_ex rfl (read_fn2 (q := readP c k i) (n := c.blocks.length)) (by repeat (first | exact Split.nil | (apply Split.cons; next => repeat (first | exact Pick.here | apply Pick.there | apply Pick.app)) | (apply Split.chunk; next => repeat (first | exact PickL.here | exact PickL.last | apply PickL.there | apply PickL.app)) | (apply Split.lst; repeat (first | exact PickL.here | exact PickL.last | apply PickL.there | apply PickL.app)))) rfl (fun v46 Y46 h46 => ?_)
          obtain ⟨u46, l46, rfl, rfl, hu46, hl46, ou46, ol46⟩ := h46
          refine so_ap (by repeat (first | exact Ap.nil | apply Ap.cons | apply Ap.app | exact Ap.one)) ?_
          refine o_nil ⟨rfl, ⟨_, (by repeat (first | exact Split.nil | (apply Split.cons; next => repeat (first | exact Pick.here | apply Pick.there | apply Pick.app)) | (apply Split.chunk; next => repeat (first | exact PickL.here | exact PickL.last | apply PickL.there | apply PickL.app)) | (apply Split.lst; repeat (first | exact PickL.here | exact PickL.last | apply PickL.there | apply PickL.app))))⟩, ?_⟩
          refine x_rd (rd_move rfl) rfl ?_
          refine x_rd (rd_extract rfl rfl) rfl ?_
          refine x_rd (rd_extract rfl rfl) rfl ?_
          refine x_rd (rd_extract rfl rfl) rfl ?_
          refine x_so ?_
          refine o_store rfl rfl (by repeat' first | exact Upd.here | apply Upd.there | apply Upd.app) rfl rfl rfl ?_
          refine o_nil ⟨rfl, ⟨_, (by repeat (first | exact Split.nil | (apply Split.cons; next => repeat (first | exact Pick.here | apply Pick.there | apply Pick.app)) | (apply Split.chunk; next => repeat (first | exact PickL.here | exact PickL.last | apply PickL.there | apply PickL.app)) | (apply Split.lst; repeat (first | exact PickL.here | exact PickL.last | apply PickL.there | apply PickL.app))))⟩, ?_⟩
          refine x_rd (rd_assign rfl) rfl ?_
          refine x_nil ?_
          rotate_left
          all_goals
            refine pt_all ?_
            refine t_one ?_
            refine x_rd (rd_assign rfl) rfl ?_
            refine x_nil ?_
            refine pt_end ?_
            refine n_K ?_
            refine s_seq ?_
            refine s_region [(1, 51), (4, 54)] rfl (fun ops y => ?_)
            refine o_rd (rd_move rfl) rfl ?_
            refine o_rd (rd_move rfl) rfl ?_
            refine' o_and (j := 1) (k := 7) y rfl rfl rfl rfl rfl rfl rfl (fun hg51 => ?_) ?_
            rotate_left
            · try simp at hg51
              refine o_g y rfl rfl ?_
              refine o_rd (rd_move rfl) rfl ?_
              refine o_g y rfl rfl ?_
              refine o_rd (rd_not rfl) rfl ?_
              refine o_g y rfl rfl ?_
              refine o_rd (rd_move rfl) rfl ?_
              refine' o_or (j := 4) (k := 3) y rfl rfl rfl rfl rfl rfl rfl (fun hg54 => ?_) ?_
              rotate_left
              · try simp at hg54
                refine o_g y rfl rfl ?_
                refine o_rd (rd_move rfl) rfl ?_
                refine o_g y rfl rfl ?_
                refine o_rd (rd_move rfl) rfl ?_
                refine o_g y rfl rfl ?_
                refine o_rd (rd_bin rfl rfl rfl) rfl ?_
                exact o_nil ⟨rfl, rfl, ⟨_, (by repeat (first | exact Split.nil | (apply Split.cons; next => repeat (first | exact Pick.here | apply Pick.there | apply Pick.app)) | (apply Split.chunk; next => repeat (first | exact PickL.here | exact PickL.last | apply PickL.there | apply PickL.app)) | (apply Split.lst; repeat (first | exact PickL.here | exact PickL.last | apply PickL.there | apply PickL.app))))⟩⟩
              exact o_nil ⟨rfl, rfl, ⟨_, (by repeat (first | exact Split.nil | (apply Split.cons; next => repeat (first | exact Pick.here | apply Pick.there | apply Pick.app)) | (apply Split.chunk; next => repeat (first | exact PickL.here | exact PickL.last | apply PickL.there | apply PickL.app)) | (apply Split.lst; repeat (first | exact PickL.here | exact PickL.last | apply PickL.there | apply PickL.app))))⟩⟩
            refine o_nil ?_
            refine n_K ?_
            refine s_cond rfl (fun c59 => ?_) (fun c59 => ?_)
            · skip
              have hs1 : scanU c k (i + 1) = ⟨(if blankB (readP c k i) = true then (scanU c k i).last else (i : Int) + 1), (readT (readP c k i) c.blocks.length).1, (readT (readP c k i) c.blocks.length).2.1, (readT (readP c k i) c.blocks.length).2.2.1, i, true⟩ := (by rw [hsc]; unfold scan1; simp only []; rw [if_pos c59])
              rw [hla] at hs1
              refine s_region0 (fun ops => ?_)
              refine o_rd (rd_ldA rfl (by repeat' first | exact List.Mem.head _ | apply List.Mem.tail | apply List.mem_append_right) rfl) rfl ?_
              refine o_rd (rd_move rfl) rfl ?_
              refine o_rd (rd_move rfl) rfl ?_
              refine o_store rfl rfl (by repeat' first | exact Upd.here | apply Upd.there | apply Upd.app) rfl rfl rfl ?_
              refine o_rd (rd_assign rfl) rfl ?_
              refine o_rd (rd_assign rfl) rfl ?_
              refine o_rd (rd_assign rfl) rfl ?_
              refine o_nil ?_
              refine n_blk ?_
              refine n_K ?_
              refine s_region0 (fun ops => ?_)
              refine o_rd (rd_add64 rfl rfl (by omega)) rfl ?_
              refine o_rd (rd_move rfl) rfl ?_
              refine o_nil ?_
              refine n_K ?_
              first | refine ⟨(i + 1, u, l), ⟨by simp only; omega, by rw [hs1]; exact k1, fun _ => hz⟩, by simp only; omega, (by rw [hs1]; exact (by repeat' first | exact Keep.nil | refine Keep.cons rfl ?_)), (by repeat' first | exact Keep.nil | refine Keep.cons rfl ?_), _, (by repeat (first | exact Split.nil | (apply Split.cons; next => repeat (first | exact Pick.here | apply Pick.there | apply Pick.app)) | (apply Split.chunk; next => repeat (first | exact PickL.here | exact PickL.last | apply PickL.there | apply PickL.app)) | (apply Split.lst; repeat (first | exact PickL.here | exact PickL.last | apply PickL.there | apply PickL.app))))⟩ | refine ⟨(i + 1, u46, l46), ⟨by simp only; omega, by rw [hs1]; exact ⟨hu46, hl46⟩, fun _ => hz⟩, by simp only; omega, (by rw [hs1]; exact (by repeat' first | exact Keep.nil | refine Keep.cons rfl ?_)), (by repeat' first | exact Keep.nil | refine Keep.cons rfl ?_), _, (by repeat (first | exact Split.nil | (apply Split.cons; next => repeat (first | exact Pick.here | apply Pick.there | apply Pick.app)) | (apply Split.chunk; next => repeat (first | exact PickL.here | exact PickL.last | apply PickL.there | apply PickL.app)) | (apply Split.lst; repeat (first | exact PickL.here | exact PickL.last | apply PickL.there | apply PickL.app))))⟩
            · skip
              have hs1 : scanU c k (i + 1) = { scanU c k i with last := (if blankB (readP c k i) = true then (scanU c k i).last else (i : Int) + 1) } := (by rw [hsc]; unfold scan1; simp only []; rw [if_neg (by rw [c59]; exact Bool.false_ne_true)])
              rw [hla] at hs1
              refine s_skip ?_
              refine n_blk ?_
              refine n_K ?_
              refine s_region0 (fun ops => ?_)
              refine o_rd (rd_add64 rfl rfl (by omega)) rfl ?_
              refine o_rd (rd_move rfl) rfl ?_
              refine o_nil ?_
              refine n_K ?_
              first | refine ⟨(i + 1, u, l), ⟨by simp only; omega, by rw [hs1]; exact k1, fun _ => hz⟩, by simp only; omega, (by rw [hs1]; exact (by repeat' first | exact Keep.nil | refine Keep.cons rfl ?_)), (by repeat' first | exact Keep.nil | refine Keep.cons rfl ?_), _, (by repeat (first | exact Split.nil | (apply Split.cons; next => repeat (first | exact Pick.here | apply Pick.there | apply Pick.app)) | (apply Split.chunk; next => repeat (first | exact PickL.here | exact PickL.last | apply PickL.there | apply PickL.app)) | (apply Split.lst; repeat (first | exact PickL.here | exact PickL.last | apply PickL.there | apply PickL.app))))⟩ | refine ⟨(i + 1, u46, l46), ⟨by simp only; omega, by rw [hs1]; exact ⟨hu46, hl46⟩, fun _ => hz⟩, by simp only; omega, (by rw [hs1]; exact (by repeat' first | exact Keep.nil | refine Keep.cons rfl ?_)), (by repeat' first | exact Keep.nil | refine Keep.cons rfl ?_), _, (by repeat (first | exact Split.nil | (apply Split.cons; next => repeat (first | exact Pick.here | apply Pick.there | apply Pick.app)) | (apply Split.chunk; next => repeat (first | exact PickL.here | exact PickL.last | apply PickL.there | apply PickL.app)) | (apply Split.lst; repeat (first | exact PickL.here | exact PickL.last | apply PickL.there | apply PickL.app))))⟩
    · simp only [decide_eq_true_eq, decide_eq_false_iff_not] at c25
      have hi8 : i = 8 := (by omega)
      subst hi8
      have hz : mayE c 0 0 = 0 := k2 (by omega)
      have hop : openU c (k + 1) = open1 c k (openU c k) := rfl
      rw [show openU c k = ((openU c k).1, (openU c k).2) from rfl, ← h1] at hop
      refine s_exit ?_
      refine x_K ?_
      refine x_K ?_
      refine x_blk ?_
      refine n_K ?_
      refine s_seq ?_
      refine s_region [(1, 65), (4, 68)] rfl (fun ops y => ?_)
      refine o_rd (rd_move rfl) rfl ?_
      refine o_rd (rd_move rfl) rfl ?_
      refine' o_and (j := 1) (k := 10) y rfl rfl rfl rfl rfl rfl rfl (fun hg65 => ?_) ?_
      rotate_left
      · try simp at hg65
        refine o_g y rfl rfl ?_
        refine o_rd (rd_move rfl) rfl ?_
        refine o_g y rfl rfl ?_
        refine o_rd (rd_not rfl) rfl ?_
        refine o_g y rfl rfl ?_
        refine o_rd (rd_move rfl) rfl ?_
        refine' o_or (j := 4) (k := 6) y rfl rfl rfl rfl rfl rfl rfl (fun hg68 => ?_) ?_
        rotate_left
        · try simp at hg68
          refine o_g y rfl rfl ?_
          refine o_rd (rd_move rfl) rfl ?_
          refine o_g y rfl rfl ?_
          refine o_rd (rd_move rfl) rfl ?_
          refine o_g y rfl rfl ?_
          refine o_rd (rd_nil rfl) rfl ?_
          refine o_g y rfl rfl ?_
          refine o_rd (rd_field rfl) rfl ?_
          refine o_g y rfl rfl ?_
          refine o_rd (rd_ld rfl (by repeat' first | exact List.Mem.head _ | apply List.Mem.tail | apply List.mem_append_right) rfl) rfl ?_
          refine o_g y rfl rfl ?_
          refine o_rd (rd_bin rfl rfl rfl) rfl ?_
          exact o_nil ⟨rfl, rfl, ⟨_, (by repeat (first | exact Split.nil | (apply Split.cons; next => repeat (first | exact Pick.here | apply Pick.there | apply Pick.app)) | (apply Split.chunk; next => repeat (first | exact PickL.here | exact PickL.last | apply PickL.there | apply PickL.app)) | (apply Split.lst; repeat (first | exact PickL.here | exact PickL.last | apply PickL.there | apply PickL.app))))⟩⟩
        exact o_nil ⟨rfl, rfl, ⟨_, (by repeat (first | exact Split.nil | (apply Split.cons; next => repeat (first | exact Pick.here | apply Pick.there | apply Pick.app)) | (apply Split.chunk; next => repeat (first | exact PickL.here | exact PickL.last | apply PickL.there | apply PickL.app)) | (apply Split.lst; repeat (first | exact PickL.here | exact PickL.last | apply PickL.there | apply PickL.app))))⟩⟩
      refine o_nil ?_
      refine n_K ?_
      refine s_cond rfl (fun c76 => ?_) (fun c76 => ?_)
      · skip
        have ho1 : openU c (k + 1) = (⟨(scanU c k 8).uses, (scanU c k 8).lost, (scanU c k 8).newest, k, (scanU c k 8).last, (scanU c k 8).at'⟩, true) := (by rw [hop]; exact if_pos c76)
        refine s_region0 (fun ops => ?_)
        refine o_rd (rd_move rfl) rfl ?_
        refine o_rd (rd_move rfl) rfl ?_
        refine o_rd (rd_move rfl) rfl ?_
        refine o_rd (rd_move rfl) rfl ?_
        refine o_rd (rd_move rfl) rfl ?_
        refine o_rd (rd_ldA rfl (by repeat' first | exact List.Mem.head _ | apply List.Mem.tail | apply List.mem_append_right) rfl) rfl ?_
        refine o_rd (rd_move rfl) rfl ?_
        refine o_rd (rd_move rfl) rfl ?_
        refine o_rd (rd_move rfl) rfl ?_
        refine o_rd (rd_move rfl) rfl ?_
        refine o_rd (rd_nil rfl) rfl ?_
        refine o_rd (rd_field rfl) rfl ?_
        refine o_store rfl rfl (by repeat' first | exact Upd.here | apply Upd.there | apply Upd.app) rfl rfl rfl ?_
        refine o_rd (rd_nil rfl) rfl ?_
        refine o_rd (rd_field rfl) rfl ?_
        refine o_store rfl rfl (by repeat' first | exact Upd.here | apply Upd.there | apply Upd.app) rfl rfl rfl ?_
        refine o_rd (rd_nil rfl) rfl ?_
        refine o_rd (rd_field rfl) rfl ?_
        refine o_store rfl rfl (by repeat' first | exact Upd.here | apply Upd.there | apply Upd.app) rfl rfl rfl ?_
        refine o_rd (rd_nil rfl) rfl ?_
        refine o_rd (rd_field rfl) rfl ?_
        refine o_store rfl rfl (by repeat' first | exact Upd.here | apply Upd.there | apply Upd.app) rfl rfl rfl ?_
        refine o_rd (rd_nil rfl) rfl ?_
        refine o_rd (rd_field rfl) rfl ?_
        refine o_store rfl rfl (by repeat' first | exact Upd.here | apply Upd.there | apply Upd.app) rfl rfl rfl ?_
        refine o_rd (rd_assign rfl) rfl ?_
        refine o_nil ?_
        refine n_blk ?_
        refine n_K ?_
        refine s_region0 (fun ops => ?_)
        refine o_rd (rd_add64 rfl rfl (by omega)) rfl ?_
        refine o_rd (rd_move rfl) rfl ?_
        refine o_nil ?_
        refine n_K ?_
        first | refine ⟨(k + 1, t), ⟨by simp only; omega, by rw [ho1]; exact h1, h2, fun _ => hz⟩, by simp only; omega, (by rw [ho1]; exact (by repeat' first | exact Keep.nil | refine Keep.cons rfl ?_)), (by repeat' first | exact Keep.nil | refine Keep.cons rfl ?_), _, (by repeat (first | exact Split.nil | (apply Split.cons; next => repeat (first | exact Pick.here | apply Pick.there | apply Pick.app)) | (apply Split.chunk; next => repeat (first | exact PickL.here | exact PickL.last | apply PickL.there | apply PickL.app)) | (apply Split.lst; repeat (first | exact PickL.here | exact PickL.last | apply PickL.there | apply PickL.app))))⟩ | refine ⟨(k + 1, ⟨b20, u, l, (scanU c k 8).newest, k, (scanU c k 8).last, (scanU c k 8).at'⟩), ⟨by simp only; omega, by rw [ho1]; show TS.mk _ _ _ _ _ _ = _; rw [k1.1, k1.2], rfl, fun _ => hz⟩, by simp only; omega, (by rw [ho1]; exact (by repeat' first | exact Keep.nil | refine Keep.cons rfl ?_)), (by repeat' first | exact Keep.nil | refine Keep.cons rfl ?_), _, (by repeat (first | exact Split.nil | (apply Split.cons; next => repeat (first | exact Pick.here | apply Pick.there | apply Pick.app)) | (apply Split.chunk; next => repeat (first | exact PickL.here | exact PickL.last | apply PickL.there | apply PickL.app)) | (apply Split.lst; repeat (first | exact PickL.here | exact PickL.last | apply PickL.there | apply PickL.app))))⟩
      · skip
        have ho1 : openU c (k + 1) = openU c k := (by rw [hop]; refine (if_neg (by intro h; have h' := h.symm.trans c76; cases h')).trans ?_; rw [h1])
        refine s_skip ?_
        refine n_blk ?_
        refine n_K ?_
        refine s_region0 (fun ops => ?_)
        refine o_rd (rd_add64 rfl rfl (by omega)) rfl ?_
        refine o_rd (rd_move rfl) rfl ?_
        refine o_nil ?_
        refine n_K ?_
        first | refine ⟨(k + 1, t), ⟨by simp only; omega, by rw [ho1]; exact h1, h2, fun _ => hz⟩, by simp only; omega, (by rw [ho1]; exact (by repeat' first | exact Keep.nil | refine Keep.cons rfl ?_)), (by repeat' first | exact Keep.nil | refine Keep.cons rfl ?_), _, (by repeat (first | exact Split.nil | (apply Split.cons; next => repeat (first | exact Pick.here | apply Pick.there | apply Pick.app)) | (apply Split.chunk; next => repeat (first | exact PickL.here | exact PickL.last | apply PickL.there | apply PickL.app)) | (apply Split.lst; repeat (first | exact PickL.here | exact PickL.last | apply PickL.there | apply PickL.app))))⟩ | refine ⟨(k + 1, ⟨b20, u, l, (scanU c k 8).newest, k, (scanU c k 8).last, (scanU c k 8).at'⟩), ⟨by simp only; omega, by rw [ho1]; show TS.mk _ _ _ _ _ _ = _; rw [k1.1, k1.2], rfl, fun _ => hz⟩, by simp only; omega, (by rw [ho1]; exact (by repeat' first | exact Keep.nil | refine Keep.cons rfl ?_)), (by repeat' first | exact Keep.nil | refine Keep.cons rfl ?_), _, (by repeat (first | exact Split.nil | (apply Split.cons; next => repeat (first | exact Pick.here | apply Pick.there | apply Pick.app)) | (apply Split.chunk; next => repeat (first | exact PickL.here | exact PickL.last | apply PickL.there | apply PickL.app)) | (apply Split.lst; repeat (first | exact PickL.here | exact PickL.last | apply PickL.there | apply PickL.app))))⟩
  · simp only [decide_eq_true_eq, decide_eq_false_iff_not] at c22
    have hk2 : k = 2 := (by omega)
    subst hk2
    have hz : mayE c 0 0 = 0 := h3 (by omega)
    refine s_exit ?_
    refine x_K ?_
    refine x_K ?_
    refine x_blk ?_
    refine n_K ?_
    refine s_seq ?_
    refine s_seq ?_
    refine s_region0 (fun ops => ?_)
    refine o_rd (rd_move rfl) rfl ?_
    refine o_rd (rd_not rfl) rfl ?_
    refine o_nil ?_
    refine n_K ?_
    refine s_cond rfl (fun c99 => ?_) (fun c99 => ?_)
    · skip
      have hres : openC c = (35, ts0) := (by unfold openC; rw [if_neg (by rw [hz]; simp), if_neg (by simpa using c99)])
      refine s_seq ?_
      refine s_region0 (fun ops => ?_)
      refine o_rd (rd_assign rfl) rfl ?_
      refine o_rd (rd_assign rfl) rfl ?_
      refine o_nil ?_
      refine n_K ?_
      refine s_ret ?_
      refine r_K ?_
      exact leaf_r (rets2 Tryz.results21 (rv_tmp rfl) (rv_tmp rfl)) (by unfold OpenR; rw [if_neg (by rw [hres]; decide), hres]; exact ⟨rfl, rfl⟩) (by repeat (first | exact Split.nil | (apply Split.cons; next => repeat (first | exact Pick.here | apply Pick.there | apply Pick.app)) | (apply Split.chunk; next => repeat (first | exact PickL.here | exact PickL.last | apply PickL.there | apply PickL.app)) | (apply Split.lst; repeat (first | exact PickL.here | exact PickL.last | apply PickL.there | apply PickL.app))))
    · skip
      have hres : openC c = (0, (openU c 2).1) := (by unfold openC; rw [if_neg (by rw [hz]; simp), if_pos (by simpa using c99)])
      refine s_skip ?_
      refine n_K ?_
      refine s_seq ?_
      refine s_region0 (fun ops => ?_)
      refine o_rd (rd_move rfl) rfl ?_
      refine o_rd (rd_assign rfl) rfl ?_
      refine o_rd (rd_assign rfl) rfl ?_
      refine o_nil ?_
      refine n_K ?_
      refine s_ret ?_
      exact leaf_r (rets2 Tryz.results21 (rv_tmp rfl) (rv_tmp rfl)) (by unfold OpenR; rw [if_pos (by rw [hres])]; exact ⟨t, by rw [h2], rfl, by rw [hres, h1]⟩) (by rw [tabH_eq, h2]; simp only [List.cons_append, List.append_assoc, List.nil_append]; exact (by repeat (first | exact Split.nil | (apply Split.cons; next => repeat (first | exact Pick.here | apply Pick.there | apply Pick.app)) | (apply Split.chunk; next => repeat (first | exact PickL.here | exact PickL.last | apply PickL.there | apply PickL.app)) | (apply Split.lst; repeat (first | exact PickL.here | exact PickL.last | apply PickL.there | apply PickL.app)))))
theorem open2_fn {c : Chip} (hb : 2 ≤ c.blocks.length ∧ c.blocks.length ≤ 1000) : Does Tryz.prog 21 [ptr c.aC] (chH c) (fun v H => (∃ t : Tab, v = .tuple #[ptr t.b, .int .i64 0] ∧ H = tabH c.aC t ++ (chH c ++ []) ∧ t.ts = (openC c).2 ∧ (openC c).1 = 0) ∨ (v = .tuple #[.pointer none, .int .i64 (openC c).1] ∧ H = chH c ++ [] ∧ (openC c).1 ≠ 0)) :=
  (open_fn hb).mono fun v H h => by
    unfold OpenR at h
    split at h
    · rename_i h0; obtain ⟨t, h1, h2, h3⟩ := h; exact .inl ⟨t, h1, h2, h3, h0⟩
    · rename_i h0; exact .inr ⟨h.1, h.2, h0⟩
/-- What Format gives. -/
def FormatR (a : Nat) (c : Chip) (v : Value) (H : Hp) : Prop :=
  (∃ t : Tab, v = .tuple #[ptr t.b, .int .i64 0] ∧ H = tabH a t ++ (chH (formatC c).2.2 ++ []) ∧ t.ts = (formatC c).2.1 ∧ (formatC c).1 = 0) ∨ (v = .tuple #[.pointer none, .int .i64 (formatC c).1] ∧ H = chH (formatC c).2.2 ++ [] ∧ (formatC c).1 ≠ 0)
theorem format_fn {c : Chip} (hb : 2 ≤ c.blocks.length ∧ c.blocks.length ≤ 1000) : Does Tryz.prog 15 [ptr c.aC] (chH c) (FormatR c.aC c) := by
  refine fn_enter (n := 124) Tryz.func15 Tryz.ntmps15 rfl (Nat.le_of_ble_eq_true rfl) ?_
  refine s_seq ?_
  refine s_region0 (fun ops => ?_)
  refine o_rd (rd_assign rfl) rfl ?_
  refine o_rd (rd_assign rfl) rfl ?_
  refine o_nil ?_
  refine n_K ?_
  refine s_seq ?_
  refine s_seq ?_
  refine s_region0 (fun ops => ?_)
  refine o_rd (rd_move rfl) rfl ?_
  refine c_is rfl (answers_fn) (by repeat (first | exact Split.nil | (apply Split.cons; next => repeat (first | exact Pick.here | apply Pick.there | apply Pick.app)) | (apply Split.chunk; next => repeat (first | exact PickL.here | exact PickL.last | apply PickL.there | apply PickL.app)) | (apply Split.lst; repeat (first | exact PickL.here | exact PickL.last | apply PickL.there | apply PickL.app)))) rfl (by repeat (first | exact Ap.nil | apply Ap.cons | apply Ap.app | exact Ap.one)) ?_
  refine o_rd (rd_assign rfl) rfl ?_
  refine o_nil ?_
  refine n_K ?_
  refine s_seq ?_
  refine s_region0 (fun ops => ?_)
  refine o_rd (rd_move rfl) rfl ?_
  refine o_rd (rd_bin rfl rfl rfl) rfl ?_
  refine o_nil ?_
  refine n_K ?_
  refine s_cond rfl (fun c14 => ?_) (fun c14 => ?_)
  · skip
    have hm : ¬ mayE c 0 0 = 0 := (by simpa using c14)
    have hres : formatC c = (mayE c 0 0, ts0, c) := (by unfold formatC; rw [if_pos hm])
    refine s_seq ?_
    refine s_region0 (fun ops => ?_)
    refine o_rd (rd_move rfl) rfl ?_
    refine o_rd (rd_assign rfl) rfl ?_
    refine o_rd (rd_assign rfl) rfl ?_
    refine o_nil ?_
    refine n_K ?_
    refine s_ret ?_
    refine r_K ?_
    exact leaf_r (rets2 Tryz.results15 (rv_tmp rfl) (rv_tmp rfl)) (by right; rw [hres]; exact ⟨rfl, rfl, hm⟩) (by repeat (first | exact Split.nil | (apply Split.cons; next => repeat (first | exact Pick.here | apply Pick.there | apply Pick.app)) | (apply Split.chunk; next => repeat (first | exact PickL.here | exact PickL.last | apply PickL.there | apply PickL.app)) | (apply Split.lst; repeat (first | exact PickL.here | exact PickL.last | apply PickL.there | apply PickL.app))))
  · skip
    have hm : mayE c 0 0 = 0 := (by simpa using c14)
    refine s_skip ?_
    refine n_K ?_
    refine s_seq ?_
    refine s_region0 (fun ops => ?_)
    refine o_rd (rd_move rfl) rfl ?_
    refine o_rd (rd_build_s rfl rfl) rfl ?_
    refine o_box rfl rfl (fun b18 => ?_)
    refine o_rd (rd_assign rfl) rfl ?_
    refine o_nil ?_
    refine n_K ?_
    refine s_seq ?_
    refine s_seq ?_
    refine s_region0 (fun ops => ?_)
    refine o_rd (rd_move rfl) rfl ?_
    refine c_ex rfl (open2_fn hb) (by repeat (first | exact Split.nil | (apply Split.cons; next => repeat (first | exact Pick.here | apply Pick.there | apply Pick.app)) | (apply Split.chunk; next => repeat (first | exact PickL.here | exact PickL.last | apply PickL.there | apply PickL.app)) | (apply Split.lst; repeat (first | exact PickL.here | exact PickL.last | apply PickL.there | apply PickL.app)))) rfl (fun v21 Y21 h21 => ?_)
    rcases h21 with ⟨t', rfl, rfl, ht, ho⟩ | ⟨rfl, rfl, ho⟩
    all_goals
      refine so_ap (by repeat (first | exact Ap.nil | apply Ap.cons | apply Ap.app | exact Ap.one)) ?_
      refine o_rd (rd_move rfl) rfl ?_
      refine o_rd (rd_extract rfl rfl) rfl ?_
      refine o_rd (rd_extract rfl rfl) rfl ?_
      refine o_rd (rd_assign rfl) rfl ?_
      refine o_rd (rd_assign rfl) rfl ?_
      refine o_nil ?_
      refine n_K ?_
      refine s_seq ?_
      refine s_region0 (fun ops => ?_)
      refine o_rd (rd_move rfl) rfl ?_
      refine o_rd (rd_bin rfl rfl rfl) rfl ?_
      refine o_nil ?_
      refine n_K ?_
      refine s_cond rfl (fun c25 => ?_) (fun c25 => ?_)
      · skip
        try (exfalso; (simp at c25; exact ho c25); done)
        all_goals
          have hv : fmt0 c = (t'.version, t'.area, t'.next) := (by unfold fmt0; rw [if_pos ho, ← ht]; rfl)
          rw [tabH_eq]
          simp only [List.cons_append, List.append_assoc, List.nil_append]
          refine s_drawM [] [0, 1, 2, 3, 4, 5, 7, 8, 9, 11, 12, 13] [[(6, false), (10, false), (14, false)], [(15, false)], [(16, false)], [(17, true)], [(18, false)], [(19, false)], [(20, true)], [(21, false)], [(22, false)], [(23, true)]] (by kernel_rfl) rfl rfl (fun ops w0 H0 y => ?_)
          unfold SPre
          refine x_rd (rd_move rfl) rfl ?_
          refine x_rd (rd_move rfl) rfl ?_
          refine x_rd (rd_move rfl) rfl ?_
          refine x_rd (rd_move rfl) rfl ?_
          refine x_rd (rd_nil rfl) rfl ?_
          refine x_rd (rd_field rfl) rfl ?_
          refine x_rd (rd_move rfl) rfl ?_
          refine x_rd (rd_nil rfl) rfl ?_
          refine x_rd (rd_field rfl) rfl ?_
          refine x_rd (rd_move rfl) rfl ?_
          refine x_rd (rd_nil rfl) rfl ?_
          refine x_rd (rd_field rfl) rfl ?_
          refine x_nil ?_
          refine p_all ?_
          refine x_rd (rd_ld rfl (by repeat' first | exact List.Mem.head _ | apply List.Mem.tail | apply List.mem_append_right) rfl) rfl ?_
          refine x_rd (rd_ld rfl (by repeat' first | exact List.Mem.head _ | apply List.Mem.tail | apply List.mem_append_right) rfl) rfl ?_
          refine x_rd (rd_ld rfl (by repeat' first | exact List.Mem.head _ | apply List.Mem.tail | apply List.mem_append_right) rfl) rfl ?_
          refine x_nil ?_
          refine p_all ?_
          refine x_rd (rd_nil rfl) rfl ?_
          refine x_nil ?_
          refine p_all ?_
          refine x_rd (rd_field rfl) rfl ?_
          refine x_nil ?_
          refine p_none ?_
          refine x_so ?_
          refine o_store rfl rfl (by repeat' first | exact Upd.here | apply Upd.there | apply Upd.app) rfl rfl rfl ?_
          refine o_nil ⟨rfl, ⟨_, (by repeat (first | exact Split.nil | (apply Split.cons; next => repeat (first | exact Pick.here | apply Pick.there | apply Pick.app)) | (apply Split.chunk; next => repeat (first | exact PickL.here | exact PickL.last | apply PickL.there | apply PickL.app)) | (apply Split.lst; repeat (first | exact PickL.here | exact PickL.last | apply PickL.there | apply PickL.app))))⟩, ?_⟩
          refine x_nil ?_
          refine p_all ?_
          refine x_rd (rd_nil rfl) rfl ?_
          refine x_nil ?_
          refine p_all ?_
          refine x_rd (rd_field rfl) rfl ?_
          refine x_nil ?_
          refine p_none ?_
          refine x_so ?_
          refine o_store rfl rfl (by repeat' first | exact Upd.here | apply Upd.there | apply Upd.app) rfl rfl rfl ?_
          refine o_nil ⟨rfl, ⟨_, (by repeat (first | exact Split.nil | (apply Split.cons; next => repeat (first | exact Pick.here | apply Pick.there | apply Pick.app)) | (apply Split.chunk; next => repeat (first | exact PickL.here | exact PickL.last | apply PickL.there | apply PickL.app)) | (apply Split.lst; repeat (first | exact PickL.here | exact PickL.last | apply PickL.there | apply PickL.app))))⟩, ?_⟩
          refine x_nil ?_
          refine p_all ?_
          refine x_rd (rd_nil rfl) rfl ?_
          refine x_nil ?_
          refine p_all ?_
          refine x_rd (rd_field rfl) rfl ?_
          refine x_nil ?_
          refine p_none ?_
          refine x_so ?_
          refine o_store rfl rfl (by repeat' first | exact Upd.here | apply Upd.there | apply Upd.app) rfl rfl rfl ?_
          refine o_nil ⟨rfl, ⟨_, (by repeat (first | exact Split.nil | (apply Split.cons; next => repeat (first | exact Pick.here | apply Pick.there | apply Pick.app)) | (apply Split.chunk; next => repeat (first | exact PickL.here | exact PickL.last | apply PickL.there | apply PickL.app)) | (apply Split.lst; repeat (first | exact PickL.here | exact PickL.last | apply PickL.there | apply PickL.app))))⟩, ?_⟩
          refine x_nil ?_
          refine p_end ?_
          refine n_K ?_
          refine s_seq ?_
          refine s_region0 (fun ops => ?_)
          refine o_rd (rd_move rfl) rfl ?_
          refine c_is rfl (blocks_fn) (by repeat (first | exact Split.nil | (apply Split.cons; next => repeat (first | exact Pick.here | apply Pick.there | apply Pick.app)) | (apply Split.chunk; next => repeat (first | exact PickL.here | exact PickL.last | apply PickL.there | apply PickL.app)) | (apply Split.lst; repeat (first | exact PickL.here | exact PickL.last | apply PickL.there | apply PickL.app)))) rfl (by repeat (first | exact Ap.nil | apply Ap.cons | apply Ap.app | exact Ap.one)) ?_
          refine o_rd (rd_bin rfl rfl rfl) rfl ?_
          refine o_rd (rd_bin rfl rfl rfl) rfl ?_
          refine o_rd (rd_assign rfl) rfl ?_
          refine o_nil ?_
          refine n_K ?_
          refine s_seq ?_
          refine s_seq ?_
          refine s_region0 (fun ops => ?_)
          refine o_rd (rd_move rfl) rfl ?_
          refine c_is rfl (blocks_fn) (by repeat (first | exact Split.nil | (apply Split.cons; next => repeat (first | exact Pick.here | apply Pick.there | apply Pick.app)) | (apply Split.chunk; next => repeat (first | exact PickL.here | exact PickL.last | apply PickL.there | apply PickL.app)) | (apply Split.lst; repeat (first | exact PickL.here | exact PickL.last | apply PickL.there | apply PickL.app)))) rfl (by repeat (first | exact Ap.nil | apply Ap.cons | apply Ap.app | exact Ap.one)) ?_
          refine o_rd (rd_move rfl) rfl ?_
          refine o_nil ?_
          refine n_K ?_
          refine s_block ?_
          refine sc_eq (nil_hp (α := Int) (T := tI)) ?_
          refine sc_eq (nil_hp (α := Int) (T := tI)) ?_
          have hfr := fmt0_range c
          refine s_loop2 [0, 5, 8, 52] (by repeat' first | exact Keep2.nil | apply Keep2.cons rfl) (fun (st : Nat × Sl Int × Sl Int) => [(53, .int .i64 st.1)]) (fun (st : Nat × Sl Int × Sl Int) => (b18, true, C (tabC c.aC ⟨b18, st.2.1, st.2.2, (fmt0 c).1, (fmt0 c).2.1, (fmt0 c).2.2, 0⟩) tTb) :: (st.2.1.hp tI ++ (st.2.2.hp tI ++ (chH c ++ [])))) (fun (st : Nat × Sl Int × Sl Int) => st.1 ≤ c.blocks.length ∧ st.2.1.list = (fmtU c (fmtSize c) st.1).1 ∧ st.2.2.list = (fmtU c (fmtSize c) st.1).2 ∧ st.2.1.isOwn = true ∧ st.2.2.isOwn = true) (fun (st : Nat × Sl Int × Sl Int) => c.blocks.length - st.1) ((0, .nil, .nil)) ⟨Nat.zero_le _, rfl, rfl, rfl, rfl⟩ (by repeat' first | exact Keep.nil | refine Keep.cons rfl ?_) (by rw [hv]; exact (by repeat (first | exact Split.nil | (apply Split.cons; next => repeat (first | exact Pick.here | apply Pick.there | apply Pick.app)) | (apply Split.chunk; next => repeat (first | exact PickL.here | exact PickL.last | apply PickL.there | apply PickL.app)) | (apply Split.lst; repeat (first | exact PickL.here | exact PickL.last | apply PickL.there | apply PickL.app))))) ?_
          rintro ⟨i, u, l⟩ ⟨h0, h1, h2, h3, h4⟩
          simp only at h0 h1 h2 h3 h4
          have hlen := fmtU_len c (fmtSize c) i
          rw [← h1, ← h2] at hlen
          refine s_seq ?_
          refine s_region0 (fun ops => ?_)
          refine o_rd (rd_bin rfl rfl rfl) rfl ?_
          refine o_nil ?_
          refine n_K ?_
          refine s_seq ?_
          refine s_cond rfl (fun c54 => ?_) (fun c54 => ?_)
          · simp only [decide_eq_true_eq, decide_eq_false_iff_not] at c54
            refine s_skip ?_
            refine n_K ?_
            refine s_seq ?_
            refine s_block ?_
            refine s_seq ?_
            refine s_region0 (fun ops => ?_)
            refine o_rd (rd_move rfl) rfl ?_
            refine o_rd (rd_assign rfl) rfl ?_
            refine o_nil ?_
            refine n_K ?_
            refine s_block ?_
            refine s_seq ?_
            refine s_region0 (fun ops => ?_)
            refine o_rd (rd_move rfl) rfl ?_
            refine o_rd (rd_move rfl) rfl ?_
            refine c_is rfl (bad_a (c := c) rfl) (by repeat (first | exact Split.nil | (apply Split.cons; next => repeat (first | exact Pick.here | apply Pick.there | apply Pick.app)) | (apply Split.chunk; next => repeat (first | exact PickL.here | exact PickL.last | apply PickL.there | apply PickL.app)) | (apply Split.lst; repeat (first | exact PickL.here | exact PickL.last | apply PickL.there | apply PickL.app)))) rfl (by repeat (first | exact Ap.nil | apply Ap.cons | apply Ap.app | exact Ap.one)) ?_
            refine o_rd (rd_assign rfl) rfl ?_
            refine o_nil ?_
            refine n_K ?_
            refine s_cond rfl (fun c56 => ?_) (fun c56 => ?_)
            · skip
              have hf : fmtU c (fmtSize c) (i + 1) = (u.list, l.list ++ [(i : Int)]) := (by show (if badB c i = true then _ else _) = _; rw [if_pos c56, h1, h2])
              refine s_region0 (fun ops => ?_)
              refine o_rd (rd_move rfl) rfl ?_
              refine o_rd (rd_move rfl) rfl ?_
              refine o_rd (rd_nil rfl) rfl ?_
              refine o_rd (rd_field rfl) rfl ?_
              refine o_rd (rd_field rfl) rfl ?_
              refine o_rd (rd_ld rfl (by repeat' first | exact List.Mem.head _ | apply List.Mem.tail | apply List.mem_append_right) rfl) rfl ?_
              refine o_rd (rd_move rfl) rfl ?_
              refine o_bslice_k rfl rfl rfl rfl (fun b67 => ?_)
              refine o_append_sl (s := l) (new := [(i : Int)]) (m := 1) rfl rfl (by repeat (first | exact PickL.here | exact PickL.last | apply PickL.there | apply PickL.app)) h4 (src_blk (r := true) (by repeat' first | exact List.Mem.head _ | apply List.Mem.tail | apply List.mem_append_right) rfl) rfl rfl rfl rfl (by omega) rfl (fun s68 hs1 hs2 => ?_)
              refine o_rd (rd_nil rfl) rfl ?_
              refine o_rd (rd_field rfl) rfl ?_
              refine o_rd (rd_field rfl) rfl ?_
              refine o_store rfl rfl (by repeat' first | exact Upd.here | apply Upd.there | apply Upd.app) rfl rfl rfl ?_
              refine o_nil ?_
              refine n_blk ?_
              refine n_blk ?_
              refine n_K ?_
              refine s_region0 (fun ops => ?_)
              refine o_rd (rd_add64 rfl rfl (by omega)) rfl ?_
              refine o_rd (rd_move rfl) rfl ?_
              refine o_nil ?_
              refine n_K ?_
              first | refine ⟨(i + 1, u, l), ⟨by simp only; omega, (congrArg Prod.fst hf).symm, (congrArg Prod.snd hf).symm, h3, h4⟩, by simp only; omega, (by repeat' first | exact Keep.nil | refine Keep.cons rfl ?_), (by repeat' first | exact Keep.nil | refine Keep.cons rfl ?_), _, (by repeat (first | exact Split.nil | (apply Split.cons; next => repeat (first | exact Pick.here | apply Pick.there | apply Pick.app)) | (apply Split.chunk; next => repeat (first | exact PickL.here | exact PickL.last | apply PickL.there | apply PickL.app)) | (apply Split.lst; repeat (first | exact PickL.here | exact PickL.last | apply PickL.there | apply PickL.app))))⟩ | refine ⟨(i + 1, u, s68), ⟨by simp only; omega, (congrArg Prod.fst hf).symm, hs1.trans (congrArg Prod.snd hf).symm, h3, hs2⟩, by simp only; omega, (by repeat' first | exact Keep.nil | refine Keep.cons rfl ?_), (by repeat' first | exact Keep.nil | refine Keep.cons rfl ?_), _, (by repeat (first | exact Split.nil | (apply Split.cons; next => repeat (first | exact Pick.here | apply Pick.there | apply Pick.app)) | (apply Split.chunk; next => repeat (first | exact PickL.here | exact PickL.last | apply PickL.there | apply PickL.app)) | (apply Split.lst; repeat (first | exact PickL.here | exact PickL.last | apply PickL.there | apply PickL.app))))⟩ | refine ⟨(i + 1, s93, l), ⟨by simp only; omega, hs1.trans (congrArg Prod.fst hf).symm, (congrArg Prod.snd hf).symm, hs2, h4⟩, by simp only; omega, (by repeat' first | exact Keep.nil | refine Keep.cons rfl ?_), (by repeat' first | exact Keep.nil | refine Keep.cons rfl ?_), _, (by repeat (first | exact Split.nil | (apply Split.cons; next => repeat (first | exact Pick.here | apply Pick.there | apply Pick.app)) | (apply Split.chunk; next => repeat (first | exact PickL.here | exact PickL.last | apply PickL.there | apply PickL.app)) | (apply Split.lst; repeat (first | exact PickL.here | exact PickL.last | apply PickL.there | apply PickL.app))))⟩
            · skip
              have hf0 : ¬ badB c i = true := (by rw [c56]; exact Bool.false_ne_true)
              refine s_seq ?_
              refine s_region [(2, 75)] rfl (fun ops y => ?_)
              refine o_rd (rd_move rfl) rfl ?_
              refine o_rd (rd_bin rfl rfl rfl) rfl ?_
              refine o_rd (rd_move rfl) rfl ?_
              refine' o_and (j := 2) (k := 8) y rfl rfl rfl rfl rfl rfl rfl (fun hg75 => ?_) ?_
              rotate_left
              · try simp at hg75
                refine o_g y rfl rfl ?_
                refine o_rd (rd_move rfl) rfl ?_
                refine o_g y rfl rfl ?_
                refine o_rd (rd_nil rfl) rfl ?_
                refine o_g y rfl rfl ?_
                refine o_rd (rd_field rfl) rfl ?_
                refine o_g y rfl rfl ?_
                refine o_rd (rd_field rfl) rfl ?_
                refine o_g y rfl rfl ?_
                refine o_rd (rd_ld rfl (by repeat' first | exact List.Mem.head _ | apply List.Mem.tail | apply List.mem_append_right) rfl) rfl ?_
                refine o_g y rfl rfl ?_
                refine o_rd (rd_lenS rfl) rfl ?_
                refine o_g y rfl rfl ?_
                refine o_rd (rd_move rfl) rfl ?_
                refine o_g y rfl rfl ?_
                refine o_rd (rd_bin rfl rfl rfl) rfl ?_
                exact o_nil ⟨rfl, rfl, ⟨_, (by repeat (first | exact Split.nil | (apply Split.cons; next => repeat (first | exact Pick.here | apply Pick.there | apply Pick.app)) | (apply Split.chunk; next => repeat (first | exact PickL.here | exact PickL.last | apply PickL.there | apply PickL.app)) | (apply Split.lst; repeat (first | exact PickL.here | exact PickL.last | apply PickL.there | apply PickL.app))))⟩⟩
              refine o_rd (rd_assign rfl) rfl ?_
              refine o_nil ?_
              refine n_K ?_
              refine s_cond rfl (fun c72 => ?_) (fun c72 => ?_)
              · skip
                have hf : fmtU c (fmtSize c) (i + 1) = (u.list ++ [(i : Int)], l.list) := (by show (if badB c i = true then _ else _) = _; rw [if_neg hf0, ← h1, ← h2]; exact if_pos c72)
                refine s_region0 (fun ops => ?_)
                refine o_rd (rd_move rfl) rfl ?_
                refine o_rd (rd_move rfl) rfl ?_
                refine o_rd (rd_nil rfl) rfl ?_
                refine o_rd (rd_field rfl) rfl ?_
                refine o_rd (rd_field rfl) rfl ?_
                refine o_rd (rd_ld rfl (by repeat' first | exact List.Mem.head _ | apply List.Mem.tail | apply List.mem_append_right) rfl) rfl ?_
                refine o_rd (rd_move rfl) rfl ?_
                refine o_bslice_k rfl rfl rfl rfl (fun b92 => ?_)
                refine o_append_sl (s := u) (new := [(i : Int)]) (m := 1) rfl rfl (by repeat (first | exact PickL.here | exact PickL.last | apply PickL.there | apply PickL.app)) h3 (src_blk (r := true) (by repeat' first | exact List.Mem.head _ | apply List.Mem.tail | apply List.mem_append_right) rfl) rfl rfl rfl rfl (by omega) rfl (fun s93 hs1 hs2 => ?_)
                refine o_rd (rd_nil rfl) rfl ?_
                refine o_rd (rd_field rfl) rfl ?_
                refine o_rd (rd_field rfl) rfl ?_
                refine o_store rfl rfl (by repeat' first | exact Upd.here | apply Upd.there | apply Upd.app) rfl rfl rfl ?_
                refine o_nil ?_
                refine n_blk ?_
                refine n_blk ?_
                refine n_K ?_
                refine s_region0 (fun ops => ?_)
                refine o_rd (rd_add64 rfl rfl (by omega)) rfl ?_
                refine o_rd (rd_move rfl) rfl ?_
                refine o_nil ?_
                refine n_K ?_
                first | refine ⟨(i + 1, u, l), ⟨by simp only; omega, (congrArg Prod.fst hf).symm, (congrArg Prod.snd hf).symm, h3, h4⟩, by simp only; omega, (by repeat' first | exact Keep.nil | refine Keep.cons rfl ?_), (by repeat' first | exact Keep.nil | refine Keep.cons rfl ?_), _, (by repeat (first | exact Split.nil | (apply Split.cons; next => repeat (first | exact Pick.here | apply Pick.there | apply Pick.app)) | (apply Split.chunk; next => repeat (first | exact PickL.here | exact PickL.last | apply PickL.there | apply PickL.app)) | (apply Split.lst; repeat (first | exact PickL.here | exact PickL.last | apply PickL.there | apply PickL.app))))⟩ | refine ⟨(i + 1, u, s68), ⟨by simp only; omega, (congrArg Prod.fst hf).symm, hs1.trans (congrArg Prod.snd hf).symm, h3, hs2⟩, by simp only; omega, (by repeat' first | exact Keep.nil | refine Keep.cons rfl ?_), (by repeat' first | exact Keep.nil | refine Keep.cons rfl ?_), _, (by repeat (first | exact Split.nil | (apply Split.cons; next => repeat (first | exact Pick.here | apply Pick.there | apply Pick.app)) | (apply Split.chunk; next => repeat (first | exact PickL.here | exact PickL.last | apply PickL.there | apply PickL.app)) | (apply Split.lst; repeat (first | exact PickL.here | exact PickL.last | apply PickL.there | apply PickL.app))))⟩ | refine ⟨(i + 1, s93, l), ⟨by simp only; omega, hs1.trans (congrArg Prod.fst hf).symm, (congrArg Prod.snd hf).symm, hs2, h4⟩, by simp only; omega, (by repeat' first | exact Keep.nil | refine Keep.cons rfl ?_), (by repeat' first | exact Keep.nil | refine Keep.cons rfl ?_), _, (by repeat (first | exact Split.nil | (apply Split.cons; next => repeat (first | exact Pick.here | apply Pick.there | apply Pick.app)) | (apply Split.chunk; next => repeat (first | exact PickL.here | exact PickL.last | apply PickL.there | apply PickL.app)) | (apply Split.lst; repeat (first | exact PickL.here | exact PickL.last | apply PickL.there | apply PickL.app))))⟩
              · skip
                have hf : fmtU c (fmtSize c) (i + 1) = (u.list, l.list) := (by show (if badB c i = true then _ else _) = _; rw [if_neg hf0, ← h1, ← h2]; refine (if_neg (by intro h; have h' := h.symm.trans c72; cases h')).trans ?_; rw [h1, h2])
                refine s_skip ?_
                refine n_blk ?_
                refine n_blk ?_
                refine n_K ?_
                refine s_region0 (fun ops => ?_)
                refine o_rd (rd_add64 rfl rfl (by omega)) rfl ?_
                refine o_rd (rd_move rfl) rfl ?_
                refine o_nil ?_
                refine n_K ?_
                first | refine ⟨(i + 1, u, l), ⟨by simp only; omega, (congrArg Prod.fst hf).symm, (congrArg Prod.snd hf).symm, h3, h4⟩, by simp only; omega, (by repeat' first | exact Keep.nil | refine Keep.cons rfl ?_), (by repeat' first | exact Keep.nil | refine Keep.cons rfl ?_), _, (by repeat (first | exact Split.nil | (apply Split.cons; next => repeat (first | exact Pick.here | apply Pick.there | apply Pick.app)) | (apply Split.chunk; next => repeat (first | exact PickL.here | exact PickL.last | apply PickL.there | apply PickL.app)) | (apply Split.lst; repeat (first | exact PickL.here | exact PickL.last | apply PickL.there | apply PickL.app))))⟩ | refine ⟨(i + 1, u, s68), ⟨by simp only; omega, (congrArg Prod.fst hf).symm, hs1.trans (congrArg Prod.snd hf).symm, h3, hs2⟩, by simp only; omega, (by repeat' first | exact Keep.nil | refine Keep.cons rfl ?_), (by repeat' first | exact Keep.nil | refine Keep.cons rfl ?_), _, (by repeat (first | exact Split.nil | (apply Split.cons; next => repeat (first | exact Pick.here | apply Pick.there | apply Pick.app)) | (apply Split.chunk; next => repeat (first | exact PickL.here | exact PickL.last | apply PickL.there | apply PickL.app)) | (apply Split.lst; repeat (first | exact PickL.here | exact PickL.last | apply PickL.there | apply PickL.app))))⟩ | refine ⟨(i + 1, s93, l), ⟨by simp only; omega, hs1.trans (congrArg Prod.fst hf).symm, (congrArg Prod.snd hf).symm, hs2, h4⟩, by simp only; omega, (by repeat' first | exact Keep.nil | refine Keep.cons rfl ?_), (by repeat' first | exact Keep.nil | refine Keep.cons rfl ?_), _, (by repeat (first | exact Split.nil | (apply Split.cons; next => repeat (first | exact Pick.here | apply Pick.there | apply Pick.app)) | (apply Split.chunk; next => repeat (first | exact PickL.here | exact PickL.last | apply PickL.there | apply PickL.app)) | (apply Split.lst; repeat (first | exact PickL.here | exact PickL.last | apply PickL.there | apply PickL.app))))⟩
          · simp only [decide_eq_true_eq, decide_eq_false_iff_not] at c54
            have hi : i = c.blocks.length := (by omega)
            subst hi
            have hu : u.list = (fmtT c).uses := h1
            have hl : l.list = (fmtT c).lost := h2
            refine s_exit ?_
            refine x_K ?_
            refine x_K ?_
            refine x_blk ?_
            refine n_K ?_
            refine s_seq ?_
            refine s_seq ?_
            refine s_region [(2, 100), (6, 104)] rfl (fun ops y => ?_)
            refine o_rd (rd_move rfl) rfl ?_
            refine c_is rfl (bad_a (c := c) (i := 0) rfl) (by repeat (first | exact Split.nil | (apply Split.cons; next => repeat (first | exact Pick.here | apply Pick.there | apply Pick.app)) | (apply Split.chunk; next => repeat (first | exact PickL.here | exact PickL.last | apply PickL.there | apply PickL.app)) | (apply Split.lst; repeat (first | exact PickL.here | exact PickL.last | apply PickL.there | apply PickL.app)))) rfl (by repeat (first | exact Ap.nil | apply Ap.cons | apply Ap.app | exact Ap.one)) ?_
            refine o_rd (rd_move rfl) rfl ?_
            refine' o_or (j := 2) (k := 2) y rfl rfl rfl rfl rfl rfl rfl (fun hg100 => ?_) ?_
            rotate_left
            · try simp at hg100
              refine o_g y rfl rfl ?_
              refine o_rd (rd_move rfl) rfl ?_
              refine o_g y rfl rfl ?_
              refine c_is rfl (bad_a (c := c) (i := 1) rfl) (by repeat (first | exact Split.nil | (apply Split.cons; next => repeat (first | exact Pick.here | apply Pick.there | apply Pick.app)) | (apply Split.chunk; next => repeat (first | exact PickL.here | exact PickL.last | apply PickL.there | apply PickL.app)) | (apply Split.lst; repeat (first | exact PickL.here | exact PickL.last | apply PickL.there | apply PickL.app)))) rfl (by repeat (first | exact Ap.nil | apply Ap.cons | apply Ap.app | exact Ap.one)) ?_
              exact o_nil ⟨rfl, rfl, ⟨_, (by repeat (first | exact Split.nil | (apply Split.cons; next => repeat (first | exact Pick.here | apply Pick.there | apply Pick.app)) | (apply Split.chunk; next => repeat (first | exact PickL.here | exact PickL.last | apply PickL.there | apply PickL.app)) | (apply Split.lst; repeat (first | exact PickL.here | exact PickL.last | apply PickL.there | apply PickL.app))))⟩⟩
            refine o_rd (rd_move rfl) rfl ?_
            refine' o_or (j := 6) (k := 8) y rfl rfl rfl rfl rfl rfl rfl (fun hg104 => ?_) ?_
            rotate_left
            · try simp at hg104
              refine o_g y rfl rfl ?_
              refine o_rd (rd_move rfl) rfl ?_
              refine o_g y rfl rfl ?_
              refine o_rd (rd_nil rfl) rfl ?_
              refine o_g y rfl rfl ?_
              refine o_rd (rd_field rfl) rfl ?_
              refine o_g y rfl rfl ?_
              refine o_rd (rd_field rfl) rfl ?_
              refine o_g y rfl rfl ?_
              refine o_rd (rd_ld rfl (by repeat' first | exact List.Mem.head _ | apply List.Mem.tail | apply List.mem_append_right) rfl) rfl ?_
              refine o_g y rfl rfl ?_
              refine o_rd (rd_lenS rfl) rfl ?_
              refine o_g y rfl rfl ?_
              refine o_rd (rd_move rfl) rfl ?_
              refine o_g y rfl rfl ?_
              refine o_rd (rd_bin rfl rfl rfl) rfl ?_
              exact o_nil ⟨rfl, rfl, ⟨_, (by repeat (first | exact Split.nil | (apply Split.cons; next => repeat (first | exact Pick.here | apply Pick.there | apply Pick.app)) | (apply Split.chunk; next => repeat (first | exact PickL.here | exact PickL.last | apply PickL.there | apply PickL.app)) | (apply Split.lst; repeat (first | exact PickL.here | exact PickL.last | apply PickL.there | apply PickL.app))))⟩⟩
            refine o_nil ?_
            refine n_K ?_
            refine s_cond rfl (fun c113 => ?_) (fun c113 => ?_)
            · skip
              have hres : formatC c = (34, ts0, c) := (by unfold formatC; rw [if_neg (by rw [hm]; simp), if_pos (by unfold fmtBad; rw [← hu]; exact c113)])
              refine s_seq ?_
              refine s_region0 (fun ops => ?_)
              refine o_rd (rd_assign rfl) rfl ?_
              refine o_rd (rd_assign rfl) rfl ?_
              refine o_nil ?_
              refine n_K ?_
              refine s_ret ?_
              refine r_K ?_
              exact leaf_r (rets2 Tryz.results15 (rv_tmp rfl) (rv_tmp rfl)) (by right; rw [hres]; exact ⟨rfl, rfl, by simp⟩) (by repeat (first | exact Split.nil | (apply Split.cons; next => repeat (first | exact Pick.here | apply Pick.there | apply Pick.app)) | (apply Split.chunk; next => repeat (first | exact PickL.here | exact PickL.last | apply PickL.there | apply PickL.app)) | (apply Split.lst; repeat (first | exact PickL.here | exact PickL.last | apply PickL.there | apply PickL.app))))
            · skip
              have hnb : ¬ fmtBad c = true := (by unfold fmtBad; rw [← hu]; intro h; have h' := h.symm.trans c113; cases h')
              have hT : Tab.ts ⟨b18, u, l, (fmt0 c).1, (fmt0 c).2.1, (fmt0 c).2.2, 0⟩ = fmtT c := (by show TS.mk _ _ _ _ _ _ = _; rw [hu, hl]; rfl)
              refine s_skip ?_
              refine n_K ?_
              refine s_seq ?_
              refine s_seq ?_
              refine s_region0 (fun ops => ?_)
              refine o_rd (rd_move rfl) rfl ?_
              refine o_rd (rd_move rfl) rfl ?_
              refine o_rd (rd_nil rfl) rfl ?_
              refine o_rd (rd_field rfl) rfl ?_
              refine o_rd (rd_ldA rfl (by repeat' first | exact List.Mem.head _ | apply List.Mem.tail | apply List.mem_append_right) rfl) rfl ?_
              refine c_ex rfl (keep2_fn (c := c) (a := c.aC) (t := ⟨b18, u, l, (fmt0 c).1, (fmt0 c).2.1, (fmt0 c).2.2, 0⟩) (u := u) (l := l) rfl (by omega) (by omega) hfr.2.1 hfr.1) (by repeat (first | exact Split.nil | (apply Split.cons; next => repeat (first | exact Pick.here | apply Pick.there | apply Pick.app)) | (apply Split.chunk; next => repeat (first | exact PickL.here | exact PickL.last | apply PickL.there | apply PickL.app)) | (apply Split.lst; repeat (first | exact PickL.here | exact PickL.last | apply PickL.there | apply PickL.app)))) rfl (fun v119 Y119 h119 => ?_)
              rcases h119 with ⟨t2, e1, e2, e3, rfl, rfl, e4, e5⟩ | ⟨e, rfl, e1, rfl, e4, e5⟩
              all_goals
                refine so_ap (by repeat (first | exact Ap.nil | apply Ap.cons | apply Ap.app | exact Ap.one)) ?_
                refine o_rd (rd_assign rfl) rfl ?_
                refine o_nil ?_
                refine n_K ?_
                refine s_seq ?_
                refine s_region0 (fun ops => ?_)
                refine o_rd (rd_move rfl) rfl ?_
                refine o_rd (rd_bin rfl rfl rfl) rfl ?_
                refine o_nil ?_
                refine n_K ?_
                refine s_cond rfl (fun c121 => ?_) (fun c121 => ?_)
                · skip
                  try (exfalso; (simp at c121); done)
                  all_goals
                    refine s_seq ?_
                    refine s_region0 (fun ops => ?_)
                    refine o_rd (rd_move rfl) rfl ?_
                    refine o_rd (rd_assign rfl) rfl ?_
                    refine o_rd (rd_assign rfl) rfl ?_
                    refine o_nil ?_
                    refine n_K ?_
                    refine s_ret ?_
                    refine r_K ?_
                    exact leaf_r (rets2 Tryz.results15 (rv_tmp rfl) (rv_tmp rfl)) (by rw [hT, hu, hl] at e4; have hres : formatC c = (e, ts0, (keepC (fmtT c) (fmtT c).uses (fmtT c).lost c).2.2) := (by unfold formatC; rw [if_neg (by rw [hm]; simp), if_neg hnb, if_pos (by rw [e4]; exact e1), e4]); right; rw [hres]; exact ⟨rfl, rfl, e1⟩) (by rw [hT, hu, hl]; exact (by repeat (first | exact Split.nil | (apply Split.cons; next => repeat (first | exact Pick.here | apply Pick.there | apply Pick.app)) | (apply Split.chunk; next => repeat (first | exact PickL.here | exact PickL.last | apply PickL.there | apply PickL.app)) | (apply Split.lst; repeat (first | exact PickL.here | exact PickL.last | apply PickL.there | apply PickL.app)))))
                · skip
                  try (exfalso; (simp at c121; exact e1 c121); done)
                  all_goals
                    refine s_skip ?_
                    refine n_K ?_
                    refine s_seq ?_
                    refine s_region0 (fun ops => ?_)
                    refine o_rd (rd_move rfl) rfl ?_
                    refine o_rd (rd_assign rfl) rfl ?_
                    refine o_rd (rd_assign rfl) rfl ?_
                    refine o_nil ?_
                    refine n_K ?_
                    refine s_ret ?_
                    exact leaf_r (rets2 Tryz.results15 (rv_tmp rfl) (rv_tmp rfl)) (by rw [hT, hu, hl] at e4 e5; have hres : formatC c = keepC (fmtT c) (fmtT c).uses (fmtT c).lost c := (by unfold formatC; rw [if_neg (by rw [hm]; simp), if_neg hnb, if_neg (by rw [e4]; simp)]); left; rw [hres]; exact ⟨t2, by rw [e1], rfl, e5, e4⟩) (by rw [hT, hu, hl, tabH_eq, e2, e3]; simp only [List.cons_append, List.append_assoc, List.nil_append]; exact (by repeat (first | exact Split.nil | (apply Split.cons; next => repeat (first | exact Pick.here | apply Pick.there | apply Pick.app)) | (apply Split.chunk; next => repeat (first | exact PickL.here | exact PickL.last | apply PickL.there | apply PickL.app)) | (apply Split.lst; repeat (first | exact PickL.here | exact PickL.last | apply PickL.there | apply PickL.app)))))
      · skip
        try (exfalso; (simp at c25); done)
        all_goals
          have hv : fmt0 c = (0, 0, 0) := (by unfold fmt0; rw [if_neg ho])
          refine s_skip ?_
          refine n_K ?_
          refine s_seq ?_
          refine s_region0 (fun ops => ?_)
          refine o_rd (rd_move rfl) rfl ?_
          refine c_is rfl (blocks_fn) (by repeat (first | exact Split.nil | (apply Split.cons; next => repeat (first | exact Pick.here | apply Pick.there | apply Pick.app)) | (apply Split.chunk; next => repeat (first | exact PickL.here | exact PickL.last | apply PickL.there | apply PickL.app)) | (apply Split.lst; repeat (first | exact PickL.here | exact PickL.last | apply PickL.there | apply PickL.app)))) rfl (by repeat (first | exact Ap.nil | apply Ap.cons | apply Ap.app | exact Ap.one)) ?_
          refine o_rd (rd_bin rfl rfl rfl) rfl ?_
          refine o_rd (rd_bin rfl rfl rfl) rfl ?_
          refine o_rd (rd_assign rfl) rfl ?_
          refine o_nil ?_
          refine n_K ?_
          refine s_seq ?_
          refine s_seq ?_
          refine s_region0 (fun ops => ?_)
          refine o_rd (rd_move rfl) rfl ?_
          refine c_is rfl (blocks_fn) (by repeat (first | exact Split.nil | (apply Split.cons; next => repeat (first | exact Pick.here | apply Pick.there | apply Pick.app)) | (apply Split.chunk; next => repeat (first | exact PickL.here | exact PickL.last | apply PickL.there | apply PickL.app)) | (apply Split.lst; repeat (first | exact PickL.here | exact PickL.last | apply PickL.there | apply PickL.app)))) rfl (by repeat (first | exact Ap.nil | apply Ap.cons | apply Ap.app | exact Ap.one)) ?_
          refine o_rd (rd_move rfl) rfl ?_
          refine o_nil ?_
          refine n_K ?_
          refine s_block ?_
          refine sc_eq (nil_hp (α := Int) (T := tI)) ?_
          refine sc_eq (nil_hp (α := Int) (T := tI)) ?_
          have hfr := fmt0_range c
          refine s_loop2 [0, 5, 8, 52] (by repeat' first | exact Keep2.nil | apply Keep2.cons rfl) (fun (st : Nat × Sl Int × Sl Int) => [(53, .int .i64 st.1)]) (fun (st : Nat × Sl Int × Sl Int) => (b18, true, C (tabC c.aC ⟨b18, st.2.1, st.2.2, (fmt0 c).1, (fmt0 c).2.1, (fmt0 c).2.2, 0⟩) tTb) :: (st.2.1.hp tI ++ (st.2.2.hp tI ++ (chH c ++ [])))) (fun (st : Nat × Sl Int × Sl Int) => st.1 ≤ c.blocks.length ∧ st.2.1.list = (fmtU c (fmtSize c) st.1).1 ∧ st.2.2.list = (fmtU c (fmtSize c) st.1).2 ∧ st.2.1.isOwn = true ∧ st.2.2.isOwn = true) (fun (st : Nat × Sl Int × Sl Int) => c.blocks.length - st.1) ((0, .nil, .nil)) ⟨Nat.zero_le _, rfl, rfl, rfl, rfl⟩ (by repeat' first | exact Keep.nil | refine Keep.cons rfl ?_) (by rw [hv]; exact (by repeat (first | exact Split.nil | (apply Split.cons; next => repeat (first | exact Pick.here | apply Pick.there | apply Pick.app)) | (apply Split.chunk; next => repeat (first | exact PickL.here | exact PickL.last | apply PickL.there | apply PickL.app)) | (apply Split.lst; repeat (first | exact PickL.here | exact PickL.last | apply PickL.there | apply PickL.app))))) ?_
          rintro ⟨i, u, l⟩ ⟨h0, h1, h2, h3, h4⟩
          simp only at h0 h1 h2 h3 h4
          have hlen := fmtU_len c (fmtSize c) i
          rw [← h1, ← h2] at hlen
          refine s_seq ?_
          refine s_region0 (fun ops => ?_)
          refine o_rd (rd_bin rfl rfl rfl) rfl ?_
          refine o_nil ?_
          refine n_K ?_
          refine s_seq ?_
          refine s_cond rfl (fun c54 => ?_) (fun c54 => ?_)
          · simp only [decide_eq_true_eq, decide_eq_false_iff_not] at c54
            refine s_skip ?_
            refine n_K ?_
            refine s_seq ?_
            refine s_block ?_
            refine s_seq ?_
            refine s_region0 (fun ops => ?_)
            refine o_rd (rd_move rfl) rfl ?_
            refine o_rd (rd_assign rfl) rfl ?_
            refine o_nil ?_
            refine n_K ?_
            refine s_block ?_
            refine s_seq ?_
            refine s_region0 (fun ops => ?_)
            refine o_rd (rd_move rfl) rfl ?_
            refine o_rd (rd_move rfl) rfl ?_
            refine c_is rfl (bad_a (c := c) rfl) (by repeat (first | exact Split.nil | (apply Split.cons; next => repeat (first | exact Pick.here | apply Pick.there | apply Pick.app)) | (apply Split.chunk; next => repeat (first | exact PickL.here | exact PickL.last | apply PickL.there | apply PickL.app)) | (apply Split.lst; repeat (first | exact PickL.here | exact PickL.last | apply PickL.there | apply PickL.app)))) rfl (by repeat (first | exact Ap.nil | apply Ap.cons | apply Ap.app | exact Ap.one)) ?_
            refine o_rd (rd_assign rfl) rfl ?_
            refine o_nil ?_
            refine n_K ?_
            refine s_cond rfl (fun c56 => ?_) (fun c56 => ?_)
            · skip
              have hf : fmtU c (fmtSize c) (i + 1) = (u.list, l.list ++ [(i : Int)]) := (by show (if badB c i = true then _ else _) = _; rw [if_pos c56, h1, h2])
              refine s_region0 (fun ops => ?_)
              refine o_rd (rd_move rfl) rfl ?_
              refine o_rd (rd_move rfl) rfl ?_
              refine o_rd (rd_nil rfl) rfl ?_
              refine o_rd (rd_field rfl) rfl ?_
              refine o_rd (rd_field rfl) rfl ?_
              refine o_rd (rd_ld rfl (by repeat' first | exact List.Mem.head _ | apply List.Mem.tail | apply List.mem_append_right) rfl) rfl ?_
              refine o_rd (rd_move rfl) rfl ?_
              refine o_bslice_k rfl rfl rfl rfl (fun b67 => ?_)
              refine o_append_sl (s := l) (new := [(i : Int)]) (m := 1) rfl rfl (by repeat (first | exact PickL.here | exact PickL.last | apply PickL.there | apply PickL.app)) h4 (src_blk (r := true) (by repeat' first | exact List.Mem.head _ | apply List.Mem.tail | apply List.mem_append_right) rfl) rfl rfl rfl rfl (by omega) rfl (fun s68 hs1 hs2 => ?_)
              refine o_rd (rd_nil rfl) rfl ?_
              refine o_rd (rd_field rfl) rfl ?_
              refine o_rd (rd_field rfl) rfl ?_
              refine o_store rfl rfl (by repeat' first | exact Upd.here | apply Upd.there | apply Upd.app) rfl rfl rfl ?_
              refine o_nil ?_
              refine n_blk ?_
              refine n_blk ?_
              refine n_K ?_
              refine s_region0 (fun ops => ?_)
              refine o_rd (rd_add64 rfl rfl (by omega)) rfl ?_
              refine o_rd (rd_move rfl) rfl ?_
              refine o_nil ?_
              refine n_K ?_
              first | refine ⟨(i + 1, u, l), ⟨by simp only; omega, (congrArg Prod.fst hf).symm, (congrArg Prod.snd hf).symm, h3, h4⟩, by simp only; omega, (by repeat' first | exact Keep.nil | refine Keep.cons rfl ?_), (by repeat' first | exact Keep.nil | refine Keep.cons rfl ?_), _, (by repeat (first | exact Split.nil | (apply Split.cons; next => repeat (first | exact Pick.here | apply Pick.there | apply Pick.app)) | (apply Split.chunk; next => repeat (first | exact PickL.here | exact PickL.last | apply PickL.there | apply PickL.app)) | (apply Split.lst; repeat (first | exact PickL.here | exact PickL.last | apply PickL.there | apply PickL.app))))⟩ | refine ⟨(i + 1, u, s68), ⟨by simp only; omega, (congrArg Prod.fst hf).symm, hs1.trans (congrArg Prod.snd hf).symm, h3, hs2⟩, by simp only; omega, (by repeat' first | exact Keep.nil | refine Keep.cons rfl ?_), (by repeat' first | exact Keep.nil | refine Keep.cons rfl ?_), _, (by repeat (first | exact Split.nil | (apply Split.cons; next => repeat (first | exact Pick.here | apply Pick.there | apply Pick.app)) | (apply Split.chunk; next => repeat (first | exact PickL.here | exact PickL.last | apply PickL.there | apply PickL.app)) | (apply Split.lst; repeat (first | exact PickL.here | exact PickL.last | apply PickL.there | apply PickL.app))))⟩ | refine ⟨(i + 1, s93, l), ⟨by simp only; omega, hs1.trans (congrArg Prod.fst hf).symm, (congrArg Prod.snd hf).symm, hs2, h4⟩, by simp only; omega, (by repeat' first | exact Keep.nil | refine Keep.cons rfl ?_), (by repeat' first | exact Keep.nil | refine Keep.cons rfl ?_), _, (by repeat (first | exact Split.nil | (apply Split.cons; next => repeat (first | exact Pick.here | apply Pick.there | apply Pick.app)) | (apply Split.chunk; next => repeat (first | exact PickL.here | exact PickL.last | apply PickL.there | apply PickL.app)) | (apply Split.lst; repeat (first | exact PickL.here | exact PickL.last | apply PickL.there | apply PickL.app))))⟩
            · skip
              have hf0 : ¬ badB c i = true := (by rw [c56]; exact Bool.false_ne_true)
              refine s_seq ?_
              refine s_region [(2, 75)] rfl (fun ops y => ?_)
              refine o_rd (rd_move rfl) rfl ?_
              refine o_rd (rd_bin rfl rfl rfl) rfl ?_
              refine o_rd (rd_move rfl) rfl ?_
              refine' o_and (j := 2) (k := 8) y rfl rfl rfl rfl rfl rfl rfl (fun hg75 => ?_) ?_
              rotate_left
              · try simp at hg75
                refine o_g y rfl rfl ?_
                refine o_rd (rd_move rfl) rfl ?_
                refine o_g y rfl rfl ?_
                refine o_rd (rd_nil rfl) rfl ?_
                refine o_g y rfl rfl ?_
                refine o_rd (rd_field rfl) rfl ?_
                refine o_g y rfl rfl ?_
                refine o_rd (rd_field rfl) rfl ?_
                refine o_g y rfl rfl ?_
                refine o_rd (rd_ld rfl (by repeat' first | exact List.Mem.head _ | apply List.Mem.tail | apply List.mem_append_right) rfl) rfl ?_
                refine o_g y rfl rfl ?_
                refine o_rd (rd_lenS rfl) rfl ?_
                refine o_g y rfl rfl ?_
                refine o_rd (rd_move rfl) rfl ?_
                refine o_g y rfl rfl ?_
                refine o_rd (rd_bin rfl rfl rfl) rfl ?_
                exact o_nil ⟨rfl, rfl, ⟨_, (by repeat (first | exact Split.nil | (apply Split.cons; next => repeat (first | exact Pick.here | apply Pick.there | apply Pick.app)) | (apply Split.chunk; next => repeat (first | exact PickL.here | exact PickL.last | apply PickL.there | apply PickL.app)) | (apply Split.lst; repeat (first | exact PickL.here | exact PickL.last | apply PickL.there | apply PickL.app))))⟩⟩
              refine o_rd (rd_assign rfl) rfl ?_
              refine o_nil ?_
              refine n_K ?_
              refine s_cond rfl (fun c72 => ?_) (fun c72 => ?_)
              · skip
                have hf : fmtU c (fmtSize c) (i + 1) = (u.list ++ [(i : Int)], l.list) := (by show (if badB c i = true then _ else _) = _; rw [if_neg hf0, ← h1, ← h2]; exact if_pos c72)
                refine s_region0 (fun ops => ?_)
                refine o_rd (rd_move rfl) rfl ?_
                refine o_rd (rd_move rfl) rfl ?_
                refine o_rd (rd_nil rfl) rfl ?_
                refine o_rd (rd_field rfl) rfl ?_
                refine o_rd (rd_field rfl) rfl ?_
                refine o_rd (rd_ld rfl (by repeat' first | exact List.Mem.head _ | apply List.Mem.tail | apply List.mem_append_right) rfl) rfl ?_
                refine o_rd (rd_move rfl) rfl ?_
                refine o_bslice_k rfl rfl rfl rfl (fun b92 => ?_)
                refine o_append_sl (s := u) (new := [(i : Int)]) (m := 1) rfl rfl (by repeat (first | exact PickL.here | exact PickL.last | apply PickL.there | apply PickL.app)) h3 (src_blk (r := true) (by repeat' first | exact List.Mem.head _ | apply List.Mem.tail | apply List.mem_append_right) rfl) rfl rfl rfl rfl (by omega) rfl (fun s93 hs1 hs2 => ?_)
                refine o_rd (rd_nil rfl) rfl ?_
                refine o_rd (rd_field rfl) rfl ?_
                refine o_rd (rd_field rfl) rfl ?_
                refine o_store rfl rfl (by repeat' first | exact Upd.here | apply Upd.there | apply Upd.app) rfl rfl rfl ?_
                refine o_nil ?_
                refine n_blk ?_
                refine n_blk ?_
                refine n_K ?_
                refine s_region0 (fun ops => ?_)
                refine o_rd (rd_add64 rfl rfl (by omega)) rfl ?_
                refine o_rd (rd_move rfl) rfl ?_
                refine o_nil ?_
                refine n_K ?_
                first | refine ⟨(i + 1, u, l), ⟨by simp only; omega, (congrArg Prod.fst hf).symm, (congrArg Prod.snd hf).symm, h3, h4⟩, by simp only; omega, (by repeat' first | exact Keep.nil | refine Keep.cons rfl ?_), (by repeat' first | exact Keep.nil | refine Keep.cons rfl ?_), _, (by repeat (first | exact Split.nil | (apply Split.cons; next => repeat (first | exact Pick.here | apply Pick.there | apply Pick.app)) | (apply Split.chunk; next => repeat (first | exact PickL.here | exact PickL.last | apply PickL.there | apply PickL.app)) | (apply Split.lst; repeat (first | exact PickL.here | exact PickL.last | apply PickL.there | apply PickL.app))))⟩ | refine ⟨(i + 1, u, s68), ⟨by simp only; omega, (congrArg Prod.fst hf).symm, hs1.trans (congrArg Prod.snd hf).symm, h3, hs2⟩, by simp only; omega, (by repeat' first | exact Keep.nil | refine Keep.cons rfl ?_), (by repeat' first | exact Keep.nil | refine Keep.cons rfl ?_), _, (by repeat (first | exact Split.nil | (apply Split.cons; next => repeat (first | exact Pick.here | apply Pick.there | apply Pick.app)) | (apply Split.chunk; next => repeat (first | exact PickL.here | exact PickL.last | apply PickL.there | apply PickL.app)) | (apply Split.lst; repeat (first | exact PickL.here | exact PickL.last | apply PickL.there | apply PickL.app))))⟩ | refine ⟨(i + 1, s93, l), ⟨by simp only; omega, hs1.trans (congrArg Prod.fst hf).symm, (congrArg Prod.snd hf).symm, hs2, h4⟩, by simp only; omega, (by repeat' first | exact Keep.nil | refine Keep.cons rfl ?_), (by repeat' first | exact Keep.nil | refine Keep.cons rfl ?_), _, (by repeat (first | exact Split.nil | (apply Split.cons; next => repeat (first | exact Pick.here | apply Pick.there | apply Pick.app)) | (apply Split.chunk; next => repeat (first | exact PickL.here | exact PickL.last | apply PickL.there | apply PickL.app)) | (apply Split.lst; repeat (first | exact PickL.here | exact PickL.last | apply PickL.there | apply PickL.app))))⟩
              · skip
                have hf : fmtU c (fmtSize c) (i + 1) = (u.list, l.list) := (by show (if badB c i = true then _ else _) = _; rw [if_neg hf0, ← h1, ← h2]; refine (if_neg (by intro h; have h' := h.symm.trans c72; cases h')).trans ?_; rw [h1, h2])
                refine s_skip ?_
                refine n_blk ?_
                refine n_blk ?_
                refine n_K ?_
                refine s_region0 (fun ops => ?_)
                refine o_rd (rd_add64 rfl rfl (by omega)) rfl ?_
                refine o_rd (rd_move rfl) rfl ?_
                refine o_nil ?_
                refine n_K ?_
                first | refine ⟨(i + 1, u, l), ⟨by simp only; omega, (congrArg Prod.fst hf).symm, (congrArg Prod.snd hf).symm, h3, h4⟩, by simp only; omega, (by repeat' first | exact Keep.nil | refine Keep.cons rfl ?_), (by repeat' first | exact Keep.nil | refine Keep.cons rfl ?_), _, (by repeat (first | exact Split.nil | (apply Split.cons; next => repeat (first | exact Pick.here | apply Pick.there | apply Pick.app)) | (apply Split.chunk; next => repeat (first | exact PickL.here | exact PickL.last | apply PickL.there | apply PickL.app)) | (apply Split.lst; repeat (first | exact PickL.here | exact PickL.last | apply PickL.there | apply PickL.app))))⟩ | refine ⟨(i + 1, u, s68), ⟨by simp only; omega, (congrArg Prod.fst hf).symm, hs1.trans (congrArg Prod.snd hf).symm, h3, hs2⟩, by simp only; omega, (by repeat' first | exact Keep.nil | refine Keep.cons rfl ?_), (by repeat' first | exact Keep.nil | refine Keep.cons rfl ?_), _, (by repeat (first | exact Split.nil | (apply Split.cons; next => repeat (first | exact Pick.here | apply Pick.there | apply Pick.app)) | (apply Split.chunk; next => repeat (first | exact PickL.here | exact PickL.last | apply PickL.there | apply PickL.app)) | (apply Split.lst; repeat (first | exact PickL.here | exact PickL.last | apply PickL.there | apply PickL.app))))⟩ | refine ⟨(i + 1, s93, l), ⟨by simp only; omega, hs1.trans (congrArg Prod.fst hf).symm, (congrArg Prod.snd hf).symm, hs2, h4⟩, by simp only; omega, (by repeat' first | exact Keep.nil | refine Keep.cons rfl ?_), (by repeat' first | exact Keep.nil | refine Keep.cons rfl ?_), _, (by repeat (first | exact Split.nil | (apply Split.cons; next => repeat (first | exact Pick.here | apply Pick.there | apply Pick.app)) | (apply Split.chunk; next => repeat (first | exact PickL.here | exact PickL.last | apply PickL.there | apply PickL.app)) | (apply Split.lst; repeat (first | exact PickL.here | exact PickL.last | apply PickL.there | apply PickL.app))))⟩
          · simp only [decide_eq_true_eq, decide_eq_false_iff_not] at c54
            have hi : i = c.blocks.length := (by omega)
            subst hi
            have hu : u.list = (fmtT c).uses := h1
            have hl : l.list = (fmtT c).lost := h2
            refine s_exit ?_
            refine x_K ?_
            refine x_K ?_
            refine x_blk ?_
            refine n_K ?_
            refine s_seq ?_
            refine s_seq ?_
            refine s_region [(2, 100), (6, 104)] rfl (fun ops y => ?_)
            refine o_rd (rd_move rfl) rfl ?_
            refine c_is rfl (bad_a (c := c) (i := 0) rfl) (by repeat (first | exact Split.nil | (apply Split.cons; next => repeat (first | exact Pick.here | apply Pick.there | apply Pick.app)) | (apply Split.chunk; next => repeat (first | exact PickL.here | exact PickL.last | apply PickL.there | apply PickL.app)) | (apply Split.lst; repeat (first | exact PickL.here | exact PickL.last | apply PickL.there | apply PickL.app)))) rfl (by repeat (first | exact Ap.nil | apply Ap.cons | apply Ap.app | exact Ap.one)) ?_
            refine o_rd (rd_move rfl) rfl ?_
            refine' o_or (j := 2) (k := 2) y rfl rfl rfl rfl rfl rfl rfl (fun hg100 => ?_) ?_
            rotate_left
            · try simp at hg100
              refine o_g y rfl rfl ?_
              refine o_rd (rd_move rfl) rfl ?_
              refine o_g y rfl rfl ?_
              refine c_is rfl (bad_a (c := c) (i := 1) rfl) (by repeat (first | exact Split.nil | (apply Split.cons; next => repeat (first | exact Pick.here | apply Pick.there | apply Pick.app)) | (apply Split.chunk; next => repeat (first | exact PickL.here | exact PickL.last | apply PickL.there | apply PickL.app)) | (apply Split.lst; repeat (first | exact PickL.here | exact PickL.last | apply PickL.there | apply PickL.app)))) rfl (by repeat (first | exact Ap.nil | apply Ap.cons | apply Ap.app | exact Ap.one)) ?_
              exact o_nil ⟨rfl, rfl, ⟨_, (by repeat (first | exact Split.nil | (apply Split.cons; next => repeat (first | exact Pick.here | apply Pick.there | apply Pick.app)) | (apply Split.chunk; next => repeat (first | exact PickL.here | exact PickL.last | apply PickL.there | apply PickL.app)) | (apply Split.lst; repeat (first | exact PickL.here | exact PickL.last | apply PickL.there | apply PickL.app))))⟩⟩
            refine o_rd (rd_move rfl) rfl ?_
            refine' o_or (j := 6) (k := 8) y rfl rfl rfl rfl rfl rfl rfl (fun hg104 => ?_) ?_
            rotate_left
            · try simp at hg104
              refine o_g y rfl rfl ?_
              refine o_rd (rd_move rfl) rfl ?_
              refine o_g y rfl rfl ?_
              refine o_rd (rd_nil rfl) rfl ?_
              refine o_g y rfl rfl ?_
              refine o_rd (rd_field rfl) rfl ?_
              refine o_g y rfl rfl ?_
              refine o_rd (rd_field rfl) rfl ?_
              refine o_g y rfl rfl ?_
              refine o_rd (rd_ld rfl (by repeat' first | exact List.Mem.head _ | apply List.Mem.tail | apply List.mem_append_right) rfl) rfl ?_
              refine o_g y rfl rfl ?_
              refine o_rd (rd_lenS rfl) rfl ?_
              refine o_g y rfl rfl ?_
              refine o_rd (rd_move rfl) rfl ?_
              refine o_g y rfl rfl ?_
              refine o_rd (rd_bin rfl rfl rfl) rfl ?_
              exact o_nil ⟨rfl, rfl, ⟨_, (by repeat (first | exact Split.nil | (apply Split.cons; next => repeat (first | exact Pick.here | apply Pick.there | apply Pick.app)) | (apply Split.chunk; next => repeat (first | exact PickL.here | exact PickL.last | apply PickL.there | apply PickL.app)) | (apply Split.lst; repeat (first | exact PickL.here | exact PickL.last | apply PickL.there | apply PickL.app))))⟩⟩
            refine o_nil ?_
            refine n_K ?_
            refine s_cond rfl (fun c113 => ?_) (fun c113 => ?_)
            · skip
              have hres : formatC c = (34, ts0, c) := (by unfold formatC; rw [if_neg (by rw [hm]; simp), if_pos (by unfold fmtBad; rw [← hu]; exact c113)])
              refine s_seq ?_
              refine s_region0 (fun ops => ?_)
              refine o_rd (rd_assign rfl) rfl ?_
              refine o_rd (rd_assign rfl) rfl ?_
              refine o_nil ?_
              refine n_K ?_
              refine s_ret ?_
              refine r_K ?_
              exact leaf_r (rets2 Tryz.results15 (rv_tmp rfl) (rv_tmp rfl)) (by right; rw [hres]; exact ⟨rfl, rfl, by simp⟩) (by repeat (first | exact Split.nil | (apply Split.cons; next => repeat (first | exact Pick.here | apply Pick.there | apply Pick.app)) | (apply Split.chunk; next => repeat (first | exact PickL.here | exact PickL.last | apply PickL.there | apply PickL.app)) | (apply Split.lst; repeat (first | exact PickL.here | exact PickL.last | apply PickL.there | apply PickL.app))))
            · skip
              have hnb : ¬ fmtBad c = true := (by unfold fmtBad; rw [← hu]; intro h; have h' := h.symm.trans c113; cases h')
              have hT : Tab.ts ⟨b18, u, l, (fmt0 c).1, (fmt0 c).2.1, (fmt0 c).2.2, 0⟩ = fmtT c := (by show TS.mk _ _ _ _ _ _ = _; rw [hu, hl]; rfl)
              refine s_skip ?_
              refine n_K ?_
              refine s_seq ?_
              refine s_seq ?_
              refine s_region0 (fun ops => ?_)
              refine o_rd (rd_move rfl) rfl ?_
              refine o_rd (rd_move rfl) rfl ?_
              refine o_rd (rd_nil rfl) rfl ?_
              refine o_rd (rd_field rfl) rfl ?_
              refine o_rd (rd_ldA rfl (by repeat' first | exact List.Mem.head _ | apply List.Mem.tail | apply List.mem_append_right) rfl) rfl ?_
              refine c_ex rfl (keep2_fn (c := c) (a := c.aC) (t := ⟨b18, u, l, (fmt0 c).1, (fmt0 c).2.1, (fmt0 c).2.2, 0⟩) (u := u) (l := l) rfl (by omega) (by omega) hfr.2.1 hfr.1) (by repeat (first | exact Split.nil | (apply Split.cons; next => repeat (first | exact Pick.here | apply Pick.there | apply Pick.app)) | (apply Split.chunk; next => repeat (first | exact PickL.here | exact PickL.last | apply PickL.there | apply PickL.app)) | (apply Split.lst; repeat (first | exact PickL.here | exact PickL.last | apply PickL.there | apply PickL.app)))) rfl (fun v119 Y119 h119 => ?_)
              rcases h119 with ⟨t2, e1, e2, e3, rfl, rfl, e4, e5⟩ | ⟨e, rfl, e1, rfl, e4, e5⟩
              all_goals
                refine so_ap (by repeat (first | exact Ap.nil | apply Ap.cons | apply Ap.app | exact Ap.one)) ?_
                refine o_rd (rd_assign rfl) rfl ?_
                refine o_nil ?_
                refine n_K ?_
                refine s_seq ?_
                refine s_region0 (fun ops => ?_)
                refine o_rd (rd_move rfl) rfl ?_
                refine o_rd (rd_bin rfl rfl rfl) rfl ?_
                refine o_nil ?_
                refine n_K ?_
                refine s_cond rfl (fun c121 => ?_) (fun c121 => ?_)
                · skip
                  try (exfalso; (simp at c121); done)
                  all_goals
                    refine s_seq ?_
                    refine s_region0 (fun ops => ?_)
                    refine o_rd (rd_move rfl) rfl ?_
                    refine o_rd (rd_assign rfl) rfl ?_
                    refine o_rd (rd_assign rfl) rfl ?_
                    refine o_nil ?_
                    refine n_K ?_
                    refine s_ret ?_
                    refine r_K ?_
                    exact leaf_r (rets2 Tryz.results15 (rv_tmp rfl) (rv_tmp rfl)) (by rw [hT, hu, hl] at e4; have hres : formatC c = (e, ts0, (keepC (fmtT c) (fmtT c).uses (fmtT c).lost c).2.2) := (by unfold formatC; rw [if_neg (by rw [hm]; simp), if_neg hnb, if_pos (by rw [e4]; exact e1), e4]); right; rw [hres]; exact ⟨rfl, rfl, e1⟩) (by rw [hT, hu, hl]; exact (by repeat (first | exact Split.nil | (apply Split.cons; next => repeat (first | exact Pick.here | apply Pick.there | apply Pick.app)) | (apply Split.chunk; next => repeat (first | exact PickL.here | exact PickL.last | apply PickL.there | apply PickL.app)) | (apply Split.lst; repeat (first | exact PickL.here | exact PickL.last | apply PickL.there | apply PickL.app)))))
                · skip
                  try (exfalso; (simp at c121; exact e1 c121); done)
                  all_goals
                    refine s_skip ?_
                    refine n_K ?_
                    refine s_seq ?_
                    refine s_region0 (fun ops => ?_)
                    refine o_rd (rd_move rfl) rfl ?_
                    refine o_rd (rd_assign rfl) rfl ?_
                    refine o_rd (rd_assign rfl) rfl ?_
                    refine o_nil ?_
                    refine n_K ?_
                    refine s_ret ?_
                    exact leaf_r (rets2 Tryz.results15 (rv_tmp rfl) (rv_tmp rfl)) (by rw [hT, hu, hl] at e4 e5; have hres : formatC c = keepC (fmtT c) (fmtT c).uses (fmtT c).lost c := (by unfold formatC; rw [if_neg (by rw [hm]; simp), if_neg hnb, if_neg (by rw [e4]; simp)]); left; rw [hres]; exact ⟨t2, by rw [e1], rfl, e5, e4⟩) (by rw [hT, hu, hl, tabH_eq, e2, e3]; simp only [List.cons_append, List.append_assoc, List.nil_append]; exact (by repeat (first | exact Split.nil | (apply Split.cons; next => repeat (first | exact Pick.here | apply Pick.there | apply Pick.app)) | (apply Split.chunk; next => repeat (first | exact PickL.here | exact PickL.last | apply PickL.there | apply PickL.app)) | (apply Split.lst; repeat (first | exact PickL.here | exact PickL.last | apply PickL.there | apply PickL.app)))))
end Go.Proofs.YtdfidkhbldedlaaGreat
