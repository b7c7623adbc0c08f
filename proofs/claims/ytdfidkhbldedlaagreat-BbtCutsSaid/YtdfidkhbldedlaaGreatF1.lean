/- Walks of package frame. -/
import Derived.Test.YtdfidkhbldedlaaGreatP3
import Derived.Test.YtdfidkhbldedlaaGreatF0
namespace Go.Proofs.YtdfidkhbldedlaaGreat
open Go.K
set_option linter.unusedVariables false
set_option linter.unusedSimpArgs false
instance zer118 : Zer Tryz.prog 118 ([.slice none 0 0]) := ⟨by kernel_rfl⟩
instance ent60 : Ent Tryz.prog 60 := ⟨fun _ _ => by kernel_rfl⟩
instance ent66 : Ent Tryz.prog 66 := ⟨fun _ _ => by kernel_rfl⟩
instance ent84 : Ent Tryz.prog 84 := ⟨fun _ _ => by kernel_rfl⟩
instance ent107 : Ent Tryz.prog 107 := ⟨fun _ _ => by kernel_rfl⟩

theorem blankp_fn {p : Pg} : Does Tryz.prog 60 [.agg (vbc p).toArray] [] (Is (.bool (blankB p)) []) := by
  refine fn_enter (n := 18) Tryz.func60 Tryz.ntmps60 rfl (Nat.le_of_ble_eq_true rfl) ?_
  refine s_seq ?_
  refine s_region0 (fun ops => ?_)
  refine o_boxA rfl rfl (fun b1 => ?_)
  refine o_rd (rd_assign rfl) rfl ?_
  refine o_nil ?_
  refine n_K ?_
  refine s_seq ?_
  refine s_region0 (fun ops => ?_)
  refine o_rd (rd_assign rfl) rfl ?_
  refine o_nil ?_
  refine n_K ?_
  refine s_seq ?_
  refine s_seq ?_
  refine s_region0 (fun ops => ?_)
  refine o_rd (rd_ldA rfl (by repeat' first | exact List.Mem.head _ | apply List.Mem.tail | apply List.mem_append_right) (by first | exact cut_vb | rfl)) rfl ?_
  refine o_rd (rd_move rfl) rfl ?_
  refine o_nil ?_
  refine n_K ?_
  refine s_block ?_
  refine s_loop2E [6] (by repeat' first | exact Keep2.nil | apply Keep2.cons rfl) (fun (i : Nat) => [(7, .int .i64 i), (3, .int .i64 (zerosU p i : Nat))]) (fun (i : Nat) => i ≤ 258) (fun (i : Nat) => 258 - i) ((0 : Nat)) (Nat.zero_le _) (by repeat' first | exact Keep.nil | refine Keep.cons rfl ?_) ?_
  rintro i h0
  refine s_seq ?_
  refine s_region0 (fun ops => ?_)
  refine o_rd (rd_bin rfl rfl rfl) rfl ?_
  refine o_nil ?_
  refine n_K ?_
  refine s_seq ?_
  refine s_cond rfl (fun c8 => ?_) (fun c8 => ?_)
  · simp only [decide_eq_true_eq, decide_eq_false_iff_not] at c8
    have hi : i < 258 := (by omega)
    have hd : p.toList.getD i 0 = p[i] := (by simp [List.getD_eq_getElem?_getD, hi])
    have hz := zerosU_succ p i
    have hle := zerosU_le p i
    have hp8 := pop8_le (~~~ (p.toList.getD i 0))
    rw [hd] at hz hp8
    refine s_skip ?_
    refine n_K ?_
    refine s_seq ?_
    refine s_block ?_
    refine s_seq ?_
    refine s_region0 (fun ops => ?_)
    refine o_rd (show Rd _ _ _ _ (bv p[i]) from rd_ix rfl rfl (by omega) (show nth (vbc p) (i * 1) = _ by rw [Nat.mul_one]; exact nth_vb hi)) rfl ?_
    refine o_rd (rd_assign rfl) rfl ?_
    refine o_nil ?_
    refine n_K ?_
    refine s_region0 (fun ops => ?_)
    refine o_rd (rd_move rfl) rfl ?_
    refine o_rd (rd_move rfl) rfl ?_
    refine o_rd (rd_compl8 rfl) rfl ?_
    refine c_is rfl (ones8_fn) (by repeat (first | exact Split.nil | (apply Split.cons; next => repeat (first | exact Pick.here | apply Pick.there | apply Pick.app)) | (apply Split.chunk; next => repeat (first | exact PickL.here | exact PickL.last | apply PickL.there | apply PickL.app)) | (apply Split.lst; repeat (first | exact PickL.here | exact PickL.last | apply PickL.there | apply PickL.app)))) rfl (by repeat (first | exact Ap.nil | apply Ap.cons | apply Ap.app | exact Ap.one)) ?_
    refine o_rd (show Rd _ _ _ _ (.int .i64 ((zerosU p (i + 1) : Nat) : Int)) from by (rw [hz]; exact rd_addN rfl rfl (by omega))) rfl ?_
    refine o_rd (rd_assign rfl) rfl ?_
    refine o_nil ?_
    refine n_blk ?_
    refine n_K ?_
    refine s_region0 (fun ops => ?_)
    refine o_rd (rd_add64 rfl rfl (by omega)) rfl ?_
    refine o_rd (rd_move rfl) rfl ?_
    refine o_nil ?_
    refine n_K ?_
    exact ⟨i + 1, (by omega), (by omega), (by repeat' first | exact Keep.nil | refine Keep.cons rfl ?_), (by repeat' first | exact Keep.nil | refine Keep.cons rfl ?_), _, (by repeat (first | exact Split.nil | (apply Split.cons; next => repeat (first | exact Pick.here | apply Pick.there | apply Pick.app)) | (apply Split.chunk; next => repeat (first | exact PickL.here | exact PickL.last | apply PickL.there | apply PickL.app)) | (apply Split.lst; repeat (first | exact PickL.here | exact PickL.last | apply PickL.there | apply PickL.app))))⟩
  · simp only [decide_eq_true_eq, decide_eq_false_iff_not] at c8
    refine s_exit ?_
    refine x_K ?_
    refine x_K ?_
    refine x_blk ?_
    refine n_K ?_
    refine s_seq ?_
    refine s_region0 (fun ops => ?_)
    refine o_rd (rd_move rfl) rfl ?_
    refine o_rd (rd_bin rfl rfl rfl) rfl ?_
    refine o_rd (rd_assign rfl) rfl ?_
    refine o_nil ?_
    refine n_K ?_
    refine s_ret ?_
    refine leaf_is (rets1 Tryz.results60 (rv_tmp rfl)) ?_ (by repeat (first | exact Split.nil | (apply Split.cons; next => repeat (first | exact Pick.here | apply Pick.there | apply Pick.app)) | (apply Split.chunk; next => repeat (first | exact PickL.here | exact PickL.last | apply PickL.there | apply PickL.app)) | (apply Split.lst; repeat (first | exact PickL.here | exact PickL.last | apply PickL.there | apply PickL.app))))
    unfold blankB; rw [show i = 258 by omega]; exact congrArg Value.bool (decide_eq_decide.2 (by omega))
/-- One slice of bytes, as a list of such. -/
theorem one_parts {b : Nat} {s : Sl By} {L : Hp} : ((b, true, C [s.val] tSB) :: (s.hp tU8 ++ L)) = (Sl.own b [s] 1 [] ⟨by simp, Nat.le_refl _, by simp⟩ : Sl (Sl By)).hp tSB ++ (partsH [s] ++ L) := by
  rw [Sl.hp_own, partsH_cons, partsH_nil]
  simp only [List.append_assoc, List.nil_append]
  rfl
/-- The first bytes of data, as a slice. -/
def viewD (b : Nat) (d : Dat) (o : Nat) (xs : List By) (cap : Nat) (T : TypeId) (h : Shows (vbc d) o xs ∧ xs.length ≤ cap ∧ xs.length ≤ 9223372036854775807) : Sl By := .view b o true (vbc d) T (0, 0) xs cap h
theorem shows_vb {n : Nat} {p : Vector By n} {o m : Nat} : Shows (vbc p) o ((p.toList.drop o).take m) := fun i x hx => by
  have hx' := take_get hx
  rw [List.getElem?_drop] at hx'
  have hlt : o + i < n := by have := (List.getElem?_eq_some_iff.1 hx').1; simpa using this
  refine cut_iff.2 ⟨?_, by rw [vbc_len]; simp only [Cel.sz]; omega⟩
  simp only [Cel.sz, Nat.mul_one, Cel.cs]
  have h1 : (vbc p)[o + i]? = some (bv x) := by rw [vbc, List.getElem?_map, hx']; rfl
  have hl : o + i < (vbc p).length := by rw [vbc_len]; exact hlt
  rw [List.drop_eq_getElem_cons hl, List.take_succ_cons, List.take_zero]
  have := List.getElem?_eq_getElem hl
  rw [h1] at this
  rw [Option.some.inj this]
/-- A part of an array of bytes, as a slice. -/
def viewV {n : Nat} (b : Nat) (p : Vector By n) (o m cap : Nat) (T : TypeId) (h : min m (n - o) ≤ cap ∧ n ≤ 1000) : Sl By :=
  .view b o true (vbc p) T (0, 0) ((p.toList.drop o).take m) cap ⟨shows_vb, by simp only [List.length_take, List.length_drop, Vector.length_toList]; omega, by simp only [List.length_take, List.length_drop, Vector.length_toList]; omega⟩
theorem viewV_val {n b o m cap : Nat} {p : Vector By n} {T : TypeId} {h} (hm : o + m ≤ n) : (viewV b p o m cap T h).val = .slice (some ⟨b, o, none⟩) m cap := by
  have : ((p.toList.drop o).take m).length = m := by simp only [List.length_take, List.length_drop, Vector.length_toList]; omega
  show Value.slice (some ⟨b, o, none⟩) ((p.toList.drop o).take m).length cap = _
  rw [this]
theorem viewV_hp {n b o m cap : Nat} {p : Vector By n} {T U : TypeId} {h} : (viewV b p o m cap T h).hp U = [(b, true, C (vbc p) T)] := by unfold viewV; rw [Sl.hp_view]
theorem viewV_list {n b o m cap : Nat} {p : Vector By n} {T : TypeId} {h} : (viewV b p o m cap T h).list = (p.toList.drop o).take m := rfl
theorem crc_dat {b33 b7 : Nat} {d : Dat} : Does Tryz.prog 96 [.slice (some ⟨b33, 0, none⟩) 1 1] [(b33, true, C [.slice (some ⟨b7, 0, none⟩) 252 256] tSB), (b7, true, C (vbc d) tDa)] (Is (uv (crcOf d)) [(b33, true, C [.slice (some ⟨b7, 0, none⟩) 252 256] tSB), (b7, true, C (vbc d) tDa)]) := by
  have h := sum_fn (q := .own b33 [viewV b7 d 0 252 256 tDa (by omega)] 1 [] ⟨by simp, Nat.le_refl _, by simp⟩)
  have e := one_parts (b := b33) (s := viewV b7 d 0 252 256 tDa (by omega)) (L := [])
  rw [viewV_val (by omega), viewV_hp] at e
  have e2 : (Sl.own b33 [viewV b7 d 0 252 256 tDa (by omega)] 1 [] ⟨by simp, Nat.le_refl _, by simp⟩ : Sl (Sl By)).list = [viewV b7 d 0 252 256 tDa (by omega)] := rfl
  rw [e2, ← e] at h
  exact h
theorem conv_n8 (n : Nat) : IntKind.u8.wrap (n : Int) = ((BitVec.ofNat 8 n).toNat : Int) := by
  rw [wrap_u .u8 rfl, BitVec.ofInt_natCast]; rfl
theorem conv_n64 (n : Nat) : IntKind.u64.wrap (n : Int) = ((BitVec.ofNat 64 n).toNat : Int) := by
  rw [wrap_u .u64 rfl, BitVec.ofInt_natCast]; rfl
theorem cut_all {n : Nat} {p : Vector By n} : cut (vbc p) 0 (n * 1) = some (cells p.toList) := by
  rw [Nat.mul_one, cells_by]; exact cut_vb
theorem write_page {kind : By} {q : Sl (Sl By)} (hl : (joinB q.list).length ≤ 70000000000000) : Does Tryz.prog 66 [bv kind, q.val] (q.hp tSB ++ (partsH q.list ++ []))
    (Is (.tuple #[.agg (vbc (writeF kind (joinB q.list)).1).toArray, .int .i64 (writeF kind (joinB q.list)).2]) (q.hp tSB ++ (partsH q.list ++ []))) := by
  refine fn_enter (n := 48) Tryz.func66 Tryz.ntmps66 rfl (Nat.le_of_ble_eq_true rfl) ?_
  refine s_seq ?_
  refine s_region0 (fun ops => ?_)
  refine o_alloc rfl (fun b4 => ?_)
  rw [zeroP_eq]
  refine o_rd (rd_assign rfl) rfl ?_
  refine o_nil ?_
  refine n_K ?_
  refine s_seq ?_
  refine s_region0 (fun ops => ?_)
  refine o_rd (rd_move rfl) rfl ?_
  refine c_ex rfl (pjoin_fn hl) (by repeat (first | exact Split.nil | (apply Split.cons; next => repeat (first | exact Pick.here | apply Pick.there | apply Pick.app)) | (apply Split.chunk; next => repeat (first | exact PickL.here | exact PickL.last | apply PickL.there | apply PickL.app)) | (apply Split.lst; repeat (first | exact PickL.here | exact PickL.last | apply PickL.there | apply PickL.app)))) rfl (fun v9 Y9 h9 => ?_)
  obtain ⟨s9, rfl, rfl, hs9, ho9⟩ := h9
  refine so_ap (by repeat (first | exact Ap.nil | apply Ap.cons | apply Ap.app | exact Ap.one)) ?_
  refine o_rd (rd_assign rfl) rfl ?_
  refine o_nil ?_
  refine n_K ?_
  refine s_seq ?_
  refine s_seq ?_
  refine s_region [(2, 12), (6, 16)] rfl (fun ops y => ?_)
  refine o_rd (rd_move rfl) rfl ?_
  refine o_rd (rd_bin rfl rfl rfl) rfl ?_
  refine o_rd (rd_move rfl) rfl ?_
  refine' o_or (j := 2) (k := 2) y rfl rfl rfl rfl rfl rfl rfl (fun hg12 => ?_) ?_
  rotate_left
  · try simp at hg12
    refine o_g y rfl rfl ?_
    refine o_rd (rd_move rfl) rfl ?_
    refine o_g y rfl rfl ?_
    refine o_rd (rd_bin rfl rfl rfl) rfl ?_
    exact o_nil ⟨rfl, rfl, ⟨_, (by repeat (first | exact Split.nil | (apply Split.cons; next => repeat (first | exact Pick.here | apply Pick.there | apply Pick.app)) | (apply Split.chunk; next => repeat (first | exact PickL.here | exact PickL.last | apply PickL.there | apply PickL.app)) | (apply Split.lst; repeat (first | exact PickL.here | exact PickL.last | apply PickL.there | apply PickL.app))))⟩⟩
  refine o_rd (rd_move rfl) rfl ?_
  refine' o_or (j := 6) (k := 3) y rfl rfl rfl rfl rfl rfl rfl (fun hg16 => ?_) ?_
  rotate_left
  · try simp at hg16
    refine o_g y rfl rfl ?_
    refine o_rd (rd_move rfl) rfl ?_
    refine o_g y rfl rfl ?_
    refine o_rd (rd_lenS rfl) rfl ?_
    refine o_g y rfl rfl ?_
    refine o_rd (rd_bin rfl rfl rfl) rfl ?_
    exact o_nil ⟨rfl, rfl, ⟨_, (by repeat (first | exact Split.nil | (apply Split.cons; next => repeat (first | exact Pick.here | apply Pick.there | apply Pick.app)) | (apply Split.chunk; next => repeat (first | exact PickL.here | exact PickL.last | apply PickL.there | apply PickL.app)) | (apply Split.lst; repeat (first | exact PickL.here | exact PickL.last | apply PickL.there | apply PickL.app))))⟩⟩
  refine o_nil ?_
  refine n_K ?_
  refine s_cond rfl (fun c20 => ?_) (fun c20 => ?_)
  · skip
    have hres : writeF kind (joinB q.list) = (zeroP, 1) := (by unfold writeF; rw [if_pos (by unfold wrong; rw [← hs9]; exact c20)])
    refine s_seq ?_
    refine s_region0 (fun ops => ?_)
    refine o_rd (rd_ldA rfl (by repeat' first | exact List.Mem.head _ | apply List.Mem.tail | apply List.mem_append_right) (by first | exact cut_vb | rfl)) rfl ?_
    first | refine o_store rfl rfl (by repeat' first | exact Upd.here | apply Upd.there | apply Upd.app) (vc_vb) (vbc_len) (spl_vb (by first | exact vbc_len | exact List.length_replicate ..)) ?_ | refine o_store rfl rfl (by repeat' first | exact Upd.here | apply Upd.there | apply Upd.app) rfl rfl rfl ?_
    refine o_rd (rd_assign rfl) rfl ?_
    refine o_nil ?_
    refine n_K ?_
    refine s_ret ?_
    refine r_K ?_
    refine leaf_is (rets2 Tryz.results66 (rv_cell rfl (by repeat' first | exact List.Mem.head _ | apply List.Mem.tail | apply List.mem_append_right) (by first | exact cut_vb | rfl)) (rv_tmp rfl)) ?_ (by repeat (first | exact Split.nil | (apply Split.cons; next => repeat (first | exact Pick.here | apply Pick.there | apply Pick.app)) | (apply Split.chunk; next => repeat (first | exact PickL.here | exact PickL.last | apply PickL.there | apply PickL.app)) | (apply Split.lst; repeat (first | exact PickL.here | exact PickL.last | apply PickL.there | apply PickL.app))))
    rw [← hs9]; first | rw [hs9, hres] | (rw [← hb, hres])
  · skip
    have hres : writeF kind (joinB q.list) = (pageW kind (joinB q.list), 0) := (by unfold writeF; rw [if_neg (by unfold wrong; rw [← hs9, c20]; exact Bool.false_ne_true)])
    have hlen : s9.list.length ≤ 240 := (by simp at c20; omega)
    obtain ⟨body, hb⟩ : ∃ body, body = s9.list := ⟨_, rfl⟩
    rw [← hb] at hlen
    rw [← hs9, ← hb] at hres
    refine s_skip ?_
    refine n_K ?_
    refine s_seq ?_
    refine s_region0 (fun ops => ?_)
    refine o_alloc rfl (fun b7 => ?_)
    rw [zeroD_eq]
    refine o_nil ?_
    refine n_K ?_
    refine s_seq ?_
    refine s_region0 (fun ops => ?_)
    refine o_rd (rd_move rfl) rfl ?_
    refine o_rd (rd_move rfl) rfl ?_
    refine o_rd (rd_lenS rfl) rfl ?_
    refine o_rd (show Rd _ _ _ _ (bv (BitVec.ofNat 8 s9.list.length)) from by (unfold bv; rw [← conv_n8]; exact rd_convI rfl)) rfl ?_
    refine o_rd (rd_ixA0 rfl rfl (by omega)) rfl ?_
    first | refine o_store (cs' := vbc (zeroD.set 0 kind)) rfl rfl (by repeat' first | exact Upd.here | apply Upd.there | apply Upd.app) rfl rfl (spl1_vb (by omega) kind) ?_ | refine o_store (cs' := vbc ((zeroD.set 0 kind).set 1 (BitVec.ofNat 8 s9.list.length))) rfl rfl (by repeat' first | exact Upd.here | apply Upd.there | apply Upd.app) rfl rfl (spl1_vb (by omega) _) ?_
    refine o_rd (rd_ixA0 rfl rfl (by omega)) rfl ?_
    first | refine o_store (cs' := vbc (zeroD.set 0 kind)) rfl rfl (by repeat' first | exact Upd.here | apply Upd.there | apply Upd.app) rfl rfl (spl1_vb (by omega) kind) ?_ | refine o_store (cs' := vbc ((zeroD.set 0 kind).set 1 (BitVec.ofNat 8 s9.list.length))) rfl rfl (by repeat' first | exact Upd.here | apply Upd.there | apply Upd.app) rfl rfl (spl1_vb (by omega) _) ?_
    refine o_nil ?_
    refine n_K ?_
    refine s_seq ?_
    refine s_region0 (fun ops => ?_)
    refine o_rd (rd_sliceA (i := 2) (j := 256) rfl ⟨_, rfl⟩ rfl (by omega)) rfl ?_
    refine o_rd (rd_move rfl) rfl ?_
    refine o_copySrc (cs' := vbc (dat0 kind body)) rfl rfl (src_sl (by repeat (first | exact PickL.here | exact PickL.last | apply PickL.there | apply PickL.app))) (by rw [← hb]; omega) (by repeat' first | exact Upd.here | apply Upd.there | apply Upd.app) (by rw [← hb]; exact spl_put (by omega)) (cells_one _) rfl ?_
    refine o_nil ?_
    refine n_K ?_
    refine s_seq ?_
    refine s_draw [] [(6, [(0, false), (1, false), (2, true), (3, true), (4, false), (5, true)]), (7, [(6, true)])] (by kernel_rfl) rfl (fun ops w0 H0 y => ?_)
    refine p_all ?_
    refine x_rd (rd_sliceA (i := 252) (j := 256) rfl ⟨_, rfl⟩ rfl (by omega)) rfl ?_
    refine x_rd (rd_sliceA (i := 0) (j := 252) rfl rfl ⟨_, rfl⟩ (by omega)) rfl ?_
    refine x_so ?_
    refine o_bslice_k rfl rfl rfl rfl (fun b33 => ?_)
    refine o_nil ⟨rfl, ⟨_, (by repeat (first | exact Split.nil | (apply Split.cons; next => repeat (first | exact Pick.here | apply Pick.there | apply Pick.app)) | (apply Split.chunk; next => repeat (first | exact PickL.here | exact PickL.last | apply PickL.there | apply PickL.app)) | (apply Split.lst; repeat (first | exact PickL.here | exact PickL.last | apply PickL.there | apply PickL.app))))⟩, ?_⟩
    refine x_so ?_
    refine c_is rfl (crc_dat) (by repeat (first | exact Split.nil | (apply Split.cons; next => repeat (first | exact Pick.here | apply Pick.there | apply Pick.app)) | (apply Split.chunk; next => repeat (first | exact PickL.here | exact PickL.last | apply PickL.there | apply PickL.app)) | (apply Split.lst; repeat (first | exact PickL.here | exact PickL.last | apply PickL.there | apply PickL.app)))) rfl (by repeat (first | exact Ap.nil | apply Ap.cons | apply Ap.app | exact Ap.one)) ?_
    refine o_nil ⟨rfl, ⟨_, (by repeat (first | exact Split.nil | (apply Split.cons; next => repeat (first | exact Pick.here | apply Pick.there | apply Pick.app)) | (apply Split.chunk; next => repeat (first | exact PickL.here | exact PickL.last | apply PickL.there | apply PickL.app)) | (apply Split.lst; repeat (first | exact PickL.here | exact PickL.last | apply PickL.there | apply PickL.app))))⟩, ?_⟩
    refine x_rd (rd_32to64 rfl) rfl ?_
    refine x_so ?_
    refine c_ex rfl (num_fn) (by repeat (first | exact Split.nil | (apply Split.cons; next => repeat (first | exact Pick.here | apply Pick.there | apply Pick.app)) | (apply Split.chunk; next => repeat (first | exact PickL.here | exact PickL.last | apply PickL.there | apply PickL.app)) | (apply Split.lst; repeat (first | exact PickL.here | exact PickL.last | apply PickL.there | apply PickL.app)))) rfl (fun v36 Y36 h36 => ?_)
    obtain ⟨s36, rfl, rfl, hs36, ho36⟩ := h36
    refine so_ap (by repeat (first | exact Ap.nil | apply Ap.cons | apply Ap.app | exact Ap.one)) ?_
    refine o_nil ⟨rfl, ⟨_, (by repeat (first | exact Split.nil | (apply Split.cons; next => repeat (first | exact Pick.here | apply Pick.there | apply Pick.app)) | (apply Split.chunk; next => repeat (first | exact PickL.here | exact PickL.last | apply PickL.there | apply PickL.app)) | (apply Split.lst; repeat (first | exact PickL.here | exact PickL.last | apply PickL.there | apply PickL.app))))⟩, ?_⟩
    refine x_nil ?_
    refine p_none ?_
    refine x_so ?_
    refine o_copySrc (cs' := vbc (datW kind body)) rfl rfl (src_sl (by repeat (first | exact PickL.here | exact PickL.last | apply PickL.there | apply PickL.app))) (by rw [hs36, numB_len]; decide) (by repeat' first | exact Upd.here | apply Upd.there | apply Upd.app) (by rw [hs36]; exact spl_put (by rw [numB_len]; decide)) (cells_one _) rfl ?_
    refine o_nil ⟨rfl, ⟨_, (by repeat (first | exact Split.nil | (apply Split.cons; next => repeat (first | exact Pick.here | apply Pick.there | apply Pick.app)) | (apply Split.chunk; next => repeat (first | exact PickL.here | exact PickL.last | apply PickL.there | apply PickL.app)) | (apply Split.lst; repeat (first | exact PickL.here | exact PickL.last | apply PickL.there | apply PickL.app))))⟩, ?_⟩
    refine x_nil ?_
    refine p_end ?_
    refine n_K ?_
    refine s_seq ?_
    refine s_draw [] [(2, [(0, false), (1, false)]), (3, [(2, true)])] (by kernel_rfl) rfl (fun ops w0 H0 y => ?_)
    refine p_all ?_
    refine x_rd (rd_sliceA (i := 0) (j := 258) rfl rfl rfl (by omega)) rfl ?_
    refine x_rd (rd_sliceA (i := 0) (j := 256) rfl rfl rfl (by omega)) rfl ?_
    refine x_nil ?_
    refine p_none ?_
    refine x_so ?_
    refine o_copySrc (cs' := vbc (putV zeroP 0 (datW kind body).toList)) rfl rfl (src_blk (r := true) (by repeat' first | exact List.Mem.head _ | apply List.Mem.tail | apply List.mem_append_right) cut_all) (by decide) (by repeat' first | exact Upd.here | apply Upd.there | apply Upd.app) (spl_put (by simp)) (cells_one _) rfl ?_
    refine o_nil ⟨rfl, ⟨_, (by repeat (first | exact Split.nil | (apply Split.cons; next => repeat (first | exact Pick.here | apply Pick.there | apply Pick.app)) | (apply Split.chunk; next => repeat (first | exact PickL.here | exact PickL.last | apply PickL.there | apply PickL.app)) | (apply Split.lst; repeat (first | exact PickL.here | exact PickL.last | apply PickL.there | apply PickL.app))))⟩, ?_⟩
    refine x_nil ?_
    refine p_end ?_
    refine n_K ?_
    refine s_seq ?_
    refine s_draw [] [(5, [(0, false), (1, false), (2, true), (3, false), (4, true)]), (6, [(5, true)])] (by kernel_rfl) rfl (fun ops w0 H0 y => ?_)
    refine p_all ?_
    refine x_rd (rd_sliceA (i := 256) (j := 258) rfl ⟨_, rfl⟩ rfl (by omega)) rfl ?_
    refine x_rd (rd_ldA rfl (by repeat' first | exact List.Mem.head _ | apply List.Mem.tail | apply List.mem_append_right) (by first | exact cut_vb | rfl)) rfl ?_
    refine x_so ?_
    refine c_is rfl (check_fn) (by repeat (first | exact Split.nil | (apply Split.cons; next => repeat (first | exact Pick.here | apply Pick.there | apply Pick.app)) | (apply Split.chunk; next => repeat (first | exact PickL.here | exact PickL.last | apply PickL.there | apply PickL.app)) | (apply Split.lst; repeat (first | exact PickL.here | exact PickL.last | apply PickL.there | apply PickL.app)))) rfl (by repeat (first | exact Ap.nil | apply Ap.cons | apply Ap.app | exact Ap.one)) ?_
    refine o_nil ⟨rfl, ⟨_, (by repeat (first | exact Split.nil | (apply Split.cons; next => repeat (first | exact Pick.here | apply Pick.there | apply Pick.app)) | (apply Split.chunk; next => repeat (first | exact PickL.here | exact PickL.last | apply PickL.there | apply PickL.app)) | (apply Split.lst; repeat (first | exact PickL.here | exact PickL.last | apply PickL.there | apply PickL.app))))⟩, ?_⟩
    refine x_rd (show Rd _ _ _ _ (wv (BitVec.ofNat 64 (checkN (datW kind body)))) from rd_via (conv_n64 _) rfl) rfl ?_
    refine x_so ?_
    refine c_ex rfl (num_fn (x := BitVec.ofNat 64 (checkN (datW kind body)))) (by repeat (first | exact Split.nil | (apply Split.cons; next => repeat (first | exact Pick.here | apply Pick.there | apply Pick.app)) | (apply Split.chunk; next => repeat (first | exact PickL.here | exact PickL.last | apply PickL.there | apply PickL.app)) | (apply Split.lst; repeat (first | exact PickL.here | exact PickL.last | apply PickL.there | apply PickL.app)))) rfl (fun v45 Y45 h45 => ?_)
    obtain ⟨s45, rfl, rfl, hs45, ho45⟩ := h45
    refine so_ap (by repeat (first | exact Ap.nil | apply Ap.cons | apply Ap.app | exact Ap.one)) ?_
    refine o_nil ⟨rfl, ⟨_, (by repeat (first | exact Split.nil | (apply Split.cons; next => repeat (first | exact Pick.here | apply Pick.there | apply Pick.app)) | (apply Split.chunk; next => repeat (first | exact PickL.here | exact PickL.last | apply PickL.there | apply PickL.app)) | (apply Split.lst; repeat (first | exact PickL.here | exact PickL.last | apply PickL.there | apply PickL.app))))⟩, ?_⟩
    refine x_nil ?_
    refine p_none ?_
    refine x_so ?_
    refine o_copySrc (cs' := vbc (pageW kind body)) rfl rfl (src_sl (by repeat (first | exact PickL.here | exact PickL.last | apply PickL.there | apply PickL.app))) (by rw [hs45, numB_len]; decide) (by repeat' first | exact Upd.here | apply Upd.there | apply Upd.app) (by rw [hs45]; exact spl_put (by rw [numB_len]; decide)) (cells_one _) rfl ?_
    refine o_nil ⟨rfl, ⟨_, (by repeat (first | exact Split.nil | (apply Split.cons; next => repeat (first | exact Pick.here | apply Pick.there | apply Pick.app)) | (apply Split.chunk; next => repeat (first | exact PickL.here | exact PickL.last | apply PickL.there | apply PickL.app)) | (apply Split.lst; repeat (first | exact PickL.here | exact PickL.last | apply PickL.there | apply PickL.app))))⟩, ?_⟩
    refine x_nil ?_
    refine p_end ?_
    refine n_K ?_
    refine s_seq ?_
    refine s_region0 (fun ops => ?_)
    refine o_rd (rd_ldA rfl (by repeat' first | exact List.Mem.head _ | apply List.Mem.tail | apply List.mem_append_right) (by first | exact cut_vb | rfl)) rfl ?_
    first | refine o_store rfl rfl (by repeat' first | exact Upd.here | apply Upd.there | apply Upd.app) (vc_vb) (vbc_len) (spl_vb (by first | exact vbc_len | exact List.length_replicate ..)) ?_ | refine o_store rfl rfl (by repeat' first | exact Upd.here | apply Upd.there | apply Upd.app) rfl rfl rfl ?_
    refine o_rd (rd_assign rfl) rfl ?_
    refine o_nil ?_
    refine n_K ?_
    refine s_ret ?_
    refine leaf_is (rets2 Tryz.results66 (rv_cell rfl (by repeat' first | exact List.Mem.head _ | apply List.Mem.tail | apply List.mem_append_right) (by first | exact cut_vb | rfl)) (rv_tmp rfl)) ?_ (by repeat (first | exact Split.nil | (apply Split.cons; next => repeat (first | exact Pick.here | apply Pick.there | apply Pick.app)) | (apply Split.chunk; next => repeat (first | exact PickL.here | exact PickL.last | apply PickL.there | apply PickL.app)) | (apply Split.lst; repeat (first | exact PickL.here | exact PickL.last | apply PickL.there | apply PickL.app))))
    rw [← hs9]; first | rw [hs9, hres] | (rw [← hb, hres])
theorem newReader_v {b : Nat} {p : Pg} : Does Tryz.prog 85 [.slice (some ⟨b, 256, none⟩) 2 2] [(b, true, C (vbc p) tPg)] (fun v H => ∃ r : Rdr, v = ptr r.b ∧ H = rdH r ++ ([(b, true, C (vbc p) tPg)] ++ []) ∧ r.sl.list = (p.toList.drop 256).take 2 ∧ r.bad = false) := by
  have h := newReader_fn (s := viewV b p 256 2 2 tPg (by omega)) (T := tPg) (by rw [viewV_list, List.length_take]; omega)
  rw [viewV_val (by omega), viewV_hp, viewV_list] at h
  exact h
theorem clone_v {b n : Nat} {d : Dat} (hn : n ≤ 240) : Does Tryz.prog 106 [.slice (some ⟨b, 2, none⟩) n 254] [(b, true, C (vbc d) tDa)] (fun v H => ∃ s : Sl By, v = s.val ∧ H = s.hp tU8 ++ ([(b, true, C (vbc d) tDa)] ++ []) ∧ s.list = (d.toList.drop 2).take n ∧ s.isOwn = true) := by
  have h := clone_fn (s := viewV b d 2 n 254 tDa (by omega)) (T := tDa) (by rw [viewV_list, List.length_take]; omega)
  rw [viewV_val (by omega), viewV_hp, viewV_list] at h
  exact h
theorem equal_fn {s t : Sl By} {T U : TypeId} : Does Tryz.prog 107 [s.val, t.val] (s.hp T ++ (t.hp U ++ [])) (Is (.bool (decide (s.list = t.list))) (s.hp T ++ (t.hp U ++ []))) := by
  refine fn_enter (n := 10) Tryz.func107 Tryz.ntmps107 rfl (Nat.le_of_ble_eq_true rfl) ?_
  refine s_seq ?_
  refine s_region0 (fun ops => ?_)
  refine o_rd (rd_assign rfl) rfl ?_
  refine o_nil ?_
  refine n_K ?_
  refine s_seq ?_
  refine s_region0 (fun ops => ?_)
  refine o_rd (rd_move rfl) rfl ?_
  refine o_rd (rd_bytesStr (T := T) rfl (PickL.toSub (by repeat (first | exact PickL.here | exact PickL.last | apply PickL.there | apply PickL.app)))) rfl ?_
  refine o_rd (rd_move rfl) rfl ?_
  refine o_rd (rd_bytesStr (T := U) rfl (PickL.toSub (by repeat (first | exact PickL.here | exact PickL.last | apply PickL.there | apply PickL.app)))) rfl ?_
  refine o_rd (rd_eqStr rfl rfl) rfl ?_
  refine o_rd (rd_assign rfl) rfl ?_
  refine o_nil ?_
  refine n_K ?_
  refine s_ret ?_
  refine leaf_is (rets1 Tryz.results107 (rv_tmp rfl)) ?_ (by repeat (first | exact Split.nil | (apply Split.cons; next => repeat (first | exact Pick.here | apply Pick.there | apply Pick.app)) | (apply Split.chunk; next => repeat (first | exact PickL.here | exact PickL.last | apply PickL.there | apply PickL.app)) | (apply Split.lst; repeat (first | exact PickL.here | exact PickL.last | apply PickL.there | apply PickL.app))))
  rfl
theorem equal_v {b c : Nat} {p : Pg} {d : Dat} : Does Tryz.prog 107 [.slice (some ⟨b, 0, none⟩) 256 258, .slice (some ⟨c, 0, none⟩) 256 256] [(b, true, C (vbc p) tPg), (c, true, C (vbc d) tDa)] (Is (.bool (decide (p.toList.take 256 = d.toList))) [(b, true, C (vbc p) tPg), (c, true, C (vbc d) tDa)]) := by
  have h := equal_fn (s := viewV b p 0 256 258 tPg (by omega)) (t := viewV c d 0 256 256 tDa (by omega)) (T := tPg) (U := tDa)
  rw [viewV_val (by omega), viewV_val (by omega), viewV_hp, viewV_hp, viewV_list, viewV_list, List.drop_zero, List.drop_zero, List.take_of_length_le (l := d.toList) (by simp)] at h
  exact h
theorem write_one {b : Nat} {kind : By} {s : Sl By} (hl : s.list.length ≤ 70000000000000) : Does Tryz.prog 66 [bv kind, .slice (some ⟨b, 0, none⟩) 1 1] ((b, true, C [s.val] tSB) :: (s.hp tU8 ++ []))
    (Is (.tuple #[.agg (vbc (writeF kind s.list).1).toArray, .int .i64 (writeF kind s.list).2]) ((b, true, C [s.val] tSB) :: (s.hp tU8 ++ []))) := by
  have e2 : (Sl.own b [s] 1 [] ⟨by simp, Nat.le_refl _, by simp⟩ : Sl (Sl By)).list = [s] := rfl
  have e3 : joinB [s] = s.list := by simp [joinB]
  have h := write_page (kind := kind) (q := .own b [s] 1 [] ⟨by simp, Nat.le_refl _, by simp⟩) (by rw [e2, e3]; exact hl)
  have e := one_parts (b := b) (s := s) (L := [])
  rw [e2, ← e, e3] at h
  exact h
theorem write_nil {b : Nat} {kind : By} : Does Tryz.prog 66 [bv kind, .slice (some ⟨b, 0, none⟩) 1 1] [(b, true, C [.slice none 0 0] tSB)]
    (Is (.tuple #[.agg (vbc (writeF kind []).1).toArray, .int .i64 (writeF kind []).2]) [(b, true, C [.slice none 0 0] tSB)]) := by
  have h := write_one (b := b) (kind := kind) (s := .nil) (by decide)
  rw [Sl.hp_nil] at h
  exact h
theorem sliceD {E : Env} {H : Hp} {x lo hi : Operand} {b n : Nat} (hx : ev E x = some (.pointer (some ⟨b, 0, none⟩))) (hlo : ev E lo = some (.int .i64 2)) (hhi : ev E hi = some (.int .i64 ((2 + n : Nat) : Int))) (hn : n ≤ 240) :
    Rd Tryz.prog E H (.slice tDa x (some lo) (some hi) none) (.slice (some ⟨b, 2, none⟩) n 254) := by
  have := rd_sliceA (P := Tryz.prog) (H := H) (t := tDa) (i := 2) (j := 2 + n) hx (lo := some lo) (hi := some hi) ⟨_, hlo⟩ ⟨_, hhi⟩ (by omega)
  rwa [show 2 + n - 2 = n by omega] at this
theorem fread_fn {p : Pg} : Does Tryz.prog 84 [.agg (vbc p).toArray] [] (fun v H => ∃ s : Sl By, v = .tuple #[bv (readF p).1, s.val, .int .i64 (readF p).2.2.1, .int .i64 (readF p).2.2.2] ∧ H = s.hp tU8 ++ [] ∧ s.list = (readF p).2.1 ∧ s.isOwn = true) := by
  have hck := chkOf_lt p
  have hfl := fixN_le (datOf p) (chkOf p)
  have hpn := popN_le (chkOf p &&& 57344)
  have hck2 : chkOf p &&& 57344 < 65536 := Nat.lt_of_le_of_lt Nat.and_le_left hck
  refine fn_enter (n := 71) Tryz.func84 Tryz.ntmps84 rfl (Nat.le_of_ble_eq_true rfl) ?_
  refine s_seq ?_
  refine s_region0 (fun ops => ?_)
  refine o_boxA rfl rfl (fun b1 => ?_)
  refine o_rd (rd_assign rfl) rfl ?_
  refine o_rd (rd_assign rfl) rfl ?_
  refine o_rd (rd_assign rfl) rfl ?_
  refine o_rd (rd_assign rfl) rfl ?_
  refine o_nil ?_
  refine n_K ?_
  refine s_seq ?_
  refine s_seq ?_
  refine s_region0 (fun ops => ?_)
  refine o_rd (rd_ldA rfl (by repeat' first | exact List.Mem.head _ | apply List.Mem.tail | apply List.mem_append_right) (by first | exact cut_vb | rfl)) rfl ?_
  refine c_is rfl (blankp_fn) (by repeat (first | exact Split.nil | (apply Split.cons; next => repeat (first | exact Pick.here | apply Pick.there | apply Pick.app)) | (apply Split.chunk; next => repeat (first | exact PickL.here | exact PickL.last | apply PickL.there | apply PickL.app)) | (apply Split.lst; repeat (first | exact PickL.here | exact PickL.last | apply PickL.there | apply PickL.app)))) rfl (by repeat (first | exact Ap.nil | apply Ap.cons | apply Ap.app | exact Ap.one)) ?_
  refine o_nil ?_
  refine n_K ?_
  refine s_cond rfl (fun c14 => ?_) (fun c14 => ?_)
  · skip
    have hres := readF_blank c14
    refine s_seq ?_
    refine s_region0 (fun ops => ?_)
    refine o_rd (rd_assign rfl) rfl ?_
    refine o_rd (rd_assign rfl) rfl ?_
    refine o_rd (rd_assign rfl) rfl ?_
    refine o_rd (rd_assign rfl) rfl ?_
    refine o_nil ?_
    refine n_K ?_
    refine s_ret ?_
    refine r_K ?_
    exact leaf_r (rets4 Tryz.results84 (rv_tmp rfl) (rv_tmp rfl) (rv_tmp rfl) (rv_tmp rfl)) (by refine ⟨Sl.nil, ?_, rfl, ?_, rfl⟩ <;> rw [hres] <;> rfl) (by rw [Sl.hp_nil]; exact (by repeat (first | exact Split.nil | (apply Split.cons; next => repeat (first | exact Pick.here | apply Pick.there | apply Pick.app)) | (apply Split.chunk; next => repeat (first | exact PickL.here | exact PickL.last | apply PickL.there | apply PickL.app)) | (apply Split.lst; repeat (first | exact PickL.here | exact PickL.last | apply PickL.there | apply PickL.app)))))
  · skip
    have hb : blankB p = false := c14
    refine s_skip ?_
    refine n_K ?_
    refine s_seq ?_
    refine s_region0 (fun ops => ?_)
    refine o_rd (rd_sliceA (i := 256) (j := 258) rfl ⟨_, rfl⟩ rfl (by omega)) rfl ?_
    refine c_ex rfl (newReader_v) (by repeat (first | exact Split.nil | (apply Split.cons; next => repeat (first | exact Pick.here | apply Pick.there | apply Pick.app)) | (apply Split.chunk; next => repeat (first | exact PickL.here | exact PickL.last | apply PickL.there | apply PickL.app)) | (apply Split.lst; repeat (first | exact PickL.here | exact PickL.last | apply PickL.there | apply PickL.app)))) rfl (fun v16 Y16 h16 => ?_)
    obtain ⟨r16, rfl, rfl, hr16, hbad16⟩ := h16
    refine so_ap (by repeat (first | exact Ap.nil | apply Ap.cons | apply Ap.app | exact Ap.one)) ?_
    refine c_ex rfl (rnum_fn (n := 2) (by rw [hr16, List.length_take]; omega)) (by repeat (first | exact Split.nil | (apply Split.cons; next => repeat (first | exact Pick.here | apply Pick.there | apply Pick.app)) | (apply Split.chunk; next => repeat (first | exact PickL.here | exact PickL.last | apply PickL.there | apply PickL.app)) | (apply Split.lst; repeat (first | exact PickL.here | exact PickL.last | apply PickL.there | apply PickL.app)))) rfl (fun v17 Y17 h17 => ?_)
    obtain ⟨x17, sl17, bad17, rfl, rfl, hx17, hsl17, hbb17⟩ := h17
    refine so_ap (by repeat (first | exact Ap.nil | apply Ap.cons | apply Ap.app | exact Ap.one)) ?_
    refine o_rd (show Rd _ _ _ _ (.int .u16 ((chkOf p : Nat) : Int)) from by (rw [hr16, show clampN 2 8 = 2 from rfl] at hx17; unfold rdNum at hx17; rw [if_neg (by rw [List.length_take, List.length_drop, Vector.length_toList]; decide)] at hx17; rw [chkOf, ← show x17 = valUp ((p.toList.drop 256).take 2) 2 from by (rw [hx17]; simp only; rw [List.take_of_length_le (l := (p.toList.drop 256).take 2) (by rw [List.length_take]; omega)])]; exact rd_via (conv_16 _) rfl)) rfl ?_
    refine o_rd (rd_assign rfl) rfl ?_
    refine o_nil ?_
    refine n_K ?_
    refine s_seq ?_
    refine s_region0 (fun ops => ?_)
    refine o_rd (rd_move rfl) rfl ?_
    refine o_rd (show Rd _ _ _ _ (.int .u16 ((chkOf p &&& 57344 : Nat) : Int)) from by (rw [← andNot16 hck]; exact rd_bin rfl rfl rfl)) rfl ?_
    refine c_is rfl (ones16_fn hck2) (by repeat (first | exact Split.nil | (apply Split.cons; next => repeat (first | exact Pick.here | apply Pick.there | apply Pick.app)) | (apply Split.chunk; next => repeat (first | exact PickL.here | exact PickL.last | apply PickL.there | apply PickL.app)) | (apply Split.lst; repeat (first | exact PickL.here | exact PickL.last | apply PickL.there | apply PickL.app)))) rfl (by repeat (first | exact Ap.nil | apply Ap.cons | apply Ap.app | exact Ap.one)) ?_
    refine o_rd (rd_assign rfl) rfl ?_
    refine o_nil ?_
    refine n_K ?_
    refine s_seq ?_
    refine s_seq ?_
    refine s_region0 (fun ops => ?_)
    refine o_rd (rd_move rfl) rfl ?_
    refine o_rd (rd_bin rfl rfl rfl) rfl ?_
    refine o_nil ?_
    refine n_K ?_
    refine s_cond rfl (fun c23 => ?_) (fun c23 => ?_)
    · simp only [decide_eq_true_eq, decide_eq_false_iff_not] at c23
      have hres := readF_above hb (by omega)
      refine s_seq ?_
      refine s_region0 (fun ops => ?_)
      refine o_rd (rd_assign rfl) rfl ?_
      refine o_rd (rd_assign rfl) rfl ?_
      refine o_rd (rd_assign rfl) rfl ?_
      refine o_rd (rd_assign rfl) rfl ?_
      refine o_nil ?_
      refine n_K ?_
      refine s_ret ?_
      refine r_K ?_
      exact leaf_r (rets4 Tryz.results84 (rv_tmp rfl) (rv_tmp rfl) (rv_tmp rfl) (rv_tmp rfl)) (by refine ⟨Sl.nil, ?_, rfl, ?_, rfl⟩ <;> rw [hres] <;> rfl) (by rw [Sl.hp_nil]; exact (by repeat (first | exact Split.nil | (apply Split.cons; next => repeat (first | exact Pick.here | apply Pick.there | apply Pick.app)) | (apply Split.chunk; next => repeat (first | exact PickL.here | exact PickL.last | apply PickL.there | apply PickL.app)) | (apply Split.lst; repeat (first | exact PickL.here | exact PickL.last | apply PickL.there | apply PickL.app)))))
    · simp only [decide_eq_true_eq, decide_eq_false_iff_not] at c23
      have hab : ¬ 1 < popN (chkOf p &&& 57344) := (by omega)
      obtain ⟨f, hf⟩ : ∃ f, hamFix (datOf p) (chkOf p) = f := ⟨_, rfl⟩
      rw [hf] at hfl
      refine s_skip ?_
      refine n_K ?_
      refine s_seq ?_
      refine s_region0 (fun ops => ?_)
      refine o_rd (rd_sliceA (i := 0) (j := 256) rfl rfl ⟨_, rfl⟩ (by omega)) rfl ?_
      refine o_rd (rd_s2a rfl (by decide)) rfl ?_
      refine o_rd (rd_ldA rfl (by repeat' first | exact List.Mem.head _ | apply List.Mem.tail | apply List.mem_append_right) (cut_dat p)) rfl ?_
      refine o_rd (rd_move rfl) rfl ?_
      refine c_is rfl ((fix_fn (d := datOf p) hck).to (by rw [hf]) rfl) (by repeat (first | exact Split.nil | (apply Split.cons; next => repeat (first | exact Pick.here | apply Pick.there | apply Pick.app)) | (apply Split.chunk; next => repeat (first | exact PickL.here | exact PickL.last | apply PickL.there | apply PickL.app)) | (apply Split.lst; repeat (first | exact PickL.here | exact PickL.last | apply PickL.there | apply PickL.app)))) rfl (by repeat (first | exact Ap.nil | apply Ap.cons | apply Ap.app | exact Ap.one)) ?_
      refine o_rd (rd_move rfl) rfl ?_
      refine o_rd (rd_extract rfl rfl) rfl ?_
      refine o_rd (rd_extract rfl rfl) rfl ?_
      refine o_rd (rd_extract rfl rfl) rfl ?_
      refine o_alloc rfl (fun b8 => ?_)
      first | refine o_store rfl rfl (by repeat' first | exact Upd.here | apply Upd.there | apply Upd.app) (vc_vb) (vbc_len) (spl_vb (by first | exact vbc_len | exact List.length_replicate ..)) ?_ | refine o_store rfl rfl (by repeat' first | exact Upd.here | apply Upd.there | apply Upd.app) rfl rfl rfl ?_
      refine o_rd (rd_assign rfl) rfl ?_
      refine o_rd (rd_assign rfl) rfl ?_
      refine o_nil ?_
      refine n_K ?_
      refine s_seq ?_
      refine s_seq ?_
      refine s_region0 (fun ops => ?_)
      refine o_rd (rd_move rfl) rfl ?_
      refine o_rd (rd_bin rfl rfl rfl) rfl ?_
      refine o_nil ?_
      refine n_K ?_
      refine s_cond rfl (fun c34 => ?_) (fun c34 => ?_)
      · skip
        have hres := readF_fix hb hab (by rw [hf]; simpa using c34)
        rw [hf] at hres
        refine s_seq ?_
        refine s_region0 (fun ops => ?_)
        refine o_rd (rd_move rfl) rfl ?_
        refine o_rd (rd_assign rfl) rfl ?_
        refine o_rd (rd_assign rfl) rfl ?_
        refine o_rd (rd_assign rfl) rfl ?_
        refine o_rd (rd_assign rfl) rfl ?_
        refine o_nil ?_
        refine n_K ?_
        refine s_ret ?_
        refine r_K ?_
        exact leaf_r (rets4 Tryz.results84 (rv_tmp rfl) (rv_tmp rfl) (rv_tmp rfl) (rv_tmp rfl)) (by refine ⟨Sl.nil, ?_, rfl, ?_, rfl⟩ <;> rw [hres] <;> rfl) (by rw [Sl.hp_nil]; exact (by repeat (first | exact Split.nil | (apply Split.cons; next => repeat (first | exact Pick.here | apply Pick.there | apply Pick.app)) | (apply Split.chunk; next => repeat (first | exact PickL.here | exact PickL.last | apply PickL.there | apply PickL.app)) | (apply Split.lst; repeat (first | exact PickL.here | exact PickL.last | apply PickL.there | apply PickL.app)))))
      · skip
        have he : f.2.2 = 0 := (by simpa using c34)
        have hd1 := f.1[1].isLt
        refine s_skip ?_
        refine n_K ?_
        refine s_seq ?_
        refine s_region0 (fun ops => ?_)
        refine o_rd (rd_ixA rfl rfl (by omega)) rfl ?_
        refine o_rd (rd_ld rfl (by repeat' first | exact List.Mem.head _ | apply List.Mem.tail | apply List.mem_append_right) (show nth (vbc f.1) 1 = some (bv f.1[1]) from nth_vb (by decide))) rfl ?_
        refine o_rd (show Rd _ _ _ _ (.int .i64 ((f.1[1].toNat : Nat) : Int)) from rd_convN rfl (wrapN_i (by omega))) rfl ?_
        refine o_rd (rd_assign rfl) rfl ?_
        refine o_nil ?_
        refine n_K ?_
        refine s_seq ?_
        refine s_seq ?_
        refine s_region0 (fun ops => ?_)
        refine o_rd (rd_move rfl) rfl ?_
        refine o_rd (rd_bin rfl rfl rfl) rfl ?_
        refine o_nil ?_
        refine n_K ?_
        refine s_cond rfl (fun c40 => ?_) (fun c40 => ?_)
        · simp only [decide_eq_true_eq, decide_eq_false_iff_not] at c40
          have hbody : bodyOf f.1 = (f.1.toList.drop 2).take f.1[1].toNat := (by unfold bodyOf; rw [if_pos (by omega)])
          refine s_region0 (fun ops => ?_)
          refine o_rd (rd_move rfl) rfl ?_
          refine o_rd (show Rd _ _ _ _ (.int .i64 ((2 + f.1[1].toNat : Nat) : Int)) from rd_addN (a := 2) rfl rfl (by omega)) rfl ?_
          refine o_rd (sliceD rfl rfl rfl (by omega)) rfl ?_
          refine c_ex rfl (clone_v (n := f.1[1].toNat) (by omega)) (by repeat (first | exact Split.nil | (apply Split.cons; next => repeat (first | exact Pick.here | apply Pick.there | apply Pick.app)) | (apply Split.chunk; next => repeat (first | exact PickL.here | exact PickL.last | apply PickL.there | apply PickL.app)) | (apply Split.lst; repeat (first | exact PickL.here | exact PickL.last | apply PickL.there | apply PickL.app)))) rfl (fun v44 Y44 h44 => ?_)
          obtain ⟨s44, rfl, rfl, hs44, ho44⟩ := h44
          refine so_ap (by repeat (first | exact Ap.nil | apply Ap.cons | apply Ap.app | exact Ap.one)) ?_
          refine o_rd (rd_assign rfl) rfl ?_
          refine o_nil ?_
          refine n_K ?_
          refine s_seq ?_
          refine s_region0 (fun ops => ?_)
          refine o_rd (rd_ixA rfl rfl (by omega)) rfl ?_
          refine o_rd (rd_ld rfl (by repeat' first | exact List.Mem.head _ | apply List.Mem.tail | apply List.mem_append_right) (show nth (vbc f.1) 0 = some (bv f.1[0]) from nth_vb (by decide))) rfl ?_
          refine o_rd (rd_move rfl) rfl ?_
          refine o_bslice_k rfl rfl rfl rfl (fun b49 => ?_)
          refine c_is rfl ((by first | exact write_one (s := s44) (by rw [hs44, List.length_take]; omega) | exact write_nil)) (by repeat (first | exact Split.nil | (apply Split.cons; next => repeat (first | exact Pick.here | apply Pick.there | apply Pick.app)) | (apply Split.chunk; next => repeat (first | exact PickL.here | exact PickL.last | apply PickL.there | apply PickL.app)) | (apply Split.lst; repeat (first | exact PickL.here | exact PickL.last | apply PickL.there | apply PickL.app)))) rfl (by repeat (first | exact Ap.nil | apply Ap.cons | apply Ap.app | exact Ap.one)) ?_
          refine o_rd (rd_move rfl) rfl ?_
          refine o_rd (rd_extract rfl rfl) rfl ?_
          refine o_rd (rd_extract rfl rfl) rfl ?_
          refine o_alloc rfl (fun b12 => ?_)
          first | refine o_store rfl rfl (by repeat' first | exact Upd.here | apply Upd.there | apply Upd.app) (vc_vb) (vbc_len) (spl_vb (by first | exact vbc_len | exact List.length_replicate ..)) ?_ | refine o_store rfl rfl (by repeat' first | exact Upd.here | apply Upd.there | apply Upd.app) rfl rfl rfl ?_
          refine o_rd (rd_assign rfl) rfl ?_
          refine o_nil ?_
          refine n_K ?_
          refine s_seq ?_
          refine s_seq ?_
          refine s_draw [(2, 55), (6, 59)] [(6, [(0, false), (1, false), (2, false), (3, false), (4, false), (5, false)]), (12, [(6, false), (7, false), (8, false), (9, true), (10, false), (11, false)])] (by kernel_rfl) rfl (fun ops w0 H0 y => ?_)
          refine p_all ?_
          refine x_rd (rd_move rfl) rfl ?_
          refine x_rd (rd_bin rfl rfl rfl) rfl ?_
          refine x_rd (rd_move rfl) rfl ?_
          refine' x_or (j := 2) (k := 2) y rfl rfl rfl rfl rfl rfl rfl (fun hg55 => ?_) ?_
          rotate_left
          · try simp at hg55
            refine x_g y rfl rfl ?_
            refine x_rd (rd_move rfl) rfl ?_
            refine x_g y rfl rfl ?_
            refine x_rd (rd_bin rfl rfl rfl) rfl ?_
            exact x_nil ⟨rfl, ⟨_, (by repeat (first | exact Split.nil | (apply Split.cons; next => repeat (first | exact Pick.here | apply Pick.there | apply Pick.app)) | (apply Split.chunk; next => repeat (first | exact PickL.here | exact PickL.last | apply PickL.there | apply PickL.app)) | (apply Split.lst; repeat (first | exact PickL.here | exact PickL.last | apply PickL.there | apply PickL.app))))⟩⟩
          refine x_nil ?_
          refine p_all ?_
          refine x_rd (rd_move rfl) rfl ?_
          refine' x_or (j := 6) (k := 4) y rfl rfl rfl rfl rfl rfl rfl (fun hg59 => ?_) ?_
          rotate_left
          · try simp at hg59
            refine x_g y rfl rfl ?_
            refine x_rd (rd_sliceA (i := 0) (j := 256) rfl rfl ⟨_, rfl⟩ (by omega)) rfl ?_
            refine x_g y rfl rfl ?_
            refine x_rd (rd_sliceA (i := 0) (j := 256) rfl rfl rfl (by omega)) rfl ?_
            refine x_g y rfl rfl ?_
            refine x_so ?_
            refine c_is rfl (equal_v) (by repeat (first | exact Split.nil | (apply Split.cons; next => repeat (first | exact Pick.here | apply Pick.there | apply Pick.app)) | (apply Split.chunk; next => repeat (first | exact PickL.here | exact PickL.last | apply PickL.there | apply PickL.app)) | (apply Split.lst; repeat (first | exact PickL.here | exact PickL.last | apply PickL.there | apply PickL.app)))) rfl (by repeat (first | exact Ap.nil | apply Ap.cons | apply Ap.app | exact Ap.one)) ?_
            refine o_nil ⟨rfl, ⟨_, (by repeat (first | exact Split.nil | (apply Split.cons; next => repeat (first | exact Pick.here | apply Pick.there | apply Pick.app)) | (apply Split.chunk; next => repeat (first | exact PickL.here | exact PickL.last | apply PickL.there | apply PickL.app)) | (apply Split.lst; repeat (first | exact PickL.here | exact PickL.last | apply PickL.there | apply PickL.app))))⟩, ?_⟩
            refine x_g y rfl rfl ?_
            refine x_rd (rd_not rfl) rfl ?_
            exact x_nil ⟨rfl, ⟨_, (by repeat (first | exact Split.nil | (apply Split.cons; next => repeat (first | exact Pick.here | apply Pick.there | apply Pick.app)) | (apply Split.chunk; next => repeat (first | exact PickL.here | exact PickL.last | apply PickL.there | apply PickL.app)) | (apply Split.lst; repeat (first | exact PickL.here | exact PickL.last | apply PickL.there | apply PickL.app))))⟩⟩
          refine x_nil ?_
          refine p_end ?_
          refine n_K ?_
          refine s_cond rfl (fun c64 => ?_) (fun c64 => ?_)
          · skip
            refine s_seq ?_
            refine s_region0 (fun ops => ?_)
            refine o_rd (rd_assign rfl) rfl ?_
            refine o_rd (rd_assign rfl) rfl ?_
            refine o_rd (rd_assign rfl) rfl ?_
            refine o_rd (rd_assign rfl) rfl ?_
            refine o_nil ?_
            refine n_K ?_
            refine s_ret ?_
            refine r_K ?_
            exact leaf_r (rets4 Tryz.results84 (rv_tmp rfl) (rv_tmp rfl) (rv_tmp rfl) (rv_tmp rfl)) (by have h4 := or3_t c64; rw [hs44, ← hbody] at h4; have hres := readF_bad hf hb hab he (by rcases h4 with h | h | h; exact .inl h; exact .inr (.inl (by omega)); exact .inr (.inr h)); refine ⟨Sl.nil, ?_, rfl, ?_, rfl⟩ <;> rw [hres] <;> rfl) (by rw [Sl.hp_nil]; exact (by repeat (first | exact Split.nil | (apply Split.cons; next => repeat (first | exact Pick.here | apply Pick.there | apply Pick.app)) | (apply Split.chunk; next => repeat (first | exact PickL.here | exact PickL.last | apply PickL.there | apply PickL.app)) | (apply Split.lst; repeat (first | exact PickL.here | exact PickL.last | apply PickL.there | apply PickL.app)))))
          · skip
            refine s_skip ?_
            refine n_K ?_
            refine s_seq ?_
            refine s_region0 (fun ops => ?_)
            refine o_rd (rd_ixA rfl rfl (by omega)) rfl ?_
            refine o_rd (rd_ld rfl (by repeat' first | exact List.Mem.head _ | apply List.Mem.tail | apply List.mem_append_right) (show nth (vbc f.1) 0 = some (bv f.1[0]) from nth_vb (by decide))) rfl ?_
            refine o_rd (rd_move rfl) rfl ?_
            refine o_rd (rd_move rfl) rfl ?_
            refine o_rd (rd_move rfl) rfl ?_
            refine o_rd (rd_add64 rfl rfl (by omega)) rfl ?_
            refine o_rd (rd_assign rfl) rfl ?_
            refine o_rd (rd_assign rfl) rfl ?_
            refine o_rd (rd_assign rfl) rfl ?_
            refine o_rd (rd_assign rfl) rfl ?_
            refine o_nil ?_
            refine n_K ?_
            refine s_ret ?_
            exact leaf_r (rets4 Tryz.results84 (rv_tmp rfl) (rv_tmp rfl) (rv_tmp rfl) (rv_tmp rfl)) (by have h4 := or3_f c64; rw [hs44, ← hbody] at h4; have hres := readF_ok hf hb hab he (by rintro (h | h | h); exact h h4.1; exact h4.2.1 (by omega); exact h h4.2.2); refine ⟨s44, ?_, rfl, ?_, ho44⟩ <;> rw [hres]; rw [hs44, hbody]) (by repeat (first | exact Split.nil | (apply Split.cons; next => repeat (first | exact Pick.here | apply Pick.there | apply Pick.app)) | (apply Split.chunk; next => repeat (first | exact PickL.here | exact PickL.last | apply PickL.there | apply PickL.app)) | (apply Split.lst; repeat (first | exact PickL.here | exact PickL.last | apply PickL.there | apply PickL.app))))
        · simp only [decide_eq_true_eq, decide_eq_false_iff_not] at c40
          have hbody : bodyOf f.1 = [] := (by unfold bodyOf; rw [if_neg (by omega)])
          refine s_skip ?_
          refine n_K ?_
          refine s_seq ?_
          refine s_region0 (fun ops => ?_)
          refine o_rd (rd_ixA rfl rfl (by omega)) rfl ?_
          refine o_rd (rd_ld rfl (by repeat' first | exact List.Mem.head _ | apply List.Mem.tail | apply List.mem_append_right) (show nth (vbc f.1) 0 = some (bv f.1[0]) from nth_vb (by decide))) rfl ?_
          refine o_rd (rd_move rfl) rfl ?_
          refine o_bslice_k rfl rfl rfl rfl (fun b49 => ?_)
          refine c_is rfl ((by first | exact write_one (s := s44) (by rw [hs44, List.length_take]; omega) | exact write_nil)) (by repeat (first | exact Split.nil | (apply Split.cons; next => repeat (first | exact Pick.here | apply Pick.there | apply Pick.app)) | (apply Split.chunk; next => repeat (first | exact PickL.here | exact PickL.last | apply PickL.there | apply PickL.app)) | (apply Split.lst; repeat (first | exact PickL.here | exact PickL.last | apply PickL.there | apply PickL.app)))) rfl (by repeat (first | exact Ap.nil | apply Ap.cons | apply Ap.app | exact Ap.one)) ?_
          refine o_rd (rd_move rfl) rfl ?_
          refine o_rd (rd_extract rfl rfl) rfl ?_
          refine o_rd (rd_extract rfl rfl) rfl ?_
          refine o_alloc rfl (fun b12 => ?_)
          first | refine o_store rfl rfl (by repeat' first | exact Upd.here | apply Upd.there | apply Upd.app) (vc_vb) (vbc_len) (spl_vb (by first | exact vbc_len | exact List.length_replicate ..)) ?_ | refine o_store rfl rfl (by repeat' first | exact Upd.here | apply Upd.there | apply Upd.app) rfl rfl rfl ?_
          refine o_rd (rd_assign rfl) rfl ?_
          refine o_nil ?_
          refine n_K ?_
          refine s_seq ?_
          refine s_seq ?_
          refine s_draw [(2, 55), (6, 59)] [(6, [(0, false), (1, false), (2, false), (3, false), (4, false), (5, false)]), (12, [(6, false), (7, false), (8, false), (9, true), (10, false), (11, false)])] (by kernel_rfl) rfl (fun ops w0 H0 y => ?_)
          refine p_all ?_
          refine x_rd (rd_move rfl) rfl ?_
          refine x_rd (rd_bin rfl rfl rfl) rfl ?_
          refine x_rd (rd_move rfl) rfl ?_
          refine' x_or (j := 2) (k := 2) y rfl rfl rfl rfl rfl rfl rfl (fun hg55 => ?_) ?_
          rotate_left
          · try simp at hg55
            refine x_g y rfl rfl ?_
            refine x_rd (rd_move rfl) rfl ?_
            refine x_g y rfl rfl ?_
            refine x_rd (rd_bin rfl rfl rfl) rfl ?_
            exact x_nil ⟨rfl, ⟨_, (by repeat (first | exact Split.nil | (apply Split.cons; next => repeat (first | exact Pick.here | apply Pick.there | apply Pick.app)) | (apply Split.chunk; next => repeat (first | exact PickL.here | exact PickL.last | apply PickL.there | apply PickL.app)) | (apply Split.lst; repeat (first | exact PickL.here | exact PickL.last | apply PickL.there | apply PickL.app))))⟩⟩
          refine x_nil ?_
          refine p_all ?_
          refine x_rd (rd_move rfl) rfl ?_
          refine' x_or (j := 6) (k := 4) y rfl rfl rfl rfl rfl rfl rfl (fun hg59 => ?_) ?_
          rotate_left
          · try simp at hg59
            refine x_g y rfl rfl ?_
            refine x_rd (rd_sliceA (i := 0) (j := 256) rfl rfl ⟨_, rfl⟩ (by omega)) rfl ?_
            refine x_g y rfl rfl ?_
            refine x_rd (rd_sliceA (i := 0) (j := 256) rfl rfl rfl (by omega)) rfl ?_
            refine x_g y rfl rfl ?_
            refine x_so ?_
            refine c_is rfl (equal_v) (by repeat (first | exact Split.nil | (apply Split.cons; next => repeat (first | exact Pick.here | apply Pick.there | apply Pick.app)) | (apply Split.chunk; next => repeat (first | exact PickL.here | exact PickL.last | apply PickL.there | apply PickL.app)) | (apply Split.lst; repeat (first | exact PickL.here | exact PickL.last | apply PickL.there | apply PickL.app)))) rfl (by repeat (first | exact Ap.nil | apply Ap.cons | apply Ap.app | exact Ap.one)) ?_
            refine o_nil ⟨rfl, ⟨_, (by repeat (first | exact Split.nil | (apply Split.cons; next => repeat (first | exact Pick.here | apply Pick.there | apply Pick.app)) | (apply Split.chunk; next => repeat (first | exact PickL.here | exact PickL.last | apply PickL.there | apply PickL.app)) | (apply Split.lst; repeat (first | exact PickL.here | exact PickL.last | apply PickL.there | apply PickL.app))))⟩, ?_⟩
            refine x_g y rfl rfl ?_
            refine x_rd (rd_not rfl) rfl ?_
            exact x_nil ⟨rfl, ⟨_, (by repeat (first | exact Split.nil | (apply Split.cons; next => repeat (first | exact Pick.here | apply Pick.there | apply Pick.app)) | (apply Split.chunk; next => repeat (first | exact PickL.here | exact PickL.last | apply PickL.there | apply PickL.app)) | (apply Split.lst; repeat (first | exact PickL.here | exact PickL.last | apply PickL.there | apply PickL.app))))⟩⟩
          refine x_nil ?_
          refine p_end ?_
          refine n_K ?_
          refine s_cond rfl (fun c64 => ?_) (fun c64 => ?_)
          · skip
            refine s_seq ?_
            refine s_region0 (fun ops => ?_)
            refine o_rd (rd_assign rfl) rfl ?_
            refine o_rd (rd_assign rfl) rfl ?_
            refine o_rd (rd_assign rfl) rfl ?_
            refine o_rd (rd_assign rfl) rfl ?_
            refine o_nil ?_
            refine n_K ?_
            refine s_ret ?_
            refine r_K ?_
            exact leaf_r (rets4 Tryz.results84 (rv_tmp rfl) (rv_tmp rfl) (rv_tmp rfl) (rv_tmp rfl)) (by have hres := readF_bad hf hb hab he (.inr (.inl (by omega))); refine ⟨Sl.nil, ?_, rfl, ?_, rfl⟩ <;> rw [hres] <;> rfl) (by rw [Sl.hp_nil]; exact (by repeat (first | exact Split.nil | (apply Split.cons; next => repeat (first | exact Pick.here | apply Pick.there | apply Pick.app)) | (apply Split.chunk; next => repeat (first | exact PickL.here | exact PickL.last | apply PickL.there | apply PickL.app)) | (apply Split.lst; repeat (first | exact PickL.here | exact PickL.last | apply PickL.there | apply PickL.app)))))
          · skip
            refine s_skip ?_
            refine n_K ?_
            refine s_seq ?_
            refine s_region0 (fun ops => ?_)
            refine o_rd (rd_ixA rfl rfl (by omega)) rfl ?_
            refine o_rd (rd_ld rfl (by repeat' first | exact List.Mem.head _ | apply List.Mem.tail | apply List.mem_append_right) (show nth (vbc f.1) 0 = some (bv f.1[0]) from nth_vb (by decide))) rfl ?_
            refine o_rd (rd_move rfl) rfl ?_
            refine o_rd (rd_move rfl) rfl ?_
            refine o_rd (rd_move rfl) rfl ?_
            refine o_rd (rd_add64 rfl rfl (by omega)) rfl ?_
            refine o_rd (rd_assign rfl) rfl ?_
            refine o_rd (rd_assign rfl) rfl ?_
            refine o_rd (rd_assign rfl) rfl ?_
            refine o_rd (rd_assign rfl) rfl ?_
            refine o_nil ?_
            refine n_K ?_
            refine s_ret ?_
            exact leaf_r (rets4 Tryz.results84 (rv_tmp rfl) (rv_tmp rfl) (rv_tmp rfl) (rv_tmp rfl)) (by exfalso; have h4 := or3_f c64; exact h4.2.1 (by omega)) (by repeat (first | exact Split.nil | (apply Split.cons; next => repeat (first | exact Pick.here | apply Pick.there | apply Pick.app)) | (apply Split.chunk; next => repeat (first | exact PickL.here | exact PickL.last | apply PickL.there | apply PickL.app)) | (apply Split.lst; repeat (first | exact PickL.here | exact PickL.last | apply PickL.there | apply PickL.app))))
end Go.Proofs.YtdfidkhbldedlaaGreat
