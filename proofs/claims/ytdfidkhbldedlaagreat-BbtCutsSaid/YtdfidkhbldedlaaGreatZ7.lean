/- Walks: a bit is turned; the power is on again. -/
import Derived.Test.YtdfidkhbldedlaaGreatZ4
import Derived.Test.YtdfidkhbldedlaaGreatQ3
namespace Go.Proofs.YtdfidkhbldedlaaGreat
open Go.K
set_option linter.unusedVariables false
set_option linter.unusedSimpArgs false
instance ent23 : Ent Tryz.prog 23 := ⟨fun _ _ => by kernel_rfl⟩
instance ent24 : Ent Tryz.prog 24 := ⟨fun _ _ => by kernel_rfl⟩
theorem pwOn_fn {c : Chip} : Does Tryz.prog 23 [ptr c.aP] (chH c) (Is (.tuple #[]) (chH { c with off := false, after := -1 })) := by
  rw [chH_eq, chH_eq]
  refine fn_enter (n := 8) Tryz.func23 Tryz.ntmps23 rfl (Nat.le_of_ble_eq_true rfl) ?_
  refine s_region0 (fun ops => ?_)
  refine o_rd (rd_move rfl) rfl ?_
  refine o_rd (rd_move rfl) rfl ?_
  refine o_rd (rd_nil rfl) rfl ?_
  refine o_rd (rd_field rfl) rfl ?_
  refine o_store rfl rfl (by repeat' first | exact Upd.here | apply Upd.there | apply Upd.app) rfl rfl rfl ?_
  refine o_rd (rd_nil rfl) rfl ?_
  refine o_rd (rd_field rfl) rfl ?_
  refine o_store rfl rfl (by repeat' first | exact Upd.here | apply Upd.there | apply Upd.app) rfl rfl rfl ?_
  refine o_nil ?_
  refine leaf_isN (ret0 Tryz.results23) ?_ (by repeat (first | exact Split.nil | (apply Split.cons; next => repeat (first | exact Pick.here | apply Pick.there | apply Pick.app)) | (apply Split.chunk; next => repeat (first | exact PickL.here | exact PickL.last | apply PickL.there | apply PickL.app)) | (apply Split.lst; repeat (first | exact PickL.here | exact PickL.last | apply PickL.there | apply PickL.app))))
  rfl
section
variable {P : Program} {E : Env} {H : Hp} {t u : TypeId} {x y : Operand} {i m : Nat}
theorem rd_quoN (hx : ev E x = some (.int .i64 (i : Nat))) (hy : ev E y = some (.int .i64 (m : Nat))) (hm : m ≠ 0) (hi : i < 9223372036854775808) : Rd P E H (.binOp .quo t x y u) (.int .i64 ((i / m : Nat) : Int)) := fun a w d ty pos af g h1 h2 => by
  have e1 := ev_ok h1 hx
  have e2 := ev_ok h1 hy
  have e3 : ¬ (m : Int) = 0 := by omega
  have e4 : IntKind.i64.wrap ((i : Int).tdiv (m : Int)) = ((i / m : Nat) : Int) := by
    rw [Int.tdiv_eq_ediv_of_nonneg (by omega), ← Int.natCast_ediv]
    exact wrap64_in (by have := Nat.div_le_self i m; have h0 := Int.natCast_nonneg (i / m); omega)
  simp only [execOp, e1, e2, eqGuard, binOp, Op.intDiv, if_neg e3, e4]
  simp
theorem rd_remN (hx : ev E x = some (.int .i64 (i : Nat))) (hy : ev E y = some (.int .i64 (m : Nat))) (hm : m ≠ 0) : Rd P E H (.binOp .rem t x y u) (.int .i64 ((i % m : Nat) : Int)) := fun a w d ty pos af g h1 h2 => by
  have e1 := ev_ok h1 hx
  have e2 := ev_ok h1 hy
  have e3 : ¬ (m : Int) = 0 := by omega
  have e4 : (i : Int).tmod (m : Int) = ((i % m : Nat) : Int) := by
    rw [Int.tmod_eq_emod_of_nonneg (by omega), ← Int.natCast_emod]
  simp only [execOp, e1, e2, eqGuard, binOp, Op.intDiv, if_neg e3, e4]
  simp
end
theorem and_ffff (b : Int) : ∃ k : Nat, ibits .and .i64 b 65535 = (k : Int) ∧ k < 65536 := by
  have h : (BitVec.ofInt 64 b &&& BitVec.ofInt 64 65535).toNat ≤ 65535 := by
    rw [BitVec.toNat_and]
    exact Nat.le_trans Nat.and_le_right (by decide)
  refine ⟨(BitVec.ofInt 64 b &&& BitVec.ofInt 64 65535).toNat, ?_, by omega⟩
  show IntKind.i64.wrap ((BitVec.ofInt 64 b &&& BitVec.ofInt 64 65535).toNat : Int) = _
  exact wrap64_in (by omega)
theorem flip_at {l : List Blk} {i j k : Nat} {b : Blk} (hb : l[i]? = some b) (hj : j < 8) (hk : k < 2064) : splice (rowc l) (i * 2066 + (j * 258 + k / 8)) [bv (b.pages[j][k / 8] ^^^ (1#8 <<< (k % 8)))] = some (rowc (l.set i (setPg b j (flipP b.pages[j] k)))) := by
  refine row_setPg hb hj ?_
  unfold flipP
  rw [dif_pos (show k / 8 < 258 by omega)]
  exact spl1_vb (by omega) _
theorem flip_fn {c : Chip} {a i j k : Nat} {b : Blk} (ha : c.aC = a) (hb : c.blocks[i]? = some b) (hj : j < 8) (hk : k < 2064) : Does Tryz.prog 24 [ptr a, .int .i64 (i : Nat), .int .i64 (j : Nat), .int .i64 (k : Nat)] (chH c) (Is (.int .i64 0) (chH (setB c i (setPg b j (flipP b.pages[j] k))))) := by
  subst ha
  have hi : i < c.blocks.length := (List.getElem?_eq_some_iff.1 hb).1
  have hth : thereB c i = true := (by unfold thereB; simp; omega)
  rw [chH_eq c, chH_set]
  refine fn_enter (n := 50) Tryz.func24 Tryz.ntmps24 rfl (Nat.le_of_ble_eq_true rfl) ?_
  refine s_seq ?_
  refine s_region0 (fun ops => ?_)
  refine o_rd (rd_assign rfl) rfl ?_
  refine o_nil ?_
  refine n_K ?_
  refine s_seq ?_
  refine s_seq ?_
  refine s_region [(4, 13), (8, 17), (12, 21), (16, 25)] rfl (fun ops y => ?_)
  refine o_rd (rd_move rfl) rfl ?_
  refine o_rd (rd_move rfl) rfl ?_
  refine c_is rfl (there_fn) (by repeat (first | exact Split.nil | (apply Split.cons; next => repeat (first | exact Pick.here | apply Pick.there | apply Pick.app)) | (apply Split.chunk; next => repeat (first | exact PickL.here | exact PickL.last | apply PickL.there | apply PickL.app)) | (apply Split.lst; repeat (first | exact PickL.here | exact PickL.last | apply PickL.there | apply PickL.app)))) rfl (by repeat (first | exact Ap.nil | apply Ap.cons | apply Ap.app | exact Ap.one)) ?_
  refine o_rd (rd_not rfl) rfl ?_
  refine o_rd (rd_move rfl) rfl ?_
  refine' o_or (j := 4) (k := 2) y rfl rfl rfl rfl rfl rfl rfl (fun hg13 => ?_) ?_
  rotate_left
  · try (simp at hg13; show _)
    refine o_g y rfl rfl ?_
    refine o_rd (rd_move rfl) rfl ?_
    refine o_g y rfl rfl ?_
    refine o_rd (rd_bin rfl rfl rfl) rfl ?_
    exact o_nil ⟨rfl, rfl, ⟨_, (by repeat (first | exact Split.nil | (apply Split.cons; next => repeat (first | exact Pick.here | apply Pick.there | apply Pick.app)) | (apply Split.chunk; next => repeat (first | exact PickL.here | exact PickL.last | apply PickL.there | apply PickL.app)) | (apply Split.lst; repeat (first | exact PickL.here | exact PickL.last | apply PickL.there | apply PickL.app))))⟩⟩
  refine o_rd (rd_move rfl) rfl ?_
  refine' o_or (j := 8) (k := 2) y rfl rfl rfl rfl rfl rfl rfl (fun hg17 => ?_) ?_
  rotate_left
  · try (simp at hg17; show _)
    refine o_g y rfl rfl ?_
    refine o_rd (rd_move rfl) rfl ?_
    refine o_g y rfl rfl ?_
    refine o_rd (rd_bin rfl rfl rfl) rfl ?_
    exact o_nil ⟨rfl, rfl, ⟨_, (by repeat (first | exact Split.nil | (apply Split.cons; next => repeat (first | exact Pick.here | apply Pick.there | apply Pick.app)) | (apply Split.chunk; next => repeat (first | exact PickL.here | exact PickL.last | apply PickL.there | apply PickL.app)) | (apply Split.lst; repeat (first | exact PickL.here | exact PickL.last | apply PickL.there | apply PickL.app))))⟩⟩
  refine o_rd (rd_move rfl) rfl ?_
  refine' o_or (j := 12) (k := 2) y rfl rfl rfl rfl rfl rfl rfl (fun hg21 => ?_) ?_
  rotate_left
  · try (simp at hg21; show _)
    refine o_g y rfl rfl ?_
    refine o_rd (rd_move rfl) rfl ?_
    refine o_g y rfl rfl ?_
    refine o_rd (rd_bin rfl rfl rfl) rfl ?_
    exact o_nil ⟨rfl, rfl, ⟨_, (by repeat (first | exact Split.nil | (apply Split.cons; next => repeat (first | exact Pick.here | apply Pick.there | apply Pick.app)) | (apply Split.chunk; next => repeat (first | exact PickL.here | exact PickL.last | apply PickL.there | apply PickL.app)) | (apply Split.lst; repeat (first | exact PickL.here | exact PickL.last | apply PickL.there | apply PickL.app))))⟩⟩
  refine o_rd (rd_move rfl) rfl ?_
  refine' o_or (j := 16) (k := 2) y rfl rfl rfl rfl rfl rfl rfl (fun hg25 => ?_) ?_
  rotate_left
  · try (simp at hg25; show _)
    refine o_g y rfl rfl ?_
    refine o_rd (rd_move rfl) rfl ?_
    refine o_g y rfl rfl ?_
    refine o_rd (rd_bin rfl rfl rfl) rfl ?_
    exact o_nil ⟨rfl, rfl, ⟨_, (by repeat (first | exact Split.nil | (apply Split.cons; next => repeat (first | exact Pick.here | apply Pick.there | apply Pick.app)) | (apply Split.chunk; next => repeat (first | exact PickL.here | exact PickL.last | apply PickL.there | apply PickL.app)) | (apply Split.lst; repeat (first | exact PickL.here | exact PickL.last | apply PickL.there | apply PickL.app))))⟩⟩
  refine o_nil ?_
  refine n_K ?_
  refine s_cond rfl (fun c28 => ?_) (fun c28 => ?_)
  · skip
    exact absurd c28 (by rw [hth]; simp; omega)
  · skip
    refine s_skip ?_
    refine n_K ?_
    refine s_seq ?_
    refine s_draw [] [(21, [(0, false), (1, false), (2, false), (3, false), (4, false), (5, false), (6, false), (7, false), (8, false), (9, false), (10, false), (11, false), (12, false), (13, false), (14, false), (15, false), (16, false), (17, false), (18, false), (19, false), (20, false)]), (22, [(21, true)])] (by kernel_rfl) rfl (fun ops w0 H0 y => ?_)
    refine p_all ?_
    refine x_rd (rd_move rfl) rfl ?_
    refine x_rd (rd_nil rfl) rfl ?_
    refine x_rd (rd_field rfl) rfl ?_
    refine x_rd (rd_ld rfl (by repeat' first | exact List.Mem.head _ | apply List.Mem.tail | apply List.mem_append_right) rfl) rfl ?_
    refine x_rd (rd_move rfl) rfl ?_
    refine x_rd (rd_move rfl) rfl ?_
    refine x_rd (rd_move rfl) rfl ?_
    refine x_rd (rd_quoN (m := 8) rfl rfl (by omega) (by omega)) rfl ?_
    refine x_rd (rd_ixS rfl rfl (by omega)) rfl ?_
    refine x_rd (rd_field rfl) rfl ?_
    refine x_rd (rd_ixA rfl rfl (by omega)) rfl ?_
    refine x_rd (rd_ixA rfl rfl (by omega)) rfl ?_
    refine x_rd (rd_ld rfl (by repeat' first | exact List.Mem.head _ | apply List.Mem.tail | apply List.mem_append_right) (show nth _ _ = some (bv b.pages[j][k / 8]) by simp only [Int.toNat_natCast, Nat.mul_one, Nat.zero_add, Nat.add_zero, Nat.add_assoc]; exact row_byte (j := k / 8) hb hj (by omega))) rfl ?_
    refine x_rd (rd_move rfl) rfl ?_
    refine x_rd (rd_remN (m := 8) rfl rfl (by omega)) rfl ?_
    refine x_rd (rd_bit8 rfl rfl (by omega)) rfl ?_
    refine x_rd (show Rd _ _ _ _ (bv (b.pages[j][k / 8] ^^^ (1#8 <<< (k % 8)))) from by (unfold bv; rw [← xor_by]; exact rd_bin rfl rfl rfl)) rfl ?_
    refine x_rd (rd_ixS rfl rfl (by omega)) rfl ?_
    refine x_rd (rd_field rfl) rfl ?_
    refine x_rd (rd_ixA rfl rfl (by omega)) rfl ?_
    refine x_rd (rd_ixA rfl rfl (by omega)) rfl ?_
    refine x_nil ?_
    refine p_none ?_
    refine x_so ?_
    refine o_store (cs' := rowc (c.blocks.set i (setPg b j (flipP b.pages[j] k)))) rfl rfl (by repeat' first | exact Upd.here | apply Upd.there | apply Upd.app) rfl rfl (by simp only [Int.toNat_natCast, Nat.mul_one, Nat.zero_add, Nat.add_zero, Nat.add_assoc]; exact flip_at hb hj hk) ?_
    refine o_nil ⟨rfl, ⟨_, (by repeat (first | exact Split.nil | (apply Split.cons; next => repeat (first | exact Pick.here | apply Pick.there | apply Pick.app)) | (apply Split.chunk; next => repeat (first | exact PickL.here | exact PickL.last | apply PickL.there | apply PickL.app)) | (apply Split.lst; repeat (first | exact PickL.here | exact PickL.last | apply PickL.there | apply PickL.app))))⟩, ?_⟩
    refine x_nil ?_
    refine p_end ?_
    refine n_K ?_
    refine s_seq ?_
    refine s_region0 (fun ops => ?_)
    refine o_rd (rd_assign rfl) rfl ?_
    refine o_nil ?_
    refine n_K ?_
    refine s_ret ?_
    refine leaf_is (rets1 Tryz.results24 (rv_tmp rfl)) ?_ (by repeat (first | exact Split.nil | (apply Split.cons; next => repeat (first | exact Pick.here | apply Pick.there | apply Pick.app)) | (apply Split.chunk; next => repeat (first | exact PickL.here | exact PickL.last | apply PickL.there | apply PickL.app)) | (apply Split.lst; repeat (first | exact PickL.here | exact PickL.last | apply PickL.there | apply PickL.app))))
    rfl
end Go.Proofs.YtdfidkhbldedlaaGreat
