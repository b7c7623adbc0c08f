/- Walks of package bbt: a table is kept. -/
import Derived.Test.YtdfidkhbldedlaaGreatT2
namespace Go.Proofs.YtdfidkhbldedlaaGreat
open Go.K
set_option linter.unusedVariables false
set_option linter.unusedSimpArgs false
instance und25 : Und Tryz.prog 25 (.pointer 50) := ⟨Tryz.underlying25⟩
instance agg25 : Agg Tryz.prog 25 false := ⟨⟨_, Tryz.underlying25, rfl⟩⟩
instance siz25 : Siz Tryz.prog 25 1 := ⟨by kernel_rfl⟩
instance fld105_0 : Fld Tryz.prog 105 0 0 := ⟨⟨_, _, 0, Tryz.underlying105, rfl, by kernel_rfl, rfl⟩⟩
instance fld105_1 : Fld Tryz.prog 105 1 1 := ⟨⟨_, _, 1, Tryz.underlying105, rfl, by kernel_rfl, rfl⟩⟩
instance fld105_2 : Fld Tryz.prog 105 2 3 := ⟨⟨_, _, 0, Tryz.underlying105, rfl, by kernel_rfl, rfl⟩⟩
instance fld105_3 : Fld Tryz.prog 105 3 4 := ⟨⟨_, _, 0, Tryz.underlying105, rfl, by kernel_rfl, rfl⟩⟩
instance fld105_4 : Fld Tryz.prog 105 4 5 := ⟨⟨_, _, 0, Tryz.underlying105, rfl, by kernel_rfl, rfl⟩⟩
instance fld105_5 : Fld Tryz.prog 105 5 6 := ⟨⟨_, _, 0, Tryz.underlying105, rfl, by kernel_rfl, rfl⟩⟩
instance flat58 : Flat Tryz.prog 58 (reps 258 ([some .u8])) := ⟨by kernel_rfl, by kernel_rfl, ⟨_, Tryz.underlying58, rfl⟩⟩
instance ent50 : Ent Tryz.prog 50 := ⟨fun _ _ => by kernel_rfl⟩
instance ent78 : Ent Tryz.prog 78 := ⟨fun _ _ => by kernel_rfl⟩
instance ent100 : Ent Tryz.prog 100 := ⟨fun _ _ => by kernel_rfl⟩

/-- A table, and where it lies. -/
structure Tab where
  b : Nat
  u : Sl Int
  l : Sl Int
  version : Wd
  area : Int
  next : Int
  at' : Int
abbrev tabC (a : Nat) (t : Tab) : List Value := [ptr a, t.u.val, t.l.val, wv t.version, .int .i64 t.area, .int .i64 t.next, .int .i64 t.at']
def Tab.ts (t : Tab) : TS := ⟨t.u.list, t.l.list, t.version, t.area, t.next, t.at'⟩
section
variable {c : Chip} {a : Nat}
theorem read_a (ha : c.aC = a) {i j : Int} : Does Tryz.prog 59 [ptr a, .int .i64 i, .int .i64 j] (chH c) (Is (.tuple #[.agg (vbc (readP c i j)).toArray, .int .i64 (mayE c i j)]) (chH c)) := by subst ha; exact read_fn
theorem program_a (ha : c.aC = a) {i j : Int} {d : Pg} : Does Tryz.prog 63 [ptr a, .int .i64 i, .int .i64 j, .agg (vbc d).toArray] (chH c) (Is (.int .i64 (progC c i j d).1) (chH (progC c i j d).2)) := by subst ha; exact program_fn
theorem erase_a (ha : c.aC = a) {i : Int} : Does Tryz.prog 69 [ptr a, .int .i64 i] (chH c) (Is (.int .i64 (eraseC c i).1) (chH (eraseC c i).2)) := by subst ha; exact erase_fn
theorem blocks_a (ha : c.aC = a) : Does Tryz.prog 48 [ptr a] (chH c) (Is (.int .i64 c.blocks.length) (chH c)) := by subst ha; exact blocks_fn
theorem bad_a (ha : c.aC = a) {i : Int} : Does Tryz.prog 49 [ptr a, .int .i64 i] (chH c) (Is (.bool (badB c i)) (chH c)) := by subst ha; exact bad_fn
theorem kk_u8 : reps 258 [some .u8] = List.replicate 258 (some .u8) := by kernel_rfl
theorem ceq_vb : ∀ (xs ys : List By), xs.length = ys.length → cellsEq (List.replicate xs.length (some .u8)) (xs.map bv) (ys.map bv) = some (decide (xs = ys))
  | [], [], _ => rfl
  | [], _ :: _, h => by simp at h
  | _ :: _, [], h => by simp at h
  | x :: xs, y :: ys, h => by
    have ih := ceq_vb xs ys (by simpa using h)
    simp only [List.length_cons, List.replicate_succ, List.map_cons, cellsEq, ih, bv, veq]
    by_cases h1 : x = y
    · subst h1
      by_cases h2 : xs = ys <;> simp [h2]
    · have : ¬ (x.toNat : Int) = y.toNat := fun e => h1 (BitVec.eq_of_toNat_eq (by omega))
      simp [h1, this]
theorem pg_eq (p q : Pg) : cellsEq (reps 258 [some .u8]) (vbc p) (vbc q) = some (decide (p = q)) := by
  have := ceq_vb p.toList q.toList (by simp)
  rw [show p.toList.length = 258 by simp] at this
  rw [kk_u8, vbc, vbc, this]
  congr 1
  exact decide_eq_decide.2 ⟨fun h => Vector.toList_inj.1 h, fun h => by rw [h]⟩
theorem stands_fn {t : Tab} (ha : c.aC = a) {ar i : Int} {q : Pg} : Does Tryz.prog 100 [ptr t.b, .int .i64 ar, .int .i64 i, .agg (vbc q).toArray] ((t.b, true, C (tabC a t) tTb) :: (chH c ++ []))
    (Is (.int .i64 (standsE c ar i q)) ((t.b, true, C (tabC a t) tTb) :: (chH c ++ []))) := by
  refine fn_enter (n := 29) Tryz.func100 Tryz.ntmps100 rfl (Nat.le_of_ble_eq_true rfl) ?_
  refine s_seq ?_
  refine s_region0 (fun ops => ?_)
  refine o_boxA rfl rfl (fun b7 => ?_)
  refine o_rd (rd_assign rfl) rfl ?_
  refine o_nil ?_
  refine n_K ?_
  refine s_seq ?_
  refine s_region0 (fun ops => ?_)
  refine o_rd (rd_move rfl) rfl ?_
  refine o_rd (rd_nil rfl) rfl ?_
  refine o_rd (rd_field rfl) rfl ?_
  refine o_rd (rd_ld rfl (by repeat' first | exact List.Mem.head _ | apply List.Mem.tail | apply List.mem_append_right) rfl) rfl ?_
  refine o_rd (rd_move rfl) rfl ?_
  refine o_rd (rd_move rfl) rfl ?_
  refine c_is rfl (read_a ha) (by repeat (first | exact Split.nil | (apply Split.cons; next => repeat (first | exact Pick.here | apply Pick.there | apply Pick.app)) | (apply Split.chunk; next => repeat (first | exact PickL.here | exact PickL.last | apply PickL.there | apply PickL.app)) | (apply Split.lst; repeat (first | exact PickL.here | exact PickL.last | apply PickL.there | apply PickL.app)))) rfl (by repeat (first | exact Ap.nil | apply Ap.cons | apply Ap.app | exact Ap.one)) ?_
  refine o_rd (rd_move rfl) rfl ?_
  refine o_rd (rd_extract rfl rfl) rfl ?_
  refine o_rd (rd_extract rfl rfl) rfl ?_
  refine o_alloc rfl (fun b9 => ?_)
  rw [zeroP_eq]
  first | refine o_store rfl rfl (by repeat' first | exact Upd.here | apply Upd.there | apply Upd.app) (vc_vb) (vbc_len) (spl_vb (by first | exact vbc_len | exact List.length_replicate ..)) ?_ | refine o_store rfl rfl (by repeat' first | exact Upd.here | apply Upd.there | apply Upd.app) rfl rfl rfl ?_
  refine o_rd (rd_assign rfl) rfl ?_
  refine o_nil ?_
  refine n_K ?_
  refine s_seq ?_
  refine s_seq ?_
  refine s_region [(2, 23)] rfl (fun ops y => ?_)
  refine o_rd (rd_move rfl) rfl ?_
  refine o_rd (rd_bin rfl rfl rfl) rfl ?_
  refine o_rd (rd_move rfl) rfl ?_
  refine' o_and (j := 2) (k := 3) y rfl rfl rfl rfl rfl rfl rfl (fun hg23 => ?_) ?_
  rotate_left
  · try simp at hg23
    refine o_g y rfl rfl ?_
    refine o_rd (rd_ldA rfl (by repeat' first | exact List.Mem.head _ | apply List.Mem.tail | apply List.mem_append_right) (by first | exact cut_vb | rfl)) rfl ?_
    refine o_g y rfl rfl ?_
    refine o_rd (rd_ldA rfl (by repeat' first | exact List.Mem.head _ | apply List.Mem.tail | apply List.mem_append_right) (by first | exact cut_vb | rfl)) rfl ?_
    refine o_g y rfl rfl ?_
    refine o_rd (rd_neA rfl rfl (pg_eq _ _)) rfl ?_
    exact o_nil ⟨rfl, rfl, ⟨_, (by repeat (first | exact Split.nil | (apply Split.cons; next => repeat (first | exact Pick.here | apply Pick.there | apply Pick.app)) | (apply Split.chunk; next => repeat (first | exact PickL.here | exact PickL.last | apply PickL.there | apply PickL.app)) | (apply Split.lst; repeat (first | exact PickL.here | exact PickL.last | apply PickL.there | apply PickL.app))))⟩⟩
  refine o_nil ?_
  refine n_K ?_
  refine s_cond rfl (fun c27 => ?_) (fun c27 => ?_)
  · skip
    have hres : standsE c ar i q = 33 := (by unfold standsE; rw [if_pos (by simp at c27; exact c27)])
    refine s_region0 (fun ops => ?_)
    refine o_rd (rd_assign rfl) rfl ?_
    refine o_nil ?_
    refine n_K ?_
    refine s_seq ?_
    refine s_region0 (fun ops => ?_)
    refine o_rd (rd_move rfl) rfl ?_
    refine o_rd (rd_assign rfl) rfl ?_
    refine o_nil ?_
    refine n_K ?_
    refine s_ret ?_
    refine leaf_is (rets1 Tryz.results100 (rv_tmp rfl)) ?_ (by repeat (first | exact Split.nil | (apply Split.cons; next => repeat (first | exact Pick.here | apply Pick.there | apply Pick.app)) | (apply Split.chunk; next => repeat (first | exact PickL.here | exact PickL.last | apply PickL.there | apply PickL.app)) | (apply Split.lst; repeat (first | exact PickL.here | exact PickL.last | apply PickL.there | apply PickL.app))))
    rw [hres]
  · skip
    have hres : standsE c ar i q = mayE c ar i := (by unfold standsE; rw [if_neg (by simp at c27; rintro ⟨h1, h2⟩; exact h2 (c27 h1))])
    refine s_skip ?_
    refine n_K ?_
    refine s_seq ?_
    refine s_region0 (fun ops => ?_)
    refine o_rd (rd_move rfl) rfl ?_
    refine o_rd (rd_assign rfl) rfl ?_
    refine o_nil ?_
    refine n_K ?_
    refine s_ret ?_
    refine leaf_is (rets1 Tryz.results100 (rv_tmp rfl)) ?_ (by repeat (first | exact Split.nil | (apply Split.cons; next => repeat (first | exact Pick.here | apply Pick.there | apply Pick.app)) | (apply Split.chunk; next => repeat (first | exact PickL.here | exact PickL.last | apply PickL.there | apply PickL.app)) | (apply Split.lst; repeat (first | exact PickL.here | exact PickL.last | apply PickL.there | apply PickL.app))))
    rw [hres]
theorem put_fn {t : Tab} (ha : c.aC = a) {ar from' : Int} {q : Pg} (hf : 0 ≤ from') : Does Tryz.prog 78 [ptr t.b, .int .i64 ar, .int .i64 from', .agg (vbc q).toArray] ((t.b, true, C (tabC a t) tTb) :: (chH c ++ []))
    (Is (.tuple #[.int .i64 (putC c ar from' q).1, .int .i64 (putC c ar from' q).2.1]) ((t.b, true, C (tabC a t) tTb) :: (chH (putC c ar from' q).2.2 ++ []))) := by
  refine fn_enter (n := 41) Tryz.func78 Tryz.ntmps78 rfl (Nat.le_of_ble_eq_true rfl) ?_
  refine s_seq ?_
  refine s_region0 (fun ops => ?_)
  refine o_boxA rfl rfl (fun b7 => ?_)
  refine o_rd (rd_assign rfl) rfl ?_
  refine o_rd (rd_assign rfl) rfl ?_
  refine o_nil ?_
  refine n_K ?_
  refine s_seq ?_
  refine s_seq ?_
  refine s_region0 (fun ops => ?_)
  refine o_rd (rd_move rfl) rfl ?_
  refine o_rd (rd_assign rfl) rfl ?_
  refine o_nil ?_
  refine n_K ?_
  refine s_block ?_
  refine s_loop2 [0, 1, 7] (by repeat' first | exact Keep2.nil | apply Keep2.cons rfl) (fun (st : Int × Chip) => [(10, .int .i64 st.1)]) (fun (st : Int × Chip) => (b7, true, C (vbc q) tPg) :: (t.b, true, C (tabC a t) tTb) :: (chH st.2 ++ [])) (fun (st : Int × Chip) => 0 ≤ st.1 ∧ st.2.aC = a ∧ putC st.2 ar st.1 q = putC c ar from' q) (fun (st : Int × Chip) => (8 - st.1).toNat) ((from', c)) ⟨hf, ha, rfl⟩ (by repeat' first | exact Keep.nil | refine Keep.cons rfl ?_) (by repeat (first | exact Split.nil | (apply Split.cons; next => repeat (first | exact Pick.here | apply Pick.there | apply Pick.app)) | (apply Split.chunk; next => repeat (first | exact PickL.here | exact PickL.last | apply PickL.there | apply PickL.app)) | (apply Split.lst; repeat (first | exact PickL.here | exact PickL.last | apply PickL.there | apply PickL.app)))) ?_
  rintro ⟨i, c1⟩ ⟨h0, h1, h2⟩
  simp only at h0 h1 h2
  refine s_seq ?_
  refine s_seq ?_
  refine s_region0 (fun ops => ?_)
  refine o_rd (rd_move rfl) rfl ?_
  refine o_rd (rd_bin rfl rfl rfl) rfl ?_
  refine o_nil ?_
  refine n_K ?_
  refine s_cond rfl (fun c14 => ?_) (fun c14 => ?_)
  · simp only [decide_eq_true_eq, decide_eq_false_iff_not] at c14
    refine s_skip ?_
    refine n_K ?_
    refine s_seq ?_
    refine s_block ?_
    refine s_seq ?_
    refine s_draw [] [(7, [(0, false), (1, false), (2, false), (3, false), (4, false), (5, false), (6, false)]), (8, [(7, true)]), (9, [(8, false)])] (by kernel_rfl) rfl (fun ops w0 H0 y => ?_)
    refine p_all ?_
    refine x_rd (rd_move rfl) rfl ?_
    refine x_rd (rd_nil rfl) rfl ?_
    refine x_rd (rd_field rfl) rfl ?_
    refine x_rd (rd_ld rfl (by repeat' first | exact List.Mem.head _ | apply List.Mem.tail | apply List.mem_append_right) rfl) rfl ?_
    refine x_rd (rd_move rfl) rfl ?_
    refine x_rd (rd_move rfl) rfl ?_
    refine x_rd (rd_ldA rfl (by repeat' first | exact List.Mem.head _ | apply List.Mem.tail | apply List.mem_append_right) (by first | exact cut_vb | rfl)) rfl ?_
    refine x_nil ?_
    refine p_none ?_
    refine x_so ?_
    refine c_is rfl (program_a h1) (by repeat (first | exact Split.nil | (apply Split.cons; next => repeat (first | exact Pick.here | apply Pick.there | apply Pick.app)) | (apply Split.chunk; next => repeat (first | exact PickL.here | exact PickL.last | apply PickL.there | apply PickL.app)) | (apply Split.lst; repeat (first | exact PickL.here | exact PickL.last | apply PickL.there | apply PickL.app)))) rfl (by repeat (first | exact Ap.nil | apply Ap.cons | apply Ap.app | exact Ap.one)) ?_
    refine o_nil ⟨rfl, ⟨_, (by repeat (first | exact Split.nil | (apply Split.cons; next => repeat (first | exact Pick.here | apply Pick.there | apply Pick.app)) | (apply Split.chunk; next => repeat (first | exact PickL.here | exact PickL.last | apply PickL.there | apply PickL.app)) | (apply Split.lst; repeat (first | exact PickL.here | exact PickL.last | apply PickL.there | apply PickL.app))))⟩, ?_⟩
    refine x_nil ?_
    refine p_all ?_
    refine x_rd (rd_assign rfl) rfl ?_
    refine x_nil ?_
    refine p_end ?_
    refine n_K ?_
    refine s_seq ?_
    refine s_seq ?_
    refine s_region0 (fun ops => ?_)
    refine o_rd (rd_move rfl) rfl ?_
    refine o_rd (rd_bin rfl rfl rfl) rfl ?_
    refine o_nil ?_
    refine n_K ?_
    refine s_cond rfl (fun c26 => ?_) (fun c26 => ?_)
    · skip
      have hst : stepE c1 ar i q = standsE (progC c1 ar i q).2 ar i q := (by unfold stepE; rw [if_pos (by simpa using c26)])
      refine s_region0 (fun ops => ?_)
      refine o_rd (rd_move rfl) rfl ?_
      refine o_rd (rd_move rfl) rfl ?_
      refine o_rd (rd_move rfl) rfl ?_
      refine o_rd (rd_ldA rfl (by repeat' first | exact List.Mem.head _ | apply List.Mem.tail | apply List.mem_append_right) (by first | exact cut_vb | rfl)) rfl ?_
      refine c_is rfl (stands_fn (t := t) (c := (progC c1 ar i q).2) ((prog_aC c1 ar i q).trans h1)) (by repeat (first | exact Split.nil | (apply Split.cons; next => repeat (first | exact Pick.here | apply Pick.there | apply Pick.app)) | (apply Split.chunk; next => repeat (first | exact PickL.here | exact PickL.last | apply PickL.there | apply PickL.app)) | (apply Split.lst; repeat (first | exact PickL.here | exact PickL.last | apply PickL.there | apply PickL.app)))) rfl (by repeat (first | exact Ap.nil | apply Ap.cons | apply Ap.app | exact Ap.one)) ?_
      refine o_rd (rd_assign rfl) rfl ?_
      refine o_nil ?_
      refine n_K ?_
      refine s_seq ?_
      refine s_region [(2, 34)] rfl (fun ops y => ?_)
      refine o_rd (rd_move rfl) rfl ?_
      refine o_rd (rd_bin rfl rfl rfl) rfl ?_
      refine o_rd (rd_move rfl) rfl ?_
      refine' o_and (j := 2) (k := 2) y rfl rfl rfl rfl rfl rfl rfl (fun hg34 => ?_) ?_
      rotate_left
      · try simp at hg34
        refine o_g y rfl rfl ?_
        refine o_rd (rd_move rfl) rfl ?_
        refine o_g y rfl rfl ?_
        refine o_rd (rd_bin rfl rfl rfl) rfl ?_
        exact o_nil ⟨rfl, rfl, ⟨_, (by repeat (first | exact Split.nil | (apply Split.cons; next => repeat (first | exact Pick.here | apply Pick.there | apply Pick.app)) | (apply Split.chunk; next => repeat (first | exact PickL.here | exact PickL.last | apply PickL.there | apply PickL.app)) | (apply Split.lst; repeat (first | exact PickL.here | exact PickL.last | apply PickL.there | apply PickL.app))))⟩⟩
      refine o_nil ?_
      refine n_K ?_
      refine s_cond rfl (fun c37 => ?_) (fun c37 => ?_)
      · skip
        have hres := putC_stop c14 (by rw [hst]; simpa using c37)
        rw [h2] at hres
        refine s_seq ?_
        refine s_region0 (fun ops => ?_)
        refine o_rd (rd_move rfl) rfl ?_
        refine o_rd (rd_add64 rfl rfl (by omega)) rfl ?_
        refine o_rd (rd_move rfl) rfl ?_
        refine o_rd (rd_assign rfl) rfl ?_
        refine o_rd (rd_assign rfl) rfl ?_
        refine o_nil ?_
        refine n_K ?_
        refine s_ret ?_
        refine r_blk ?_
        refine r_K ?_
        refine r_K ?_
        refine r_blk ?_
        refine r_K ?_
        refine leaf_is (rets2 Tryz.results78 (rv_tmp rfl) (rv_tmp rfl)) ?_ (by rw [hres]; exact (by repeat (first | exact Split.nil | (apply Split.cons; next => repeat (first | exact Pick.here | apply Pick.there | apply Pick.app)) | (apply Split.chunk; next => repeat (first | exact PickL.here | exact PickL.last | apply PickL.there | apply PickL.app)) | (apply Split.lst; repeat (first | exact PickL.here | exact PickL.last | apply PickL.there | apply PickL.app)))))
        rw [hres, hst]
      · skip
        have hgo := putC_go c14 (by rw [hst]; intro h; simp at c37; exact h.2 (c37 h.1))
        refine s_skip ?_
        refine n_blk ?_
        refine n_K ?_
        refine s_region0 (fun ops => ?_)
        refine o_rd (rd_move rfl) rfl ?_
        refine o_rd (rd_add64 rfl rfl (by omega)) rfl ?_
        refine o_rd (rd_assign rfl) rfl ?_
        refine o_nil ?_
        refine n_K ?_
        exact ⟨(i + 1, (progC c1 ar i q).2), ⟨by simp only; omega, (prog_aC c1 ar i q).trans h1, by simp only; rw [← hgo, h2]⟩, (by simp only; omega), (by repeat' first | exact Keep.nil | refine Keep.cons rfl ?_), (by repeat' first | exact Keep.nil | refine Keep.cons rfl ?_), _, (by repeat (first | exact Split.nil | (apply Split.cons; next => repeat (first | exact Pick.here | apply Pick.there | apply Pick.app)) | (apply Split.chunk; next => repeat (first | exact PickL.here | exact PickL.last | apply PickL.there | apply PickL.app)) | (apply Split.lst; repeat (first | exact PickL.here | exact PickL.last | apply PickL.there | apply PickL.app))))⟩
    · skip
      have hst : stepE c1 ar i q = (progC c1 ar i q).1 := (by unfold stepE; rw [if_neg (by simpa using c26)])
      refine s_skip ?_
      refine n_K ?_
      refine s_seq ?_
      refine s_region [(2, 34)] rfl (fun ops y => ?_)
      refine o_rd (rd_move rfl) rfl ?_
      refine o_rd (rd_bin rfl rfl rfl) rfl ?_
      refine o_rd (rd_move rfl) rfl ?_
      refine' o_and (j := 2) (k := 2) y rfl rfl rfl rfl rfl rfl rfl (fun hg34 => ?_) ?_
      rotate_left
      · try simp at hg34
        refine o_g y rfl rfl ?_
        refine o_rd (rd_move rfl) rfl ?_
        refine o_g y rfl rfl ?_
        refine o_rd (rd_bin rfl rfl rfl) rfl ?_
        exact o_nil ⟨rfl, rfl, ⟨_, (by repeat (first | exact Split.nil | (apply Split.cons; next => repeat (first | exact Pick.here | apply Pick.there | apply Pick.app)) | (apply Split.chunk; next => repeat (first | exact PickL.here | exact PickL.last | apply PickL.there | apply PickL.app)) | (apply Split.lst; repeat (first | exact PickL.here | exact PickL.last | apply PickL.there | apply PickL.app))))⟩⟩
      refine o_nil ?_
      refine n_K ?_
      refine s_cond rfl (fun c37 => ?_) (fun c37 => ?_)
      · skip
        have hres := putC_stop c14 (by rw [hst]; simpa using c37)
        rw [h2] at hres
        refine s_seq ?_
        refine s_region0 (fun ops => ?_)
        refine o_rd (rd_move rfl) rfl ?_
        refine o_rd (rd_add64 rfl rfl (by omega)) rfl ?_
        refine o_rd (rd_move rfl) rfl ?_
        refine o_rd (rd_assign rfl) rfl ?_
        refine o_rd (rd_assign rfl) rfl ?_
        refine o_nil ?_
        refine n_K ?_
        refine s_ret ?_
        refine r_blk ?_
        refine r_K ?_
        refine r_K ?_
        refine r_blk ?_
        refine r_K ?_
        refine leaf_is (rets2 Tryz.results78 (rv_tmp rfl) (rv_tmp rfl)) ?_ (by rw [hres]; exact (by repeat (first | exact Split.nil | (apply Split.cons; next => repeat (first | exact Pick.here | apply Pick.there | apply Pick.app)) | (apply Split.chunk; next => repeat (first | exact PickL.here | exact PickL.last | apply PickL.there | apply PickL.app)) | (apply Split.lst; repeat (first | exact PickL.here | exact PickL.last | apply PickL.there | apply PickL.app)))))
        rw [hres, hst]
      · skip
        have hgo := putC_go c14 (by rw [hst]; intro h; simp at c37; exact h.2 (c37 h.1))
        refine s_skip ?_
        refine n_blk ?_
        refine n_K ?_
        refine s_region0 (fun ops => ?_)
        refine o_rd (rd_move rfl) rfl ?_
        refine o_rd (rd_add64 rfl rfl (by omega)) rfl ?_
        refine o_rd (rd_assign rfl) rfl ?_
        refine o_nil ?_
        refine n_K ?_
        exact ⟨(i + 1, (progC c1 ar i q).2), ⟨by simp only; omega, (prog_aC c1 ar i q).trans h1, by simp only; rw [← hgo, h2]⟩, (by simp only; omega), (by repeat' first | exact Keep.nil | refine Keep.cons rfl ?_), (by repeat' first | exact Keep.nil | refine Keep.cons rfl ?_), _, (by repeat (first | exact Split.nil | (apply Split.cons; next => repeat (first | exact Pick.here | apply Pick.there | apply Pick.app)) | (apply Split.chunk; next => repeat (first | exact PickL.here | exact PickL.last | apply PickL.there | apply PickL.app)) | (apply Split.lst; repeat (first | exact PickL.here | exact PickL.last | apply PickL.there | apply PickL.app))))⟩
  · simp only [decide_eq_true_eq, decide_eq_false_iff_not] at c14
    refine s_exit ?_
    refine x_K ?_
    refine x_K ?_
    refine x_blk ?_
    refine n_K ?_
    refine s_seq ?_
    refine s_region0 (fun ops => ?_)
    refine o_rd (rd_assign rfl) rfl ?_
    refine o_rd (rd_assign rfl) rfl ?_
    refine o_nil ?_
    refine n_K ?_
    refine s_ret ?_
    refine leaf_is (rets2 Tryz.results78 (rv_tmp rfl) (rv_tmp rfl)) ?_ (by rw [← h2, putC_end c14]; exact (by repeat (first | exact Split.nil | (apply Split.cons; next => repeat (first | exact Pick.here | apply Pick.there | apply Pick.app)) | (apply Split.chunk; next => repeat (first | exact PickL.here | exact PickL.last | apply PickL.there | apply PickL.app)) | (apply Split.lst; repeat (first | exact PickL.here | exact PickL.last | apply PickL.there | apply PickL.app)))))
    rw [← h2, putC_end c14]
theorem rd_inc64 {P : Program} {E : Env} {H : Hp} {t u : TypeId} {x y : Operand} {v : Wd} (hx : ev E x = some (wv v)) (hy : ev E y = some (.int .u64 1)) : Rd P E H (.binOp .add t x y u) (wv (v + 1)) := by
  have := rd_bin (P := P) (H := H) (op := .add) (t := t) (u := u) hx hy rfl
  have e : IntKind.u64.wrap ((v.toNat : Int) + 1) = ((v + 1).toNat : Int) := by
    rw [wrap_u .u64 rfl]
    show ((BitVec.ofInt 64 ((v.toNat : Int) + 1)).toNat : Int) = _
    rw [show ((v.toNat : Int) + 1) = ((v.toNat + 1 : Nat) : Int) by push_cast; rfl, BitVec.ofInt_natCast, BitVec.toNat_ofNat, BitVec.toNat_add]
    rfl
  rw [e] at this
  exact this
theorem keep_fn {t : Tab} {u l : Sl Int} (ha : c.aC = a) (hu : u.list.length ≤ 1000) (hl : l.list.length ≤ 1000) (hn : 0 ≤ t.next) (har : 0 ≤ t.area ∧ t.area ≤ 1) :
    Does Tryz.prog 50 [ptr t.b, .agg #[u.val, l.val]] ((t.b, true, C (tabC a t) tTb) :: (u.hp tI ++ (l.hp tI ++ (chH c ++ []))))
      (fun v H => ∃ t' : Tab, t'.b = t.b ∧ v = .int .i64 (keepC t.ts u.list l.list c).1 ∧ H = (t'.b, true, C (tabC a t') tTb) :: (u.hp tI ++ (l.hp tI ++ (chH (keepC t.ts u.list l.list c).2.2 ++ []))) ∧ t'.ts = (keepC t.ts u.list l.list c).2.1 ∧
        ((keepC t.ts u.list l.list c).1 = 0 → t'.u = u ∧ t'.l = l) ∧ ((keepC t.ts u.list l.list c).1 ≠ 0 → t' = t)) := by
  refine fn_enter (n := 98) Tryz.func50 Tryz.ntmps50 rfl (Nat.le_of_ble_eq_true rfl) ?_
  refine s_seq ?_
  refine s_region0 (fun ops => ?_)
  refine o_box rfl rfl (fun b3 => ?_)
  refine o_rd (rd_assign rfl) rfl ?_
  refine o_nil ?_
  refine n_K ?_
  refine s_seq ?_
  refine s_drawT [] [(13, (.fork [(0, false), (1, false), (2, false), (3, false), (4, false), (5, false), (6, false), (7, false), (8, false), (9, false)] 10 (.fork [] 11 (.one [(12, true)]) 12 (.one [(11, true)])) 12 (.one [(10, true), (11, true)]))), (14, (.one [(13, true)]))] (by kernel_rfl) rfl (fun ops w0 H0 y => ?_)
  refine pt_all ?_
  refine t_fork ?_ rfl
  refine x_rd (rd_ldA rfl (by repeat' first | exact List.Mem.head _ | apply List.Mem.tail | apply List.mem_append_right) rfl) rfl ?_
  refine x_rd (rd_move rfl) rfl ?_
  refine x_rd (rd_nil rfl) rfl ?_
  refine x_rd (rd_field rfl) rfl ?_
  refine x_rd (rd_ld rfl (by repeat' first | exact List.Mem.head _ | apply List.Mem.tail | apply List.mem_append_right) rfl) rfl ?_
  refine x_rd (rd_inc64 rfl rfl) rfl ?_
  refine x_rd (rd_move rfl) rfl ?_
  refine x_rd (rd_nil rfl) rfl ?_
  refine x_rd (rd_field rfl) rfl ?_
  refine x_rd (rd_ld rfl (by repeat' first | exact List.Mem.head _ | apply List.Mem.tail | apply List.mem_append_right) rfl) rfl ?_
  refine x_nil ⟨⟨_, (by repeat (first | exact Split.nil | (apply Split.cons; next => repeat (first | exact Pick.here | apply Pick.there | apply Pick.app)) | (apply Split.chunk; next => repeat (first | exact PickL.here | exact PickL.last | apply PickL.there | apply PickL.app)) | (apply Split.lst; repeat (first | exact PickL.here | exact PickL.last | apply PickL.there | apply PickL.app))))⟩, ?_, ?_⟩
  refine x_so ?_
  refine c_is rfl (blocks_a ha) (by repeat (first | exact Split.nil | (apply Split.cons; next => repeat (first | exact Pick.here | apply Pick.there | apply Pick.app)) | (apply Split.chunk; next => repeat (first | exact PickL.here | exact PickL.last | apply PickL.there | apply PickL.app)) | (apply Split.lst; repeat (first | exact PickL.here | exact PickL.last | apply PickL.there | apply PickL.app)))) rfl (by repeat (first | exact Ap.nil | apply Ap.cons | apply Ap.app | exact Ap.one)) ?_
  refine o_nil ⟨rfl, ⟨_, (by repeat (first | exact Split.nil | (apply Split.cons; next => repeat (first | exact Pick.here | apply Pick.there | apply Pick.app)) | (apply Split.chunk; next => repeat (first | exact PickL.here | exact PickL.last | apply PickL.there | apply PickL.app)) | (apply Split.lst; repeat (first | exact PickL.here | exact PickL.last | apply PickL.there | apply PickL.app))))⟩, ?_⟩
  refine x_nil ?_
  refine t_fork ?_ rfl
  refine x_nil ⟨⟨_, (by repeat (first | exact Split.nil | (apply Split.cons; next => repeat (first | exact Pick.here | apply Pick.there | apply Pick.app)) | (apply Split.chunk; next => repeat (first | exact PickL.here | exact PickL.last | apply PickL.there | apply PickL.app)) | (apply Split.lst; repeat (first | exact PickL.here | exact PickL.last | apply PickL.there | apply PickL.app))))⟩, ?_, ?_⟩
  refine x_so ?_
  refine c_is rfl (page_fn (v := t.version + 1) (n := c.blocks.length) hu hl) (by repeat (first | exact Split.nil | (apply Split.cons; next => repeat (first | exact Pick.here | apply Pick.there | apply Pick.app)) | (apply Split.chunk; next => repeat (first | exact PickL.here | exact PickL.last | apply PickL.there | apply PickL.app)) | (apply Split.lst; repeat (first | exact PickL.here | exact PickL.last | apply PickL.there | apply PickL.app)))) rfl (by repeat (first | exact Ap.nil | apply Ap.cons | apply Ap.app | exact Ap.one)) ?_
  refine o_nil ⟨rfl, ⟨_, (by repeat (first | exact Split.nil | (apply Split.cons; next => repeat (first | exact Pick.here | apply Pick.there | apply Pick.app)) | (apply Split.chunk; next => repeat (first | exact PickL.here | exact PickL.last | apply PickL.there | apply PickL.app)) | (apply Split.lst; repeat (first | exact PickL.here | exact PickL.last | apply PickL.there | apply PickL.app))))⟩, ?_⟩
  refine x_nil ?_
  refine t_one ?_
  refine x_so ?_
  refine o_alloc rfl (fun b5 => ?_)
  rw [zeroP_eq]
  refine o_nil ⟨rfl, ⟨_, (by repeat (first | exact Split.nil | (apply Split.cons; next => repeat (first | exact Pick.here | apply Pick.there | apply Pick.app)) | (apply Split.chunk; next => repeat (first | exact PickL.here | exact PickL.last | apply PickL.there | apply PickL.app)) | (apply Split.lst; repeat (first | exact PickL.here | exact PickL.last | apply PickL.there | apply PickL.app))))⟩, ?_⟩
  refine x_nil ?_
  rotate_left
  refine x_so ?_
  refine o_alloc rfl (fun b5 => ?_)
  rw [zeroP_eq]
  refine o_nil ⟨rfl, ⟨_, (by repeat (first | exact Split.nil | (apply Split.cons; next => repeat (first | exact Pick.here | apply Pick.there | apply Pick.app)) | (apply Split.chunk; next => repeat (first | exact PickL.here | exact PickL.last | apply PickL.there | apply PickL.app)) | (apply Split.lst; repeat (first | exact PickL.here | exact PickL.last | apply PickL.there | apply PickL.app))))⟩, ?_⟩
  refine x_nil ?_
  refine t_one ?_
  refine x_so ?_
  refine c_is rfl (page_fn (v := t.version + 1) (n := c.blocks.length) hu hl) (by repeat (first | exact Split.nil | (apply Split.cons; next => repeat (first | exact Pick.here | apply Pick.there | apply Pick.app)) | (apply Split.chunk; next => repeat (first | exact PickL.here | exact PickL.last | apply PickL.there | apply PickL.app)) | (apply Split.lst; repeat (first | exact PickL.here | exact PickL.last | apply PickL.there | apply PickL.app)))) rfl (by repeat (first | exact Ap.nil | apply Ap.cons | apply Ap.app | exact Ap.one)) ?_
  refine o_nil ⟨rfl, ⟨_, (by repeat (first | exact Split.nil | (apply Split.cons; next => repeat (first | exact Pick.here | apply Pick.there | apply Pick.app)) | (apply Split.chunk; next => repeat (first | exact PickL.here | exact PickL.last | apply PickL.there | apply PickL.app)) | (apply Split.lst; repeat (first | exact PickL.here | exact PickL.last | apply PickL.there | apply PickL.app))))⟩, ?_⟩
  refine x_nil ?_
  rotate_left
  refine x_so ?_
  refine o_alloc rfl (fun b5 => ?_)
  rw [zeroP_eq]
  refine o_nil ⟨rfl, ⟨_, (by repeat (first | exact Split.nil | (apply Split.cons; next => repeat (first | exact Pick.here | apply Pick.there | apply Pick.app)) | (apply Split.chunk; next => repeat (first | exact PickL.here | exact PickL.last | apply PickL.there | apply PickL.app)) | (apply Split.lst; repeat (first | exact PickL.here | exact PickL.last | apply PickL.there | apply PickL.app))))⟩, ?_⟩
  refine x_nil ?_
  refine t_one ?_
  refine x_so ?_
  refine c_is rfl (blocks_a ha) (by repeat (first | exact Split.nil | (apply Split.cons; next => repeat (first | exact Pick.here | apply Pick.there | apply Pick.app)) | (apply Split.chunk; next => repeat (first | exact PickL.here | exact PickL.last | apply PickL.there | apply PickL.app)) | (apply Split.lst; repeat (first | exact PickL.here | exact PickL.last | apply PickL.there | apply PickL.app)))) rfl (by repeat (first | exact Ap.nil | apply Ap.cons | apply Ap.app | exact Ap.one)) ?_
  refine o_nil ⟨rfl, ⟨_, (by repeat (first | exact Split.nil | (apply Split.cons; next => repeat (first | exact Pick.here | apply Pick.there | apply Pick.app)) | (apply Split.chunk; next => repeat (first | exact PickL.here | exact PickL.last | apply PickL.there | apply PickL.app)) | (apply Split.lst; repeat (first | exact PickL.here | exact PickL.last | apply PickL.there | apply PickL.app))))⟩, ?_⟩
  refine x_so ?_
  refine c_is rfl (page_fn (v := t.version + 1) (n := c.blocks.length) hu hl) (by repeat (first | exact Split.nil | (apply Split.cons; next => repeat (first | exact Pick.here | apply Pick.there | apply Pick.app)) | (apply Split.chunk; next => repeat (first | exact PickL.here | exact PickL.last | apply PickL.there | apply PickL.app)) | (apply Split.lst; repeat (first | exact PickL.here | exact PickL.last | apply PickL.there | apply PickL.app)))) rfl (by repeat (first | exact Ap.nil | apply Ap.cons | apply Ap.app | exact Ap.one)) ?_
  refine o_nil ⟨rfl, ⟨_, (by repeat (first | exact Split.nil | (apply Split.cons; next => repeat (first | exact Pick.here | apply Pick.there | apply Pick.app)) | (apply Split.chunk; next => repeat (first | exact PickL.here | exact PickL.last | apply PickL.there | apply PickL.app)) | (apply Split.lst; repeat (first | exact PickL.here | exact PickL.last | apply PickL.there | apply PickL.app))))⟩, ?_⟩
  refine x_nil ?_
  rotate_left
  all_goals
    refine pt_none ?_
    refine t_one ?_
    refine x_so ?_
    first | refine o_store rfl rfl (by repeat' first | exact Upd.here | apply Upd.there | apply Upd.app) (vc_vb) (vbc_len) (spl_vb (by first | exact vbc_len | exact List.length_replicate ..)) ?_ | refine o_store rfl rfl (by repeat' first | exact Upd.here | apply Upd.there | apply Upd.app) rfl rfl rfl ?_
    refine o_nil ⟨rfl, ⟨_, (by repeat (first | exact Split.nil | (apply Split.cons; next => repeat (first | exact Pick.here | apply Pick.there | apply Pick.app)) | (apply Split.chunk; next => repeat (first | exact PickL.here | exact PickL.last | apply PickL.there | apply PickL.app)) | (apply Split.lst; repeat (first | exact PickL.here | exact PickL.last | apply PickL.there | apply PickL.app))))⟩, ?_⟩
    refine x_nil ?_
    refine pt_end ?_
    refine n_K ?_
    refine s_seq ?_
    refine s_region0 (fun ops => ?_)
    refine o_rd (rd_move rfl) rfl ?_
    refine o_rd (rd_nil rfl) rfl ?_
    refine o_rd (rd_field rfl) rfl ?_
    refine o_rd (rd_ld rfl (by repeat' first | exact List.Mem.head _ | apply List.Mem.tail | apply List.mem_append_right) rfl) rfl ?_
    refine o_rd (rd_assign rfl) rfl ?_
    refine o_nil ?_
    refine n_K ?_
    refine s_seq ?_
    refine s_draw [] [(7, [(0, false), (1, false), (2, false), (3, false), (4, false), (5, false), (6, false)]), (8, [(7, true)]), (13, [(8, false), (9, false), (10, false), (11, false), (12, false)])] (by kernel_rfl) rfl (fun ops w0 H0 y => ?_)
    refine p_all ?_
    refine x_rd (rd_move rfl) rfl ?_
    refine x_rd (rd_move rfl) rfl ?_
    refine x_rd (rd_move rfl) rfl ?_
    refine x_rd (rd_nil rfl) rfl ?_
    refine x_rd (rd_field rfl) rfl ?_
    refine x_rd (rd_ld rfl (by repeat' first | exact List.Mem.head _ | apply List.Mem.tail | apply List.mem_append_right) rfl) rfl ?_
    refine x_rd (rd_ldA rfl (by repeat' first | exact List.Mem.head _ | apply List.Mem.tail | apply List.mem_append_right) (by first | exact cut_vb | rfl)) rfl ?_
    refine x_nil ?_
    refine p_none ?_
    refine x_so ?_
    refine c_is rfl (put_fn (t := t) ha hn) (by repeat (first | exact Split.nil | (apply Split.cons; next => repeat (first | exact Pick.here | apply Pick.there | apply Pick.app)) | (apply Split.chunk; next => repeat (first | exact PickL.here | exact PickL.last | apply PickL.there | apply PickL.app)) | (apply Split.lst; repeat (first | exact PickL.here | exact PickL.last | apply PickL.there | apply PickL.app)))) rfl (by repeat (first | exact Ap.nil | apply Ap.cons | apply Ap.app | exact Ap.one)) ?_
    refine o_nil ⟨rfl, ⟨_, (by repeat (first | exact Split.nil | (apply Split.cons; next => repeat (first | exact Pick.here | apply Pick.there | apply Pick.app)) | (apply Split.chunk; next => repeat (first | exact PickL.here | exact PickL.last | apply PickL.there | apply PickL.app)) | (apply Split.lst; repeat (first | exact PickL.here | exact PickL.last | apply PickL.there | apply PickL.app))))⟩, ?_⟩
    refine x_nil ?_
    refine p_all ?_
    refine x_rd (rd_move rfl) rfl ?_
    refine x_rd (rd_extract rfl rfl) rfl ?_
    refine x_rd (rd_extract rfl rfl) rfl ?_
    refine x_rd (rd_assign rfl) rfl ?_
    refine x_rd (rd_assign rfl) rfl ?_
    refine x_nil ?_
    refine p_end ?_
    refine n_K ?_
    refine s_seq ?_
    refine s_seq ?_
    refine s_region0 (fun ops => ?_)
    refine o_rd (rd_assign rfl) rfl ?_
    refine o_nil ?_
    refine n_K ?_
    refine s_block ?_
    obtain ⟨q, hq⟩ : ∃ q, q = planP (t.version + 1) c.blocks.length u.list l.list := ⟨_, rfl⟩
    rw [← hq]
    refine s_loop2 [0, 3, 5] (by repeat' first | exact Keep2.nil | apply Keep2.cons rfl) (fun (st : Nat × KS) => [(9, .int .i64 st.1), (6, .int .i64 st.2.area), (7, .int .i64 st.2.next), (8, .int .i64 st.2.e)]) (fun (st : Nat × KS) => (b5, true, C (vbc q) tPg) :: (b3, true, C [u.val, l.val] tPl) :: (t.b, true, C (tabC a t) tTb) :: (u.hp tI ++ (l.hp tI ++ (chH st.2.c ++ [])))) (fun (st : Nat × KS) => st.1 ≤ 4 ∧ st.2.c.aC = a ∧ (0 ≤ st.2.next ∧ st.2.next ≤ 8) ∧ keepGo (4 - st.1) t.area q st.2 = keepS t.ts u.list l.list c) (fun (st : Nat × KS) => 4 - st.1) ((0, ⟨t.area, (putC c t.area t.next q).1, (putC c t.area t.next q).2.1, (putC c t.area t.next q).2.2⟩)) ⟨Nat.zero_le _, (putC_aC _ _ _ _).trans ha, putC_ge _ _ _ _ hn, by rw [hq]; rfl⟩ (by repeat' first | exact Keep.nil | refine Keep.cons rfl ?_) (by repeat (first | exact Split.nil | (apply Split.cons; next => repeat (first | exact Pick.here | apply Pick.there | apply Pick.app)) | (apply Split.chunk; next => repeat (first | exact PickL.here | exact PickL.last | apply PickL.there | apply PickL.app)) | (apply Split.lst; repeat (first | exact PickL.here | exact PickL.last | apply PickL.there | apply PickL.app)))) ?_
    rintro ⟨k, s⟩ ⟨h0, h1, h2, h3⟩
    simp only at h0 h1 h2 h3
    refine s_seq ?_
    refine s_seq ?_
    refine s_region [(2, 40)] rfl (fun ops y => ?_)
    refine o_rd (rd_move rfl) rfl ?_
    refine o_rd (rd_bin rfl rfl rfl) rfl ?_
    refine o_rd (rd_move rfl) rfl ?_
    refine' o_and (j := 2) (k := 2) y rfl rfl rfl rfl rfl rfl rfl (fun hg40 => ?_) ?_
    rotate_left
    · try simp at hg40
      refine o_g y rfl rfl ?_
      refine o_rd (rd_move rfl) rfl ?_
      refine o_g y rfl rfl ?_
      refine o_rd (rd_bin rfl rfl rfl) rfl ?_
      exact o_nil ⟨rfl, rfl, ⟨_, (by repeat (first | exact Split.nil | (apply Split.cons; next => repeat (first | exact Pick.here | apply Pick.there | apply Pick.app)) | (apply Split.chunk; next => repeat (first | exact PickL.here | exact PickL.last | apply PickL.there | apply PickL.app)) | (apply Split.lst; repeat (first | exact PickL.here | exact PickL.last | apply PickL.there | apply PickL.app))))⟩⟩
    refine o_nil ?_
    refine n_K ?_
    refine s_cond rfl (fun c43 => ?_) (fun c43 => ?_)
    · skip
      have hk : k < 4 := (by simp at c43; omega)
      have he : s.e = 34 := (by simp at c43; exact c43.2)
      rw [show 4 - k = (4 - (k + 1)) + 1 by omega, keepGo, if_pos he] at h3
      refine s_skip ?_
      refine n_K ?_
      refine s_seq ?_
      refine s_block ?_
      refine s_seq ?_
      refine s_region0 (fun ops => ?_)
      refine o_rd (rd_move rfl) rfl ?_
      refine o_rd (rd_nil rfl) rfl ?_
      refine o_rd (rd_field rfl) rfl ?_
      refine o_rd (rd_ld rfl (by repeat' first | exact List.Mem.head _ | apply List.Mem.tail | apply List.mem_append_right) rfl) rfl ?_
      refine o_rd (rd_sub64 rfl rfl (by omega)) rfl ?_
      refine o_rd (rd_assign rfl) rfl ?_
      refine o_nil ?_
      refine n_K ?_
      refine s_seq ?_
      refine s_region0 (fun ops => ?_)
      refine o_rd (rd_move rfl) rfl ?_
      refine o_rd (rd_nil rfl) rfl ?_
      refine o_rd (rd_field rfl) rfl ?_
      refine o_rd (rd_ld rfl (by repeat' first | exact List.Mem.head _ | apply List.Mem.tail | apply List.mem_append_right) rfl) rfl ?_
      refine o_rd (rd_move rfl) rfl ?_
      refine c_is rfl (erase_a h1) (by repeat (first | exact Split.nil | (apply Split.cons; next => repeat (first | exact Pick.here | apply Pick.there | apply Pick.app)) | (apply Split.chunk; next => repeat (first | exact PickL.here | exact PickL.last | apply PickL.there | apply PickL.app)) | (apply Split.lst; repeat (first | exact PickL.here | exact PickL.last | apply PickL.there | apply PickL.app)))) rfl (by repeat (first | exact Ap.nil | apply Ap.cons | apply Ap.app | exact Ap.one)) ?_
      refine o_rd (rd_assign rfl) rfl ?_
      refine o_nil ?_
      refine n_K ?_
      refine s_seq ?_
      refine s_region0 (fun ops => ?_)
      refine o_rd (rd_move rfl) rfl ?_
      refine o_nil ?_
      refine n_K ?_
      refine s_block ?_
      refine s_seq ?_
      refine s_region0 (fun ops => ?_)
      refine o_rd (rd_bin rfl rfl rfl) rfl ?_
      refine o_rd (rd_assign rfl) rfl ?_
      refine o_nil ?_
      refine n_K ?_
      refine s_cond rfl (fun c59 => ?_) (fun c59 => ?_)
      · skip
        have hf : (eraseC s.c (1 - t.area)).1 = 0 := (by simpa using c59)
        have hk1 : keep1 t.area q s = ⟨1 - t.area, (putC (eraseC s.c (1 - t.area)).2 (1 - t.area) 0 q).1, (putC (eraseC s.c (1 - t.area)).2 (1 - t.area) 0 q).2.1, (putC (eraseC s.c (1 - t.area)).2 (1 - t.area) 0 q).2.2⟩ := (by unfold keep1; simp only []; rw [if_pos hf])
        refine s_region0 (fun ops => ?_)
        refine o_rd (rd_move rfl) rfl ?_
        refine o_rd (rd_move rfl) rfl ?_
        refine o_rd (rd_ldA rfl (by repeat' first | exact List.Mem.head _ | apply List.Mem.tail | apply List.mem_append_right) (by first | exact cut_vb | rfl)) rfl ?_
        refine c_is rfl (put_fn (t := t) (c := (eraseC s.c (1 - t.area)).2) ((erase_aC _ _).trans h1) (Int.le_refl 0)) (by repeat (first | exact Split.nil | (apply Split.cons; next => repeat (first | exact Pick.here | apply Pick.there | apply Pick.app)) | (apply Split.chunk; next => repeat (first | exact PickL.here | exact PickL.last | apply PickL.there | apply PickL.app)) | (apply Split.lst; repeat (first | exact PickL.here | exact PickL.last | apply PickL.there | apply PickL.app)))) rfl (by repeat (first | exact Ap.nil | apply Ap.cons | apply Ap.app | exact Ap.one)) ?_
        refine o_rd (rd_move rfl) rfl ?_
        refine o_rd (rd_extract rfl rfl) rfl ?_
        refine o_rd (rd_extract rfl rfl) rfl ?_
        refine o_rd (rd_assign rfl) rfl ?_
        refine o_rd (rd_assign rfl) rfl ?_
        refine o_nil ?_
        refine n_blk ?_
        refine n_blk ?_
        refine n_K ?_
        refine s_region0 (fun ops => ?_)
        refine o_rd (rd_move rfl) rfl ?_
        refine o_rd (rd_add64 rfl rfl (by omega)) rfl ?_
        refine o_rd (rd_assign rfl) rfl ?_
        refine o_nil ?_
        refine n_K ?_
        exact ⟨(k + 1, keep1 t.area q s), ⟨by simp only; omega, by simp only; rw [keep1_aC]; exact h1, by simp only; exact keep1_ge h2, h3⟩, (by simp only; omega), (by rw [hk1]; exact (by repeat' first | exact Keep.nil | refine Keep.cons rfl ?_)), (by repeat' first | exact Keep.nil | refine Keep.cons rfl ?_), _, (by rw [hk1]; exact (by repeat (first | exact Split.nil | (apply Split.cons; next => repeat (first | exact Pick.here | apply Pick.there | apply Pick.app)) | (apply Split.chunk; next => repeat (first | exact PickL.here | exact PickL.last | apply PickL.there | apply PickL.app)) | (apply Split.lst; repeat (first | exact PickL.here | exact PickL.last | apply PickL.there | apply PickL.app)))))⟩
      · skip
        have hf : ¬ (eraseC s.c (1 - t.area)).1 = 0 := (by simpa using c59)
        refine s_seq ?_
        refine s_region0 (fun ops => ?_)
        refine o_rd (rd_bin rfl rfl rfl) rfl ?_
        refine o_rd (rd_assign rfl) rfl ?_
        refine o_nil ?_
        refine n_K ?_
        refine s_cond rfl (fun c68 => ?_) (fun c68 => ?_)
        · skip
          have hf3 : (eraseC s.c (1 - t.area)).1 = 33 := (by simpa using c68)
          have hk1 : keep1 t.area q s = ⟨1 - t.area, s.next, s.e, (eraseC s.c (1 - t.area)).2⟩ := (by unfold keep1; simp only []; rw [if_neg hf, if_pos hf3])
          refine s_skip ?_
          refine n_blk ?_
          refine n_blk ?_
          refine n_K ?_
          refine s_region0 (fun ops => ?_)
          refine o_rd (rd_move rfl) rfl ?_
          refine o_rd (rd_add64 rfl rfl (by omega)) rfl ?_
          refine o_rd (rd_assign rfl) rfl ?_
          refine o_nil ?_
          refine n_K ?_
          exact ⟨(k + 1, keep1 t.area q s), ⟨by simp only; omega, by simp only; rw [keep1_aC]; exact h1, by simp only; exact keep1_ge h2, h3⟩, (by simp only; omega), (by rw [hk1]; exact (by repeat' first | exact Keep.nil | refine Keep.cons rfl ?_)), (by repeat' first | exact Keep.nil | refine Keep.cons rfl ?_), _, (by rw [hk1]; exact (by repeat (first | exact Split.nil | (apply Split.cons; next => repeat (first | exact Pick.here | apply Pick.there | apply Pick.app)) | (apply Split.chunk; next => repeat (first | exact PickL.here | exact PickL.last | apply PickL.there | apply PickL.app)) | (apply Split.lst; repeat (first | exact PickL.here | exact PickL.last | apply PickL.there | apply PickL.app)))))⟩
        · skip
          have hf3 : ¬ (eraseC s.c (1 - t.area)).1 = 33 := (by simpa using c68)
          have hk1 : keep1 t.area q s = ⟨1 - t.area, s.next, (eraseC s.c (1 - t.area)).1, (eraseC s.c (1 - t.area)).2⟩ := (by unfold keep1; simp only []; rw [if_neg hf, if_neg hf3])
          refine s_region0 (fun ops => ?_)
          refine o_rd (rd_move rfl) rfl ?_
          refine o_rd (rd_assign rfl) rfl ?_
          refine o_nil ?_
          refine n_blk ?_
          refine n_blk ?_
          refine n_K ?_
          refine s_region0 (fun ops => ?_)
          refine o_rd (rd_move rfl) rfl ?_
          refine o_rd (rd_add64 rfl rfl (by omega)) rfl ?_
          refine o_rd (rd_assign rfl) rfl ?_
          refine o_nil ?_
          refine n_K ?_
          exact ⟨(k + 1, keep1 t.area q s), ⟨by simp only; omega, by simp only; rw [keep1_aC]; exact h1, by simp only; exact keep1_ge h2, h3⟩, (by simp only; omega), (by rw [hk1]; exact (by repeat' first | exact Keep.nil | refine Keep.cons rfl ?_)), (by repeat' first | exact Keep.nil | refine Keep.cons rfl ?_), _, (by rw [hk1]; exact (by repeat (first | exact Split.nil | (apply Split.cons; next => repeat (first | exact Pick.here | apply Pick.there | apply Pick.app)) | (apply Split.chunk; next => repeat (first | exact PickL.here | exact PickL.last | apply PickL.there | apply PickL.app)) | (apply Split.lst; repeat (first | exact PickL.here | exact PickL.last | apply PickL.there | apply PickL.app)))))⟩
    · skip
      have hend : keepS t.ts u.list l.list c = s := (by rw [← h3]; rcases Nat.lt_or_ge k 4 with hk | hk; (rw [show 4 - k = (4 - (k + 1)) + 1 by omega, keepGo, if_neg (by intro e; simp [hk, e] at c43; omega)]); (rw [show 4 - k = 0 by omega, keepGo]))
      refine s_exit ?_
      refine x_K ?_
      refine x_K ?_
      refine x_blk ?_
      refine n_K ?_
      refine s_seq ?_
      refine s_seq ?_
      refine s_region0 (fun ops => ?_)
      refine o_rd (rd_move rfl) rfl ?_
      refine o_rd (rd_bin rfl rfl rfl) rfl ?_
      refine o_nil ?_
      refine n_K ?_
      refine s_cond rfl (fun c71 => ?_) (fun c71 => ?_)
      · skip
        have hres : keepC t.ts u.list l.list c = (s.e, t.ts, s.c) := (by unfold keepC; simp only []; rw [hend, if_pos (by simpa using c71)])
        refine s_seq ?_
        refine s_region0 (fun ops => ?_)
        refine o_rd (rd_move rfl) rfl ?_
        refine o_rd (rd_assign rfl) rfl ?_
        refine o_nil ?_
        refine n_K ?_
        refine s_ret ?_
        refine r_K ?_
        exact leaf_r (rets1 Tryz.results50 (rv_tmp rfl)) (by refine ⟨t, rfl, ?_, rfl, ?_, ?_, ?_⟩ <;> rw [hres]; (intro h; simp at h; simp [h] at c71); (intro _; rfl)) (by rw [hres]; exact (by repeat (first | exact Split.nil | (apply Split.cons; next => repeat (first | exact Pick.here | apply Pick.there | apply Pick.app)) | (apply Split.chunk; next => repeat (first | exact PickL.here | exact PickL.last | apply PickL.there | apply PickL.app)) | (apply Split.lst; repeat (first | exact PickL.here | exact PickL.last | apply PickL.there | apply PickL.app)))))
      · skip
        have hz : s.e = 0 := (by simpa using c71)
        have hres : keepC t.ts u.list l.list c = (0, ⟨u.list, l.list, t.version + 1, s.area, s.next, s.next - 1⟩, s.c) := (by unfold keepC; simp only []; rw [hend, if_neg (by rw [hz]; simp)]; rfl)
        refine s_skip ?_
        refine n_K ?_
        refine s_seq ?_
        refine s_drawM [] [0, 1, 2, 3, 4, 6, 7, 8, 11, 12, 13, 14] [[(5, false), (9, false), (10, false), (15, false), (16, false), (17, true)], [(18, false)], [(19, false)], [(20, true)], [(21, false)], [(22, false)], [(23, true)], [(24, false)], [(25, false)], [(26, true)], [(27, false)], [(28, false)], [(29, true)]] (by kernel_rfl) rfl rfl (fun ops w0 H0 y => ?_)
        unfold SPre
        refine x_rd (rd_move rfl) rfl ?_
        refine x_rd (rd_move rfl) rfl ?_
        refine x_rd (rd_move rfl) rfl ?_
        refine x_rd (rd_move rfl) rfl ?_
        refine x_rd (rd_move rfl) rfl ?_
        refine x_rd (rd_move rfl) rfl ?_
        refine x_rd (rd_nil rfl) rfl ?_
        refine x_rd (rd_field rfl) rfl ?_
        refine x_rd (rd_move rfl) rfl ?_
        refine x_rd (rd_move rfl) rfl ?_
        refine x_rd (rd_move rfl) rfl ?_
        refine x_rd (show Rd _ _ _ _ (.int .i64 (s.next - 1)) from rd_sub64 rfl rfl (by omega)) rfl ?_
        refine x_nil ?_
        refine pc_ph ([(b3, true, C [u.val, l.val] tPl)]) ([(t.b, 3, wv t.version)]) (by repeat (first | exact Split.nil | (apply Split.cons; next => repeat (first | exact Pick.here | apply Pick.there | apply Pick.app)) | (apply Split.chunk; next => repeat (first | exact PickL.here | exact PickL.last | apply PickL.there | apply PickL.app)) | (apply Split.lst; repeat (first | exact PickL.here | exact PickL.last | apply PickL.there | apply PickL.app)))) (hasCl_cons (r := true) (by repeat' first | exact List.Mem.head _ | apply List.Mem.tail | apply List.mem_append_right) rfl hasCl_nil) ?_
        refine xc_rd (rd_ldA rfl (by repeat' first | exact List.Mem.head _ | apply List.Mem.tail | apply List.mem_append_right) rfl) rfl ?_
        refine xc_ld rfl (by repeat' first | exact List.Mem.head _ | apply List.Mem.tail | apply List.mem_append_right) rfl ?_
        refine xc_rd (rd_inc64 rfl rfl) rfl ?_
        refine xc_rd (rd_nil rfl) rfl ?_
        refine xc_rd (rd_field rfl) rfl ?_
        refine xc_so ?_
        refine o_store rfl rfl (by repeat' first | exact Upd.here | apply Upd.there | apply Upd.app) rfl rfl rfl ?_
        refine o_nil ⟨rfl, ⟨_, (by repeat (first | exact Split.nil | (apply Split.cons; next => repeat (first | exact Pick.here | apply Pick.there | apply Pick.app)) | (apply Split.chunk; next => repeat (first | exact PickL.here | exact PickL.last | apply PickL.there | apply PickL.app)) | (apply Split.lst; repeat (first | exact PickL.here | exact PickL.last | apply PickL.there | apply PickL.app))))⟩, (hasCl_cons (r := true) (by repeat' first | exact List.Mem.head _ | apply List.Mem.tail | apply List.mem_append_right) rfl hasCl_nil), ?_⟩
        refine xc_nil ?_
        refine p_all ?_
        refine x_rd (rd_nil rfl) rfl ?_
        refine x_nil ?_
        refine p_all ?_
        refine x_rd (rd_field rfl) rfl ?_
        refine x_nil ?_
        refine p_none ?_
        refine x_so ?_
        refine o_store rfl rfl (by repeat' first | exact Upd.here | apply Upd.there | apply Upd.app) rfl rfl rfl ?_
        refine o_nil ⟨rfl, ⟨_, (by repeat (first | exact Split.nil | (apply Split.cons; next => repeat (first | exact Pick.here | apply Pick.there | apply Pick.app)) | (apply Split.chunk; next => repeat (first | exact PickL.here | exact PickL.last | apply PickL.there | apply PickL.app)) | (apply Split.lst; repeat (first | exact PickL.here | exact PickL.last | apply PickL.there | apply PickL.app))))⟩, ?_⟩
        refine x_nil ?_
        refine p_all ?_
        refine x_rd (rd_nil rfl) rfl ?_
        refine x_nil ?_
        refine p_all ?_
        refine x_rd (rd_field rfl) rfl ?_
        refine x_nil ?_
        refine p_none ?_
        refine x_so ?_
        refine o_store rfl rfl (by repeat' first | exact Upd.here | apply Upd.there | apply Upd.app) rfl rfl rfl ?_
        refine o_nil ⟨rfl, ⟨_, (by repeat (first | exact Split.nil | (apply Split.cons; next => repeat (first | exact Pick.here | apply Pick.there | apply Pick.app)) | (apply Split.chunk; next => repeat (first | exact PickL.here | exact PickL.last | apply PickL.there | apply PickL.app)) | (apply Split.lst; repeat (first | exact PickL.here | exact PickL.last | apply PickL.there | apply PickL.app))))⟩, ?_⟩
        refine x_nil ?_
        refine p_all ?_
        refine x_rd (rd_nil rfl) rfl ?_
        refine x_nil ?_
        refine p_all ?_
        refine x_rd (rd_field rfl) rfl ?_
        refine x_nil ?_
        refine p_none ?_
        refine x_so ?_
        refine o_store rfl rfl (by repeat' first | exact Upd.here | apply Upd.there | apply Upd.app) rfl rfl rfl ?_
        refine o_nil ⟨rfl, ⟨_, (by repeat (first | exact Split.nil | (apply Split.cons; next => repeat (first | exact Pick.here | apply Pick.there | apply Pick.app)) | (apply Split.chunk; next => repeat (first | exact PickL.here | exact PickL.last | apply PickL.there | apply PickL.app)) | (apply Split.lst; repeat (first | exact PickL.here | exact PickL.last | apply PickL.there | apply PickL.app))))⟩, ?_⟩
        refine x_nil ?_
        refine p_all ?_
        refine x_rd (rd_nil rfl) rfl ?_
        refine x_nil ?_
        refine p_all ?_
        refine x_rd (rd_field rfl) rfl ?_
        refine x_nil ?_
        refine p_none ?_
        refine x_so ?_
        refine o_store rfl rfl (by repeat' first | exact Upd.here | apply Upd.there | apply Upd.app) rfl rfl rfl ?_
        refine o_nil ⟨rfl, ⟨_, (by repeat (first | exact Split.nil | (apply Split.cons; next => repeat (first | exact Pick.here | apply Pick.there | apply Pick.app)) | (apply Split.chunk; next => repeat (first | exact PickL.here | exact PickL.last | apply PickL.there | apply PickL.app)) | (apply Split.lst; repeat (first | exact PickL.here | exact PickL.last | apply PickL.there | apply PickL.app))))⟩, ?_⟩
        refine x_nil ?_
        refine p_end ?_
        refine n_K ?_
        refine s_seq ?_
        refine s_region0 (fun ops => ?_)
        refine o_rd (rd_assign rfl) rfl ?_
        refine o_nil ?_
        refine n_K ?_
        refine s_ret ?_
        exact leaf_r (rets1 Tryz.results50 (rv_tmp rfl)) (by refine ⟨⟨t.b, u, l, t.version + 1, s.area, s.next, s.next - 1⟩, rfl, ?_, rfl, ?_, ?_, ?_⟩ <;> rw [hres]; (rfl); (intro _; exact ⟨rfl, rfl⟩); (intro h; exact absurd rfl h)) (by rw [hres]; exact (by repeat (first | exact Split.nil | (apply Split.cons; next => repeat (first | exact Pick.here | apply Pick.there | apply Pick.app)) | (apply Split.chunk; next => repeat (first | exact PickL.here | exact PickL.last | apply PickL.there | apply PickL.app)) | (apply Split.lst; repeat (first | exact PickL.here | exact PickL.last | apply PickL.there | apply PickL.app)))))
@[irreducible] def tabH (a : Nat) (t : Tab) : Hp := (t.b, true, C (tabC a t) tTb) :: (t.u.hp tI ++ (t.l.hp tI ++ []))
theorem tabH_eq (a : Nat) (t : Tab) : tabH a t = (t.b, true, C (tabC a t) tTb) :: (t.u.hp tI ++ (t.l.hp tI ++ [])) := by unfold tabH; rfl
/-- A plan is kept, or it isn't: the table is the new one, or the elder. -/
theorem keep2_fn {t : Tab} {u l : Sl Int} (ha : c.aC = a) (hu : u.list.length ≤ 1000) (hl : l.list.length ≤ 1000) (hn : 0 ≤ t.next) (har : 0 ≤ t.area ∧ t.area ≤ 1) :
    Does Tryz.prog 50 [ptr t.b, .agg #[u.val, l.val]] ((t.b, true, C (tabC a t) tTb) :: (u.hp tI ++ (l.hp tI ++ (chH c ++ []))))
      (fun v H => (∃ t' : Tab, t'.b = t.b ∧ t'.u = u ∧ t'.l = l ∧ v = .int .i64 0 ∧ H = (t'.b, true, C (tabC a t') tTb) :: (u.hp tI ++ (l.hp tI ++ (chH (keepC t.ts u.list l.list c).2.2 ++ []))) ∧ (keepC t.ts u.list l.list c).1 = 0 ∧ t'.ts = (keepC t.ts u.list l.list c).2.1) ∨
        (∃ e, v = .int .i64 e ∧ e ≠ 0 ∧ H = (t.b, true, C (tabC a t) tTb) :: (u.hp tI ++ (l.hp tI ++ (chH (keepC t.ts u.list l.list c).2.2 ++ []))) ∧ (keepC t.ts u.list l.list c).1 = e ∧ t.ts = (keepC t.ts u.list l.list c).2.1)) := by
  refine (keep_fn ha hu hl hn har).mono fun v H ⟨t', h1, h2, h3, h4, h5, h6⟩ => ?_
  by_cases h : (keepC t.ts u.list l.list c).1 = 0
  · exact .inl ⟨t', h1, (h5 h).1, (h5 h).2, by rw [h2, h], h3, h, h4⟩
  · have := h6 h
    subst this
    exact .inr ⟨_, h2, h, h3, rfl, h4⟩
end
end Go.Proofs.YtdfidkhbldedlaaGreat
