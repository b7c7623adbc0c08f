/- What the laws of disks stand on: contracts of the program's functions, and plain lemmas; the conditions are the statement's own: part 6. -/
import Derived.Test.YtdfidkhbldedlaaGreatJ4
import Derived.Test.YtdfidkhbldedlaaGreatJ5
import Derived.Test.YtdfidkhbldedlaaGreatJ3
section
/- Walks of the laws of disks: pages in order; once no spare is left. -/
namespace Go.Proofs.YtdfidkhbldedlaaGreat
open Go.K
set_option linter.unusedVariables false
set_option linter.unusedSimpArgs false
instance ent9 : Ent Tryz.prog 9 := ⟨fun _ _ => by kernel_rfl⟩
set_option maxRecDepth 20000
structure OrdI (b : Nat) (t : TS) (c : Chip) (nx k : Nat) : Prop where
  dv : ∃ V, DV c t 16 k V ∧ (V b).next = nx
  af : c.after < 0
  pf : c.pf.list = []
  wf : c.wf.list = []
  lo : t.lost.length = 0
theorem OrdI.mono {b : Nat} {t : TS} {c : Chip} {nx k k' : Nat} (h : OrdI b t c nx k) (hk : k ≤ k') : OrdI b t c nx k' := ⟨by obtain ⟨V, h1, h2⟩ := h.dv; exact ⟨V, h1.mono hk, h2⟩, h.af, h.pf, h.wf, h.lo⟩
theorem OrdI.prog {b : Nat} {t t' : TS} {c c' : Chip} {nx k : Nat} {j e : Int} {p : Pg} (h : OrdI b t c nx k) (hk : k ≤ 10000) (hb : b < 10) (hnx : nx < 8) (hr : ProgD 16 (b : Nat) j p c t (e, t', c')) :
    ((j < 0 ∨ 7 < j) → e = 1 ∧ OrdI b t' c' nx k) ∧ (0 ≤ j ∧ j ≤ 7 → j ≠ nx → e = 32 ∧ OrdI b t' c' nx k) ∧ (j = nx → e = 0 ∧ OrdI b t' c' (nx + 1) (k + 20)) := by
  obtain ⟨V, hd, hn⟩ := h.dv
  refine ⟨fun hj => ?_, fun hj hne => ?_, fun hj => ?_⟩
  · have := prog_arg hd (.inr (by omega)) hr
    simp only [Prod.mk.injEq] at this
    obtain ⟨rfl, rfl, rfl⟩ := this
    exact ⟨rfl, h⟩
  · obtain ⟨m, rfl⟩ : ∃ m : Nat, j = m := ⟨j.toNat, by omega⟩
    have := prog_ord hd (b := b) (j := m) (by omega) (by omega) (by rw [hn]; omega) hr
    simp only [Prod.mk.injEq] at this
    obtain ⟨rfl, rfl, rfl⟩ := this
    exact ⟨rfl, h⟩
  · subst hj
    have hp0 := fp_nil h.pf
    have hw0 := fw_nil h.wf
    obtain ⟨q1, q2, q3, q4, f⟩ := prog_well hd (by omega) (by omega) h.af (by rw [h.pf]; rfl) (b := b) (by omega) hnx hn hr
    simp only at q1 q2 q3 q4 f
    exact ⟨q1, ⟨_, by rw [q2]; exact q3, by rw [upV_at]; show (nx : Int) + 1 = _; omega⟩, by rw [(f.pos h.af).1]; exact h.af, by rw [f.pf]; exact h.pf, by rw [f.wf]; exact h.wf, by rw [q2]; exact h.lo⟩
theorem OrdI.erase {b : Nat} {t t' : TS} {c c' : Chip} {nx k : Nat} {e : Int} (h : OrdI b t c nx k) (hk : k ≤ 10000) (hb : b < 10) (hr : EraseD 16 (b : Nat) c t (e, t', c')) : e = 0 ∧ OrdI b t' c' 0 (k + 20) := by
  obtain ⟨V, hd, hn⟩ := h.dv
  have hp0 := fp_nil h.pf
  have hw0 := fw_nil h.wf
  have hlo := h.lo
  obtain ⟨f, v, hv, hc⟩ := erase_view hd (by omega) (by omega) (b := b) (by omega) hr
  simp only at hc f
  rcases hc with ⟨q1, q2, q3, q4⟩ | ⟨q1, q2, q3, q4⟩ | ⟨_, _, q3, _⟩
  · exact ⟨q1, ⟨_, q2, by rw [upV_at]; exact q3⟩, by rw [(f.pos h.af).1]; exact h.af, by rw [f.pf]; exact h.pf, by rw [f.wf]; exact h.wf, by omega⟩
  · omega
  · exact absurd h.af q3
theorem New0.ord {d : Dsk} (h : New0 d 16) (b : Nat) : OrdI b d.t.ts d.c 0 0 := ⟨⟨_, h.dd, rfl⟩, h.af, h.pf, h.wf, h.lost⟩
theorem order_fn {pg : Sl Int} {bl : Int} : Does Tryz.prog 9 [pg.val, .int .i64 bl] (pg.hp tI ++ []) (fun v H => v = .bool true) := by
  refine fn_enter (n := 62) Tryz.func9 Tryz.ntmps9 rfl (Nat.le_of_ble_eq_true rfl) <| s_seq <| s_region0 fun ops => oA rfl <| o_nil <| n_K <| s_seq <| s_seq <| s_region0 fun ops => ?_
  refine c_is rfl (speaks7_fn) sP rfl aQ ?_
  refine oR (rd_not rfl) <| o_nil <| n_K ?_
  refine s_condF rfl ?_
  refine s_skip <| n_K <| s_seq <| s_seq <| s_region0 fun ops => oM rfl <| oR (rd_lenS rfl) <| oR (rd_bin rfl rfl rfl) <| o_nil <| n_K ?_
  refine s_cond rfl (fun c16 => ?_) (fun c16 => ?_)
  · simp only [decide_eq_true_eq, decide_eq_false_iff_not] at c16
    obtain ⟨kk, hkk, hkl⟩ := and_ffff bl
    refine s_seq <| s_region0 fun ops => oA rfl <| o_nil <| n_K <| s_ret <| r_K ?_
    exact leaf_r (rets1 Tryz.results9 (rv_tmp rfl)) (by rfl) sP
  · simp only [decide_eq_true_eq, decide_eq_false_iff_not] at c16
    obtain ⟨kk, hkk, hkl⟩ := and_ffff bl
    refine s_skip <| n_K <| s_seq <| s_region0 fun ops => ?_
    refine c_ex rfl (dk_laid (m := 16) (by decide) fx16) sP rfl fun v17 Y17 h17 => ?_
    obtain ⟨d, rfl, rfl, hd⟩ := h17
    refine so_ap aQ ?_
    refine oA rfl <| oA rfl <| o_nil <| n_K <| s_seq <| s_region0 fun ops => oM rfl ?_
    refine oR (show Rd _ _ _ _ (.int .i64 (kk : Nat)) from by (rw [← hkk]; exact rd_bin rfl rfl rfl)) ?_
    refine oR (rd_remN (i := kk) (m := 10) rfl rfl (by omega)) ?_
    refine oA rfl <| o_nil <| n_K <| s_seq <| s_seq <| s_region0 fun ops => oM rfl <| oR (rd_eqNil rfl rfl) <| o_nil <| n_K ?_
    refine s_condF rfl ?_
    refine s_skip <| n_K <| s_seq <| s_seq <| s_region0 fun ops => oM rfl <| oR (rd_lenS rfl) <| oM rfl <| o_nil <| n_K <| s_block ?_
    refine s_loop2 [5, 7, 23, 24] kQ (fun (st : Nat × Nat × Tab × Chip) => [(25, .int .i64 st.1), (6, .int .i64 st.2.1)]) (fun (st : Nat × Nat × Tab × Chip) => dkH ⟨d.dk, st.2.2.1, st.2.2.2⟩ ++ (pg.hp tI ++ [])) (fun (st : Nat × Nat × Tab × Chip) => st.1 ≤ pg.list.length ∧ st.2.1 < 8 ∧ OrdI (kk % 10) st.2.2.1.ts st.2.2.2 st.2.1 (40 * st.1)) (fun (st : Nat × Nat × Tab × Chip) => pg.list.length - st.1) ((0, 0, d.t, d.c)) ⟨Nat.zero_le _, Nat.zero_lt_succ 7, hd.ord _⟩ kP sP ?_
    rintro ⟨i, nx, t1, c1⟩ ⟨g0, g1, g2⟩
    simp only at g0 g1 g2
    refine s_seq <| s_region0 fun ops => oR (rd_bin rfl rfl rfl) <| o_nil <| n_K <| s_seq ?_
    refine s_cond rfl (fun c26 => ?_) (fun c26 => ?_)
    · simp only [decide_eq_true_eq, decide_eq_false_iff_not] at c26
      obtain ⟨z, hg⟩ : ∃ z, pg.list[i]? = some z := ⟨_, List.getElem?_eq_getElem (by omega)⟩
      refine s_skip <| n_K <| s_seq <| s_block <| s_seq <| s_region0 fun ops => oM rfl ?_
      refine oR (rd_ixSl rfl rfl (by omega)) ?_
      refine oR (rd_ldSl (o := 0) rfl pL hg rfl rfl) ?_
      refine oA rfl <| oA rfl <| o_nil <| n_K <| s_seq <| s_region0 fun ops => oM rfl <| oM rfl <| oM rfl <| oM rfl ?_
      refine oR (show Rd _ _ _ _ (bv (byteI (i : Nat))) from by (unfold bv; rw [← byte_i64]; exact rd_convI rfl)) ?_
      refine oM rfl ?_
      refine c_is rfl (page_fn7 (b := byteI (i : Nat)) (k := z)) sP rfl aQ ?_
      refine c_ex rfl (dk_program (d := ⟨d.dk, t1, c1⟩) g2.dv.choose_spec.1 (b := (kk % 10 : Nat)) (j := z) (p := pageL (byteI (i : Nat)) z)) sP rfl fun v37 Y37 h37 => ?_
      obtain ⟨t', c', e, rfl, rfl, hP⟩ := h37
      obtain ⟨o1, o2, o3⟩ := g2.prog (by omega) (by omega) g1 hP
      refine so_ap aQ ?_
      refine oA rfl <| o_nil <| n_K <| s_seq <| s_region0 fun ops => oA rfl <| o_nil <| n_K <| s_seq <| s_seq ?_
      refine s_region [(2, 40)] rfl fun ops y => ?_
      refine oM rfl <| oR (rd_bin rfl rfl rfl) <| oM rfl ?_
      refine' o_or (j := 2) (k := 2) y rfl rfl rfl rfl rfl rfl rfl (fun hg40 => ?_) ?_
      rotate_left
      · try (simp at hg40; show _)
        refine o_g y rfl rfl ?_
        refine oM rfl ?_
        refine o_g y rfl rfl ?_
        refine oR (rd_bin rfl rfl rfl) ?_
        exact o_nil ⟨rfl, rfl, ⟨_, sP⟩⟩
      refine o_nil <| n_K ?_
      refine s_cond rfl (fun c43 => ?_) (fun c43 => ?_)
      · simp only [Bool.or_eq_true, Bool.or_eq_false_iff, decide_eq_true_eq, decide_eq_false_iff_not] at c43
        obtain ⟨rfl, o4⟩ := o1 (by omega)
        refine s_region0 fun ops => oA rfl <| o_nil <| n_K <| s_seq <| s_seq <| s_region0 fun ops => oM rfl <| oM rfl <| oR (rd_bin rfl rfl rfl) <| o_nil <| n_K ?_
        refine s_cond rfl (fun c51 => ?_) (fun c51 => ?_)
        · skip
          try (exfalso; (simp at c51); done)
          all_goals
            refine s_seq <| s_region0 fun ops => oA rfl <| o_nil <| n_K <| s_ret <| r_K <| r_blk <| r_K <| r_K <| r_blk <| r_K ?_
            exact leaf_r (rets1 Tryz.results9 (rv_tmp rfl)) (by rfl) sP
        · skip
          refine s_skip <| n_K <| s_seq <| s_region0 fun ops => oM rfl <| oR (rd_bin rfl rfl rfl) <| o_nil <| n_K ?_
          refine s_cond rfl (fun c53 => ?_) (fun c53 => ?_)
          · simp only [decide_eq_true_eq, decide_eq_false_iff_not] at c53
            try (exfalso; (omega); done)
            all_goals
              refine s_seq <| s_seq <| s_region0 fun ops => oM rfl <| oM rfl ?_
              refine c_ex rfl (dk_erase (d := ⟨d.dk, t', c'⟩) o6.dv.choose_spec.1 (b := (kk % 10 : Nat))) sP rfl fun v56 Y56 h56 => ?_
              obtain ⟨t2, c2, e2, rfl, rfl, hE⟩ := h56
              obtain ⟨rfl, o5⟩ := o6.erase (by omega) (by omega) hE
              refine so_ap aQ ?_
              refine oR (rd_bin rfl rfl rfl) <| o_nil <| n_K ?_
              refine s_cond rfl (fun c57 => ?_) (fun c57 => ?_)
              · skip
                try (exfalso; (simp at c57); done)
                all_goals
                  refine s_seq <| s_region0 fun ops => oA rfl <| o_nil <| n_K <| s_ret <| r_K <| r_blk <| r_K <| r_K <| r_blk <| r_K ?_
                  exact leaf_r (rets1 Tryz.results9 (rv_tmp rfl)) (by rfl) sP
              · skip
                refine s_skip <| n_K <| s_region0 fun ops => oA rfl <| o_nil <| n_blk <| n_K <| s_region0 fun ops => ?_
                refine oR (rd_add64 rfl rfl (by omega)) ?_
                refine oM rfl <| o_nil <| n_K ?_
                first | exact ⟨(i + 1, 0, t2, c2), ⟨by simp only; omega, Nat.zero_lt_succ 7, o5.mono (by simp only; omega)⟩, by simp only; omega, lZ⟩ | exact ⟨(i + 1, nx, t', c'), ⟨by simp only; omega, g1, o4.mono (by simp only; omega)⟩, by simp only; omega, lZ⟩ | exact ⟨(i + 1, nx + 1, t', c'), ⟨by simp only; omega, (by simp only; omega), o6.mono (by simp only; omega)⟩, by simp only; omega, lZ⟩
          · simp only [decide_eq_true_eq, decide_eq_false_iff_not] at c53
            refine s_skip <| n_blk <| n_K <| s_region0 fun ops => ?_
            refine oR (rd_add64 rfl rfl (by omega)) ?_
            refine oM rfl <| o_nil <| n_K ?_
            first | exact ⟨(i + 1, 0, t2, c2), ⟨by simp only; omega, Nat.zero_lt_succ 7, o5.mono (by simp only; omega)⟩, by simp only; omega, lZ⟩ | exact ⟨(i + 1, nx, t', c'), ⟨by simp only; omega, g1, o4.mono (by simp only; omega)⟩, by simp only; omega, lZ⟩ | exact ⟨(i + 1, nx + 1, t', c'), ⟨by simp only; omega, (by simp only; omega), o6.mono (by simp only; omega)⟩, by simp only; omega, lZ⟩
      · simp only [Bool.or_eq_true, Bool.or_eq_false_iff, decide_eq_true_eq, decide_eq_false_iff_not] at c43
        refine s_seq <| s_region0 fun ops => oM rfl <| oM rfl <| oR (rd_bin rfl rfl rfl) <| o_nil <| n_K ?_
        refine s_cond rfl (fun c46 => ?_) (fun c46 => ?_)
        · simp only [decide_eq_true_eq, decide_eq_false_iff_not, ne_eq, Decidable.not_not, Bool.not_eq_true', Bool.not_eq_false'] at c46
          obtain ⟨rfl, o4⟩ := o2 (by omega) (by simpa using c46)
          refine s_region0 fun ops => oA rfl <| o_nil <| n_K <| s_seq <| s_seq <| s_region0 fun ops => oM rfl <| oM rfl <| oR (rd_bin rfl rfl rfl) <| o_nil <| n_K ?_
          refine s_cond rfl (fun c51 => ?_) (fun c51 => ?_)
          · skip
            try (exfalso; (simp at c51); done)
            all_goals
              refine s_seq <| s_region0 fun ops => oA rfl <| o_nil <| n_K <| s_ret <| r_K <| r_blk <| r_K <| r_K <| r_blk <| r_K ?_
              exact leaf_r (rets1 Tryz.results9 (rv_tmp rfl)) (by rfl) sP
          · skip
            refine s_skip <| n_K <| s_seq <| s_region0 fun ops => oM rfl <| oR (rd_bin rfl rfl rfl) <| o_nil <| n_K ?_
            refine s_cond rfl (fun c53 => ?_) (fun c53 => ?_)
            · simp only [decide_eq_true_eq, decide_eq_false_iff_not] at c53
              try (exfalso; (omega); done)
              all_goals
                refine s_seq <| s_seq <| s_region0 fun ops => oM rfl <| oM rfl ?_
                refine c_ex rfl (dk_erase (d := ⟨d.dk, t', c'⟩) o6.dv.choose_spec.1 (b := (kk % 10 : Nat))) sP rfl fun v56 Y56 h56 => ?_
                obtain ⟨t2, c2, e2, rfl, rfl, hE⟩ := h56
                obtain ⟨rfl, o5⟩ := o6.erase (by omega) (by omega) hE
                refine so_ap aQ ?_
                refine oR (rd_bin rfl rfl rfl) <| o_nil <| n_K ?_
                refine s_cond rfl (fun c57 => ?_) (fun c57 => ?_)
                · skip
                  try (exfalso; (simp at c57); done)
                  all_goals
                    refine s_seq <| s_region0 fun ops => oA rfl <| o_nil <| n_K <| s_ret <| r_K <| r_blk <| r_K <| r_K <| r_blk <| r_K ?_
                    exact leaf_r (rets1 Tryz.results9 (rv_tmp rfl)) (by rfl) sP
                · skip
                  refine s_skip <| n_K <| s_region0 fun ops => oA rfl <| o_nil <| n_blk <| n_K <| s_region0 fun ops => ?_
                  refine oR (rd_add64 rfl rfl (by omega)) ?_
                  refine oM rfl <| o_nil <| n_K ?_
                  first | exact ⟨(i + 1, 0, t2, c2), ⟨by simp only; omega, Nat.zero_lt_succ 7, o5.mono (by simp only; omega)⟩, by simp only; omega, lZ⟩ | exact ⟨(i + 1, nx, t', c'), ⟨by simp only; omega, g1, o4.mono (by simp only; omega)⟩, by simp only; omega, lZ⟩ | exact ⟨(i + 1, nx + 1, t', c'), ⟨by simp only; omega, (by simp only; omega), o6.mono (by simp only; omega)⟩, by simp only; omega, lZ⟩
            · simp only [decide_eq_true_eq, decide_eq_false_iff_not] at c53
              refine s_skip <| n_blk <| n_K <| s_region0 fun ops => ?_
              refine oR (rd_add64 rfl rfl (by omega)) ?_
              refine oM rfl <| o_nil <| n_K ?_
              first | exact ⟨(i + 1, 0, t2, c2), ⟨by simp only; omega, Nat.zero_lt_succ 7, o5.mono (by simp only; omega)⟩, by simp only; omega, lZ⟩ | exact ⟨(i + 1, nx, t', c'), ⟨by simp only; omega, g1, o4.mono (by simp only; omega)⟩, by simp only; omega, lZ⟩ | exact ⟨(i + 1, nx + 1, t', c'), ⟨by simp only; omega, (by simp only; omega), o6.mono (by simp only; omega)⟩, by simp only; omega, lZ⟩
        · simp only [decide_eq_true_eq, decide_eq_false_iff_not, ne_eq, Decidable.not_not, Bool.not_eq_true', Bool.not_eq_false'] at c46
          obtain ⟨rfl, o6⟩ := o3 (by simpa using c46)
          refine s_region0 fun ops => oM rfl ?_
          refine oR (rd_add64 rfl rfl (by simp only; omega)) ?_
          refine oA rfl <| o_nil <| n_K <| s_seq <| s_seq <| s_region0 fun ops => oM rfl <| oM rfl <| oR (rd_bin rfl rfl rfl) <| o_nil <| n_K ?_
          refine s_cond rfl (fun c51 => ?_) (fun c51 => ?_)
          · skip
            try (exfalso; (simp at c51); done)
            all_goals
              refine s_seq <| s_region0 fun ops => oA rfl <| o_nil <| n_K <| s_ret <| r_K <| r_blk <| r_K <| r_K <| r_blk <| r_K ?_
              exact leaf_r (rets1 Tryz.results9 (rv_tmp rfl)) (by rfl) sP
          · skip
            refine s_skip <| n_K <| s_seq <| s_region0 fun ops => oM rfl <| oR (rd_bin rfl rfl rfl) <| o_nil <| n_K ?_
            refine s_cond rfl (fun c53 => ?_) (fun c53 => ?_)
            · simp only [decide_eq_true_eq, decide_eq_false_iff_not] at c53
              try (exfalso; (omega); done)
              all_goals
                refine s_seq <| s_seq <| s_region0 fun ops => oM rfl <| oM rfl ?_
                refine c_ex rfl (dk_erase (d := ⟨d.dk, t', c'⟩) o6.dv.choose_spec.1 (b := (kk % 10 : Nat))) sP rfl fun v56 Y56 h56 => ?_
                obtain ⟨t2, c2, e2, rfl, rfl, hE⟩ := h56
                obtain ⟨rfl, o5⟩ := o6.erase (by omega) (by omega) hE
                refine so_ap aQ ?_
                refine oR (rd_bin rfl rfl rfl) <| o_nil <| n_K ?_
                refine s_cond rfl (fun c57 => ?_) (fun c57 => ?_)
                · skip
                  try (exfalso; (simp at c57); done)
                  all_goals
                    refine s_seq <| s_region0 fun ops => oA rfl <| o_nil <| n_K <| s_ret <| r_K <| r_blk <| r_K <| r_K <| r_blk <| r_K ?_
                    exact leaf_r (rets1 Tryz.results9 (rv_tmp rfl)) (by rfl) sP
                · skip
                  refine s_skip <| n_K <| s_region0 fun ops => oA rfl <| o_nil <| n_blk <| n_K <| s_region0 fun ops => ?_
                  refine oR (rd_add64 rfl rfl (by omega)) ?_
                  refine oM rfl <| o_nil <| n_K ?_
                  first | exact ⟨(i + 1, 0, t2, c2), ⟨by simp only; omega, Nat.zero_lt_succ 7, o5.mono (by simp only; omega)⟩, by simp only; omega, lZ⟩ | exact ⟨(i + 1, nx, t', c'), ⟨by simp only; omega, g1, o4.mono (by simp only; omega)⟩, by simp only; omega, lZ⟩ | exact ⟨(i + 1, nx + 1, t', c'), ⟨by simp only; omega, (by simp only; omega), o6.mono (by simp only; omega)⟩, by simp only; omega, lZ⟩
            · simp only [decide_eq_true_eq, decide_eq_false_iff_not] at c53
              refine s_skip <| n_blk <| n_K <| s_region0 fun ops => ?_
              refine oR (rd_add64 rfl rfl (by omega)) ?_
              refine oM rfl <| o_nil <| n_K ?_
              first | exact ⟨(i + 1, 0, t2, c2), ⟨by simp only; omega, Nat.zero_lt_succ 7, o5.mono (by simp only; omega)⟩, by simp only; omega, lZ⟩ | exact ⟨(i + 1, nx, t', c'), ⟨by simp only; omega, g1, o4.mono (by simp only; omega)⟩, by simp only; omega, lZ⟩ | exact ⟨(i + 1, nx + 1, t', c'), ⟨by simp only; omega, (by simp only; omega), o6.mono (by simp only; omega)⟩, by simp only; omega, lZ⟩
    · simp only [decide_eq_true_eq, decide_eq_false_iff_not] at c26
      refine s_exit <| x_K <| x_K <| x_blk <| n_K <| s_seq <| s_region0 fun ops => oM rfl ?_
      refine c_is rfl ((dk_lost (d := ⟨d.dk, t1, c1⟩)).to (by rw [show t1.l.list.length = 0 from g2.lo]) rfl) sP rfl aQ ?_
      refine oR (rd_bin rfl rfl rfl) <| oA rfl <| o_nil <| n_K <| s_ret ?_
      exact leaf_r (rets1 Tryz.results9 (rv_tmp rfl)) (by rfl) sP
end Go.Proofs.YtdfidkhbldedlaaGreat
end
section
/- Walks of the laws of disks: once no spare is left; disks opened. -/
namespace Go.Proofs.YtdfidkhbldedlaaGreat
open Go.K
set_option linter.unusedVariables false
set_option linter.unusedSimpArgs false
instance ent6 : Ent Tryz.prog 6 := ⟨fun _ _ => by kernel_rfl⟩
instance ent32 : Ent Tryz.prog 32 := ⟨fun _ _ => by kernel_rfl⟩
set_option maxRecDepth 20000
theorem dopen_fn {c : Chip} {t2 : TS} (hb : 2 ≤ c.blocks.length ∧ c.blocks.length ≤ 1000) (ho : openC c = (0, t2)) : Does Tryz.prog 32 [ptr c.aC] (chH c)
    (fun v H => ∃ (dk : Nat) (tb : Tab), v = .tuple #[ptr dk, .int .i64 0] ∧ H = (dk, true, C [ptr c.aC, ptr tb.b] tDk) :: (tabH c.aC tb ++ (chH c ++ [])) ∧ tb.ts = t2) := by
  refine fn_enter (n := 17) Tryz.func32 Tryz.ntmps32 rfl (Nat.le_of_ble_eq_true rfl) <| s_seq <| s_region0 fun ops => oA rfl <| oA rfl <| o_nil <| n_K <| s_seq <| s_region0 fun ops => oM rfl ?_
  refine c_ex rfl (open_b (c := c) rfl (by omega) ho) sP rfl fun v8 Y8 h8 => ?_
  obtain ⟨tb, rfl, rfl, htb⟩ := h8
  refine so_ap aQ ?_
  refine oM rfl <| oE rfl rfl <| oE rfl rfl <| oA rfl <| oA rfl <| o_nil <| n_K <| s_seq <| s_region0 fun ops => oM rfl <| oM rfl <| oM rfl ?_
  refine c_ex rfl (disk_ok (a := c.aC) (tb := tb.b)) sP rfl fun v14 Y14 h14 => ?_
  obtain ⟨dk, rfl, rfl⟩ := h14
  refine so_ap aQ ?_
  refine oE rfl rfl <| oE rfl rfl <| oA rfl <| oA rfl <| o_nil <| n_K <| s_ret ?_
  exact leaf_r (rets2 Tryz.results32 (rv_tmp rfl) (rv_tmp rfl)) (by exact ⟨dk, tb, rfl, rfl, htb⟩) sP
theorem dk_open {d : Dsk} {t2 : TS} (hb : 2 ≤ d.c.blocks.length ∧ d.c.blocks.length ≤ 1000) (ho : openC d.c = (0, t2)) : Does Tryz.prog 32 [ptr d.c.aC] (dkH d)
    (fun v H => ∃ (dk' : Nat) (tb : Tab), v = .tuple #[ptr dk', .int .i64 0] ∧ H = dkH ⟨dk', tb, d.c⟩ ++ [] ∧ tb.ts = t2) := by
  rw [dkH_eq]
  refine (dopen_fn hb ho).inn sP fun v Y ⟨dk', tb, h1, h2, h3⟩ => ?_
  refine ⟨_, ⟨dk', tb, h1, rfl, h3⟩, ?_⟩
  rw [h2, dkH_eq]
  simp only [List.append_nil]
  exact ⟨_, _, aQ, sP⟩
theorem DV.reopen {c : Chip} {t : TS} {n k : Nat} {V : Nat → Blk} (h : DV c t n k V) : ∃ t2, openC c = (0, t2) ∧ t2.lost = t.lost ∧ t2.uses = t.uses := by
  obtain ⟨a, _, hh, _⟩ := h.di.ti
  obtain ⟨t2, o1, _, o3, o4, _⟩ := open_hold h.di.up hh
  exact ⟨t2, o1, o4, o3⟩
structure W0 (t : TS) (c : Chip) (i : Nat) : Prop where
  dv : ∃ V, DV c t 16 (20 * i) V ∧ (∀ l, l < i → (V l).next = 1 ∧ (V l).pages[0] = pageL (byteI (l : Nat)) 0) ∧ ∀ l, i ≤ l → l < 10 → (V l).next = 0
  af : c.after < 0
  pf : c.pf.list = []
  wf : c.wf.list = []
  lo : t.lost.length = 0
theorem W0.step {t t' : TS} {c c' : Chip} {i : Nat} {e : Int} (h : W0 t c i) (hi : i < 5) (hr : ProgD 16 (i : Nat) ((0 : Nat) : Int) (pageL (byteI (i : Nat)) 0) c t (e, t', c')) : e = 0 ∧ W0 t' c' (i + 1) := by
  obtain ⟨V, hd, h1, h2⟩ := h.dv
  have hp0 := fp_nil h.pf
  have hw0 := fw_nil h.wf
  obtain ⟨q1, q2, q3, q4, f⟩ := prog_well hd (by omega) (by omega) h.af (by rw [h.pf]; rfl) (b := i) (j := 0) (by omega) (by omega) (h2 i (by omega) (by omega)) hr
  simp only at q1 q2 q3 q4 f
  refine ⟨q1, ⟨_, by rw [q2]; exact q3, fun l hl => ?_, fun l h3 h4 => by rw [upV_ne (by omega)]; exact h2 l (by omega) h4⟩, by rw [(f.pos h.af).1]; exact h.af, by rw [f.pf]; exact h.pf, by rw [f.wf]; exact h.wf, by rw [q2]; exact h.lo⟩
  by_cases e1 : l = i
  · subst e1
    rw [upV_at]
    exact ⟨rfl, by rw [wrK_at (by omega), if_pos rfl]⟩
  · rw [upV_ne e1]; exact h1 l (by omega)
structure W1 (t : TS) (c : Chip) (i : Nat) : Prop where
  dv : ∃ V, DV c t 16 (100 + 20 * i) V ∧ (∀ l, l < 5 → (V l).pages[0] = pageL (byteI (l : Nat)) 0) ∧ ∀ l, i ≤ l → l < 5 → (V l).next = 1
  af : c.after < 0
  wf : c.wf.list = []
  lo : t.lost.length = i
theorem W0.w1 {t : TS} {c : Chip} (h : W0 t c 5) : W1 t c 0 := by
  obtain ⟨V, hd, h1, h2⟩ := h.dv
  exact ⟨⟨V, hd, fun l hl => (h1 l hl).2, fun l _ hl => (h1 l hl).1⟩, h.af, h.wf, h.lo⟩
theorem W1.try {t t' : TS} {c c' : Chip} {i : Nat} {e : Int} {s : Sl Int} {p : Pg} (h : W1 t c i) (hi : i < 5) (hs : s.list = [0]) (hr : ProgD 16 (i : Nat) ((1 : Nat) : Int) p (failC c true s) t (e, t', c')) : (i < 4 → e = 0 ∧ W1 t' c' (i + 1)) ∧
    (i = 4 → e = 34 ∧ t'.lost.length = 4 ∧ ∃ V, DV c' t' 16 200 V ∧ ∀ l, l < 5 → (V l).pages[0] = pageL (byteI (l : Nat)) 0) := by
  obtain ⟨V, hd, h1, h2⟩ := h.dv
  have hp1 : FP (failC c true s) ≤ 1 := fp_one hs
  have hw0 : FW (failC c true s) = 0 := fw_nil h.wf
  have hlo := h.lo
  have af : (failC c true s).after < 0 := h.af
  have hpf : (failC c true s).pf.list = [0] := hs
  obtain ⟨f, v, hv1, hv2, hv3, hv4⟩ := prog_fails (hd.fail true s) (by omega) (by omega) af (by rw [hpf]; rfl) (b := i) (j := 1) (by omega) (by omega) (h2 i (by omega) (by omega)) hr
  simp only at hv3 hv4 f
  have h4 := hv3.di.wf.lost4
  have hpg : ∀ l, l < 5 → (upV V i v l).pages[0] = pageL (byteI (l : Nat)) 0 := fun l hl => by
    by_cases e1 : l = i
    · subst e1
      rw [upV_at]
      rcases hv2 0 (by omega) (by omega) with h6 | h6
      · rw [h6]; exact h1 l hl
      · rw [h6, h1 l hl, mend_pageL]
    · rw [upV_ne e1]; exact h1 l hl
  refine ⟨fun h5 => ?_, fun h5 => ?_⟩
  · rcases hv4 with ⟨q1, q2, q3, _, q4⟩ | ⟨q1, q2, q3⟩
    · exact ⟨q1, ⟨_, hv3, hpg, fun l h6 h7 => by rw [upV_ne (by omega)]; exact h2 l (by omega) h7⟩, by rw [(f.pos af).1]; exact af, by rw [f.wf]; exact h.wf, by omega⟩
    · omega
  · rcases hv4 with ⟨q1, q2, q3, _, q4⟩ | ⟨q1, q2, q3⟩
    · omega
    · exact ⟨q1, by omega, _, hv3.mono (by omega), hpg⟩
theorem New0.w0 {d : Dsk} (h : New0 d 16) : W0 d.t.ts d.c 0 := ⟨⟨_, h.dd, fun l hl => by omega, fun l _ _ => rfl⟩, h.af, h.pf, h.wf, h.lost⟩
theorem worn_fn {n : Int} : Does Tryz.prog 6 [.int .i64 n] [] (fun v H => v = .bool true) := by
  refine fn_enter (n := 104) Tryz.func6 Tryz.ntmps6 rfl (Nat.le_of_ble_eq_true rfl) <| s_seq <| s_region0 fun ops => oA rfl <| o_nil <| n_K <| s_seq <| s_seq <| s_region0 fun ops => ?_
  refine c_is rfl (speaks7_fn) sP rfl aQ ?_
  refine oR (rd_not rfl) <| o_nil <| n_K ?_
  refine s_condF rfl ?_
  refine s_skip <| n_K <| s_seq <| s_region0 fun ops => ?_
  refine c_ex rfl (dk_laid (m := 16) (by decide) fx16) sP rfl fun v13 Y13 h13 => ?_
  obtain ⟨d, rfl, rfl, hd⟩ := h13
  refine so_ap aQ ?_
  refine oA rfl <| o_nil <| n_K <| s_seq <| s_seq <| s_region0 fun ops => oM rfl <| oR (rd_eqNil rfl rfl) <| o_nil <| n_K ?_
  refine s_condF rfl ?_
  refine s_skip <| n_K <| s_seq <| s_seq <| s_region0 fun ops => oA rfl <| o_nil <| n_K <| s_block ?_
  refine s_loop2 [3] kQ (fun (st : Nat × Tab × Chip) => [(4, .int .i64 st.1)]) (fun (st : Nat × Tab × Chip) => dkH ⟨d.dk, st.2.1, st.2.2⟩ ++ []) (fun (st : Nat × Tab × Chip) => st.1 ≤ 5 ∧ W0 st.2.1.ts st.2.2 st.1) (fun (st : Nat × Tab × Chip) => 5 - st.1) ((0, d.t, d.c)) ⟨Nat.zero_le _, hd.w0⟩ kP sP ?_
  rintro ⟨i, t1, c1⟩ ⟨g0, g1⟩
  simp only at g0 g1
  refine s_seq <| s_seq <| s_region0 fun ops => oM rfl <| oR (rd_bin rfl rfl rfl) <| o_nil <| n_K ?_
  refine s_cond rfl (fun c17 => ?_) (fun c17 => ?_)
  · simp only [decide_eq_true_eq, decide_eq_false_iff_not] at c17
    have hi : i < 5 := (by omega)
    refine s_skip <| n_K <| s_seq <| s_block <| s_seq <| s_region0 fun ops => oM rfl <| oM rfl <| oM rfl ?_
    refine oR (show Rd _ _ _ _ (bv (byteI (i : Nat))) from by (unfold bv; rw [← byte_i64]; exact rd_convI rfl)) ?_
    refine c_is rfl (page_fn7 (b := byteI (i : Nat)) (k := 0)) sP rfl aQ ?_
    refine c_ex rfl (dk_program (d := ⟨d.dk, t1, c1⟩) g1.dv.choose_spec.1 (b := (i : Nat)) (j := (0 : Nat)) (p := pageL (byteI (i : Nat)) 0)) sP rfl fun v25 Y25 h25 => ?_
    obtain ⟨t', c', e, rfl, rfl, hP⟩ := h25
    obtain ⟨rfl, o1⟩ := g1.step hi hP
    refine so_ap aQ ?_
    refine oR (rd_bin rfl rfl rfl) <| o_nil <| n_K ?_
    refine s_cond rfl (fun c26 => ?_) (fun c26 => ?_)
    · skip
      try (exfalso; (simp at c26); done)
      all_goals
        refine s_seq <| s_region0 fun ops => oA rfl <| o_nil <| n_K <| s_ret <| r_blk <| r_K <| r_K <| r_blk <| r_K ?_
        exact leaf_r (rets1 Tryz.results6 (rv_tmp rfl)) (by rfl) sP
    · skip
      refine s_skip <| n_blk <| n_K <| s_region0 fun ops => oM rfl ?_
      refine oR (rd_add64 rfl rfl (by omega)) ?_
      refine oA rfl <| o_nil <| n_K ?_
      exact ⟨(i + 1, t', c'), ⟨by simp only; omega, o1⟩, (by simp only; omega), lZ⟩
  · simp only [decide_eq_true_eq, decide_eq_false_iff_not] at c17
    have hi : i = 5 := (by omega)
    subst hi
    refine s_exit <| x_K <| x_K <| x_blk <| n_K <| s_seq <| s_seq <| s_region0 fun ops => oA rfl <| o_nil <| n_K <| s_block ?_
    refine s_loop2 [3] kQ (fun (st : Nat × Tab × Chip) => [(5, .int .i64 st.1)]) (fun (st : Nat × Tab × Chip) => dkH ⟨d.dk, st.2.1, st.2.2⟩ ++ []) (fun (st : Nat × Tab × Chip) => st.1 ≤ 4 ∧ W1 st.2.1.ts st.2.2 st.1) (fun (st : Nat × Tab × Chip) => 4 - st.1) ((0, t1, c1)) ⟨Nat.zero_le _, g1.w1⟩ kP sP ?_
    rintro ⟨m, t2, c2⟩ ⟨k0, k1⟩
    simp only at k0 k1
    refine s_seq <| s_seq <| s_region0 fun ops => oM rfl <| oR (rd_bin rfl rfl rfl) <| o_nil <| n_K ?_
    refine s_cond rfl (fun c28 => ?_) (fun c28 => ?_)
    · simp only [decide_eq_true_eq, decide_eq_false_iff_not] at c28
      have hm : m < 4 := (by omega)
      refine s_skip <| n_K <| s_seq <| s_block <| s_seq <| s_region0 fun ops => oM rfl <| oN rfl <| oF rfl ?_
      refine oR (rd_dc (d := ⟨d.dk, t2, c2⟩) rfl pL) ?_
      refine o_bslice_k rfl rfl rfl rfl fun b35 => ?_
      refine c_ex rfl (dk_fail1 (d := ⟨d.dk, t2, c2⟩)) sP rfl fun v36 Y36 h36 => ?_
      obtain ⟨s', rfl, rfl, hs'⟩ := h36
      refine so_ap aQ ?_
      refine o_nil <| n_K <| s_seq ?_
      refine s_region [(7, 44)] rfl fun ops y => ?_
      refine oM rfl <| oM rfl <| oM rfl ?_
      refine oR (show Rd _ _ _ _ (bv (byteI (m : Nat))) from by (unfold bv; rw [← byte_i64]; exact rd_convI rfl)) ?_
      refine c_is rfl (page_fn7 (b := byteI (m : Nat)) (k := 1)) sP rfl aQ ?_
      refine c_ex rfl (dk_program (d := ⟨d.dk, t2, failC c2 true s'⟩) (k1.dv.choose_spec.1.fail true s') (b := (m : Nat)) (j := (1 : Nat)) (p := pageL (byteI (m : Nat)) 1)) sP rfl fun v42 Y42 h42 => ?_
      obtain ⟨t', c', e, rfl, rfl, hP⟩ := h42
      obtain ⟨rfl, o1⟩ := (k1.try (by omega) hs' hP).1 hm
      refine so_ap aQ ?_
      refine oR (rd_bin rfl rfl rfl) <| oM rfl ?_
      refine' o_or (j := 7) (k := 5) y rfl rfl rfl rfl rfl rfl rfl (fun hg44 => ?_) ?_
      rotate_left
      · try (simp at hg44; show _)
        refine o_g y rfl rfl ?_
        refine oM rfl ?_
        refine o_g y rfl rfl ?_
        refine c_is rfl ((dk_lost (d := ⟨d.dk, t', c'⟩)).to (by rw [show t'.l.list.length = m + 1 from o1.lo]) rfl) sP rfl aQ ?_
        refine o_g y rfl rfl ?_
        refine oM rfl ?_
        refine o_g y rfl rfl ?_
        refine oR (rd_add64 rfl rfl (by omega)) ?_
        refine o_g y rfl rfl ?_
        refine oR (rd_bin rfl rfl rfl) ?_
        exact o_nil ⟨rfl, rfl, ⟨_, sP⟩⟩
      refine o_nil <| n_K ?_
      refine s_cond rfl (fun c50 => ?_) (fun c50 => ?_)
      · skip
        try (exfalso; (simp at c50); done)
        all_goals
          refine s_seq <| s_region0 fun ops => oA rfl <| o_nil <| n_K <| s_ret <| r_blk <| r_K <| r_K <| r_blk <| r_K ?_
          exact leaf_r (rets1 Tryz.results6 (rv_tmp rfl)) (by rfl) sP
      · skip
        refine s_skip <| n_blk <| n_K <| s_region0 fun ops => oM rfl ?_
        refine oR (rd_add64 rfl rfl (by omega)) ?_
        refine oA rfl <| o_nil <| n_K ?_
        exact ⟨(m + 1, t', c'), ⟨by simp only; omega, o1⟩, (by simp only; omega), lZ⟩
    · simp only [decide_eq_true_eq, decide_eq_false_iff_not] at c28
      have hm : m = 4 := (by omega)
      subst hm
      refine s_exit <| x_K <| x_K <| x_blk <| n_K <| s_seq <| s_region0 fun ops => oM rfl <| oN rfl <| oF rfl ?_
      refine oR (rd_dc (d := ⟨d.dk, t2, c2⟩) rfl pL) ?_
      refine o_bslice_k rfl rfl rfl rfl fun b55 => ?_
      refine c_ex rfl (dk_fail1 (d := ⟨d.dk, t2, c2⟩)) sP rfl fun v56 Y56 h56 => ?_
      obtain ⟨s', rfl, rfl, hs'⟩ := h56
      refine so_ap aQ ?_
      refine o_nil <| n_K <| s_seq <| s_seq ?_
      refine s_region [(4, 61)] rfl fun ops y => ?_
      refine oM rfl ?_
      refine c_is rfl (page_fn7 (b := 4) (k := 1)) sP rfl aQ ?_
      refine c_ex rfl (dk_program (d := ⟨d.dk, t2, failC c2 true s'⟩) (k1.dv.choose_spec.1.fail true s') (b := (4 : Nat)) (j := (1 : Nat)) (p := pageL 4 1)) sP rfl fun v59 Y59 h59 => ?_
      obtain ⟨t', c', e, rfl, rfl, hP⟩ := h59
      obtain ⟨rfl, hl4, V, hV, hVp⟩ := (k1.try (by omega) hs' hP).2 rfl
      refine so_ap aQ ?_
      refine oR (rd_bin rfl rfl rfl) <| oM rfl ?_
      refine' o_or (j := 4) (k := 3) y rfl rfl rfl rfl rfl rfl rfl (fun hg61 => ?_) ?_
      rotate_left
      · try (simp at hg61; show _)
        refine o_g y rfl rfl ?_
        refine oM rfl ?_
        refine o_g y rfl rfl ?_
        refine c_is rfl ((dk_lost (d := ⟨d.dk, t', c'⟩)).to (by rw [show t'.l.list.length = 4 from hl4]) rfl) sP rfl aQ ?_
        refine o_g y rfl rfl ?_
        refine oR (rd_bin rfl rfl rfl) ?_
        exact o_nil ⟨rfl, rfl, ⟨_, sP⟩⟩
      refine o_nil <| n_K ?_
      refine s_cond rfl (fun c65 => ?_) (fun c65 => ?_)
      · skip
        try (exfalso; (simp at c65); done)
        all_goals
          refine s_seq <| s_region0 fun ops => oA rfl <| o_nil <| n_K <| s_ret <| r_K ?_
          exact leaf_r (rets1 Tryz.results6 (rv_tmp rfl)) (by rfl) sP
      · skip
        refine s_skip <| n_K <| s_seq <| s_seq <| s_region0 fun ops => oA rfl <| o_nil <| n_K <| s_block ?_
        refine s_loop2 [3] kQ (fun (i : Nat) => [(6, .int .i64 i)]) (fun (i : Nat) => dkH ⟨d.dk, t', c'⟩ ++ []) (fun (i : Nat) => i ≤ 5) (fun (i : Nat) => 5 - i) (0) (Nat.zero_le _) kP sP ?_
        rintro x hx
        refine s_seq <| s_seq <| s_region0 fun ops => oM rfl <| oR (rd_bin rfl rfl rfl) <| o_nil <| n_K ?_
        refine s_cond rfl (fun c67 => ?_) (fun c67 => ?_)
        · simp only [decide_eq_true_eq, decide_eq_false_iff_not] at c67
          have hrd : mayE c' (atD t'.ts (x : Nat)) 0 = 0 ∧ readP c' (atD t'.ts (x : Nat)) 0 = (V x).pages[0] := dread_at hV (b := x) (j := 0) (by omega) (by omega)
          refine s_skip <| n_K <| s_seq <| s_block <| s_seq <| s_region0 fun ops => oM rfl <| oM rfl ?_
          refine c_is rfl ((dk_read (d := ⟨d.dk, t', c'⟩) (b := (x : Nat)) (k := 0)).to (by rw [hrd.1, hrd.2, hVp x (by omega)]) rfl) sP rfl aQ ?_
          refine oM rfl <| oE rfl rfl <| oE rfl rfl ?_
          refine o_alloc rfl fun b7 => ?_
          rw [zeroP_eq]
          first | refine o_store rfl rfl uD (vc_vb) (vbc_len) (spl_vb (by first | exact vbc_len | exact List.length_replicate ..)) ?_ | refine o_store rfl rfl uD rfl rfl rfl ?_
          refine oA rfl <| o_nil <| n_K <| s_seq ?_
          refine s_draw [(2, 78)] [(2, [(0, false), (1, false)]), (9, [(2, false), (3, false), (4, false), (5, false), (6, true), (7, false), (8, false)])] (by kernel_rfl) rfl fun ops w0 H0 y => ?_
          refine p_all <| xM rfl <| xR (rd_bin rfl rfl rfl) <| x_nil <| p_all <| xM rfl ?_
          refine' x_or (j := 2) (k := 5) y rfl rfl rfl rfl rfl rfl rfl (fun hg78 => ?_) ?_
          rotate_left
          · try (simp at hg78; show _)
            refine x_g y rfl rfl ?_
            refine xR (rd_ldA rfl mM (by first | exact cut_vb | rfl)) ?_
            refine x_g y rfl rfl ?_
            refine xM rfl ?_
            refine x_g y rfl rfl ?_
            refine xR (show Rd _ _ _ _ (bv (byteI (x : Nat))) from by (unfold bv; rw [← byte_i64]; exact rd_convI rfl)) ?_
            refine x_g y rfl rfl ?_
            refine x_so ?_
            refine c_is rfl (page_fn7 (b := byteI (x : Nat)) (k := 0)) sP rfl aQ ?_
            refine o_nil ⟨rfl, ⟨_, sP⟩, ?_⟩
            refine x_g y rfl rfl ?_
            refine xR (rd_neA rfl rfl (pg_eq _ _)) ?_
            exact x_nil ⟨rfl, ⟨_, sP⟩⟩
          refine x_nil <| p_end <| n_K ?_
          refine s_cond rfl (fun c84 => ?_) (fun c84 => ?_)
          · skip
            try (exfalso; (simp at c84); done)
            all_goals
              refine s_seq <| s_region0 fun ops => oA rfl <| o_nil <| n_K <| s_ret <| r_blk <| r_K <| r_K <| r_blk <| r_K ?_
              exact leaf_r (rets1 Tryz.results6 (rv_tmp rfl)) (by rfl) sP
          · skip
            refine s_skip <| n_blk <| n_K <| s_region0 fun ops => oM rfl ?_
            refine oR (rd_add64 rfl rfl (by omega)) ?_
            refine oA rfl <| o_nil <| n_K ?_
            exact ⟨(x + 1), (by first | omega | trivial | (refine ⟨?_, ?_⟩ <;> omega)), (by omega), lZ⟩
        · simp only [decide_eq_true_eq, decide_eq_false_iff_not] at c67
          obtain ⟨t9, ho1, ho2, _⟩ := hV.reopen
          have hlen : c'.blocks.length = 16 := hV.di.len
          refine s_exit <| x_K <| x_K <| x_blk <| n_K <| s_seq <| s_region0 fun ops => oM rfl <| oN rfl <| oF rfl ?_
          refine oR (rd_dc (d := ⟨d.dk, t', c'⟩) rfl pL) ?_
          refine c_ex rfl (dk_open (d := ⟨d.dk, t', c'⟩) (by simp only; omega) ho1) sP rfl fun v90 Y90 h90 => ?_
          obtain ⟨dk2, tb, rfl, rfl, htb⟩ := h90
          refine so_ap aQ ?_
          refine oM rfl <| oE rfl rfl <| oE rfl rfl <| oA rfl <| oA rfl <| o_nil <| n_K <| s_seq ?_
          refine s_region [(2, 95), (6, 99)] rfl fun ops y => ?_
          refine oM rfl <| oR (rd_neNil rfl rfl) <| oM rfl ?_
          refine' o_and (j := 2) (k := 2) y rfl rfl rfl rfl rfl rfl rfl (fun hg95 => ?_) ?_
          rotate_left
          · try (simp at hg95; show _)
            refine o_g y rfl rfl ?_
            refine oM rfl ?_
            refine o_g y rfl rfl ?_
            refine oR (rd_bin rfl rfl rfl) ?_
            exact o_nil ⟨rfl, rfl, ⟨_, sP⟩⟩
          refine oM rfl ?_
          refine' o_and (j := 6) (k := 3) y rfl rfl rfl rfl rfl rfl rfl (fun hg99 => ?_) ?_
          rotate_left
          · try (simp at hg99; show _)
            refine o_g y rfl rfl ?_
            refine oM rfl ?_
            refine o_g y rfl rfl ?_
            refine c_is rfl ((dk_lost (d := ⟨dk2, tb, c'⟩)).to (by rw [show tb.l.list.length = 4 from by show tb.ts.lost.length = 4; rw [htb, ho2]; exact hl4]) rfl) sP rfl aQ ?_
            refine o_g y rfl rfl ?_
            refine oR (rd_bin rfl rfl rfl) ?_
            exact o_nil ⟨rfl, rfl, ⟨_, sP⟩⟩
          refine oA rfl <| o_nil <| n_K <| s_ret ?_
          exact leaf_r (rets1 Tryz.results6 (rv_tmp rfl)) (by rfl) sP
end Go.Proofs.YtdfidkhbldedlaaGreat
end
section
/- Walks of the laws of disks: a block that is moved is whole; what is done to one block. -/
namespace Go.Proofs.YtdfidkhbldedlaaGreat
open Go.K
set_option linter.unusedVariables false
set_option linter.unusedSimpArgs false
instance ent7 : Ent Tryz.prog 7 := ⟨fun _ _ => by kernel_rfl⟩
set_option maxRecDepth 20000
theorem and_le (b : Int) (m : Nat) (hm : m < 65536) : ∃ k : Nat, ibits .and .i64 b (m : Nat) = (k : Int) ∧ k ≤ m := by
  have hm' : (BitVec.ofInt 64 (m : Int)).toNat = m := by
    rw [BitVec.toNat_ofInt]
    omega
  have h : (BitVec.ofInt 64 b &&& BitVec.ofInt 64 (m : Int)).toNat ≤ m := by
    rw [BitVec.toNat_and, hm']
    exact Nat.and_le_right
  refine ⟨(BitVec.ofInt 64 b &&& BitVec.ofInt 64 (m : Int)).toNat, ?_, h⟩
  show IntKind.i64.wrap ((BitVec.ofInt 64 b &&& BitVec.ofInt 64 (m : Int)).toNat : Int) = _
  exact wrap64_in (by omega)
/-- Pages are written one by one. -/
structure MG (n bl : Nat) (b : By) (u : List Int) (t : TS) (c : Chip) (i : Nat) : Prop where
  dv : ∃ V, DV c t n (20 * i) V ∧ (V bl).next = i ∧ ∀ (j : Nat) (h : j < 8), j < i → (V bl).pages[j] = pageL b (j : Nat)
  af : c.after < 0
  pf : c.pf.list = []
  wf : c.wf.list = []
  lo : t.lost.length = 0
  us : t.uses = u
theorem New0.mg {d : Dsk} {n bl : Nat} {b : By} (h : New0 d n) : MG n bl b (fmtV (badL n []) ((n : Int) - 6) n) d.t.ts d.c 0 := ⟨⟨_, h.dd, rfl, fun j hj h => by omega⟩, h.af, h.pf, h.wf, h.lost, h.uses⟩
theorem MG.step {n bl : Nat} {b : By} {u : List Int} {t t' : TS} {c c' : Chip} {i : Nat} {e : Int} (h : MG n bl b u t c i) (hi : i < 8) (hbl : bl + 6 < n) (hr : ProgD n (bl : Nat) (i : Nat) (pageL b (i : Nat)) c t (e, t', c')) : e = 0 ∧ MG n bl b u t' c' (i + 1) := by
  obtain ⟨V, hd, h1, h2⟩ := h.dv
  have hp0 := fp_nil h.pf
  have hw0 := fw_nil h.wf
  obtain ⟨q1, q2, q3, q4, f⟩ := prog_well hd (by omega) (by omega) h.af (by rw [h.pf]; rfl) (b := bl) (j := i) hbl hi h1 hr
  simp only at q1 q2 q3 q4 f
  refine ⟨q1, ⟨_, by rw [q2]; exact q3, by rw [upV_at]; rfl, fun j hj hlt => ?_⟩, by rw [(f.pos h.af).1]; exact h.af, by rw [f.pf]; exact h.pf, by rw [f.wf]; exact h.wf, by rw [q2]; exact h.lo, by rw [q2]; exact h.us⟩
  rw [upV_at, wrK_at hj]
  split
  · rename_i e1; subst e1; rfl
  · exact h2 j hj (by omega)
/-- Bits are turned. -/
structure MF (b : By) (t : TS) (c : Chip) (m : Nat) : Prop where
  dv : ∃ V, DV c t 20 (200 + m) V ∧ (V 3).next = 7 ∧ ∀ (j : Nat) (h : j < 8), j < 7 → (V 3).pages[j] = pageL b (j : Nat) ∨ (j < m ∧ ∃ x, x < 2064 ∧ (V 3).pages[j] = flipP (pageL b (j : Nat)) x)
  af : c.after < 0
  wf : c.wf.list = []
  lo : t.lost.length = 0
  us : at0 t.uses (3 : Nat) = 5
theorem us20 : at0 (fmtV (badL 20 []) ((20 : Nat) - 6 : Int) 20) (3 : Nat) = 5 := by kernel_rfl
theorem MG.mf {b : By} {t : TS} {c : Chip} (h : MG 20 3 b (fmtV (badL 20 []) ((20 : Nat) - 6 : Int) 20) t c 7) : MF b t c 0 := by
  obtain ⟨V, hd, h1, h2⟩ := h.dv
  exact ⟨⟨V, hd.mono (by omega), h1, fun j hj h3 => .inl (h2 j hj h3)⟩, h.af, h.wf, h.lo, by rw [h.us]; exact us20⟩
theorem fr_setB (c : Chip) (i : Nat) (b : Blk) : Fr i c (setB c i b) :=
  ⟨fun k hk => by simp [setB, List.getElem?_set_ne (fun e => hk e.symm)], by simp [setB], rfl, rfl, rfl, rfl, rfl, rfl, rfl, Nat.le_refl _, Nat.le_refl _, fun _ => ⟨rfl, rfl⟩, rfl⟩
theorem MF.blk {b : By} {t : TS} {c : Chip} {m : Nat} (h : MF b t c m) : ∃ w, c.blocks[5]? = some w := by
  obtain ⟨V, hd, _⟩ := h.dv
  have := hd.vw 3 (by omega)
  rw [h.us] at this
  exact ⟨_, this⟩
theorem MF.mono {b : By} {t : TS} {c : Chip} {m m' : Nat} (h : MF b t c m) (hm : m ≤ m') : MF b t c m' := by
  obtain ⟨V, hd, h1, h2⟩ := h.dv
  exact ⟨⟨V, hd.mono (by omega), h1, fun j hj h3 => (h2 j hj h3).imp id fun ⟨h4, h5⟩ => ⟨by omega, h5⟩⟩, h.af, h.wf, h.lo, h.us⟩
theorem MF.flip {b : By} {t : TS} {c : Chip} {m x : Nat} {w : Blk} (h : MF b t c m) (hm : m < 7) (hx : x < 2064) (hw : c.blocks[5]? = some w) : MF b t (setB c 5 (setPg w m (flipP (w.pages[m]'(by omega)) x))) (m + 1) := by
  obtain ⟨V, hd, h1, h2⟩ := h.dv
  have hv := hd.vw 3 (by omega)
  rw [h.us, show (5 : Int).toNat = 5 from rfl, hw] at hv
  cases hv
  obtain ⟨hbi, hbad⟩ := hd.blk (l := 3) (by omega)
  have hat : (setB c 5 (setPg (V 3) m (flipP ((V 3).pages[m]'(by omega)) x))).blocks[5]? = some (setPg (V 3) m (flipP ((V 3).pages[m]'(by omega)) x)) := setB_at hw
  have hbi' : BI (setPg (V 3) m (flipP ((V 3).pages[m]'(by omega)) x)) := ⟨hbi.nx, fun j hj hle => by
    have h9 : (7 : Int) ≤ j := by rw [← h1]; exact hle
    rw [setPg_at hj, if_neg (by omega)]; exact hbi.bl j hj (by rw [h1]; exact h9)⟩
  have hdi := hd.di.far (i := 5) (by omega) (fr_setB c 5 _) ⟨hd.di.up.off, hd.di.up.dead, hd.di.up.out⟩ hat hbi' hbad ⟨by have := hd.di.cnt.p0; show 0 ≤ c.pc ∧ c.pc ≤ _; omega, by have := hd.di.cnt.w0; show 0 ≤ c.wc ∧ c.wc ≤ _; omega⟩
  refine ⟨⟨_, hd.act (b := 3) (by omega) (by rw [h.us]; exact fr_setB c 5 _) (by rw [h.us]; exact hat) hdi, by rw [upV_at]; exact h1, fun j hj h3 => ?_⟩, h.af, h.wf, h.lo, h.us⟩
  rw [upV_at, setPg_at hj]
  by_cases e : m = j
  · subst e
    rw [if_pos rfl]
    rcases h2 m hj h3 with h4 | ⟨h4, _⟩
    · exact .inr ⟨by omega, x, hx, by rw [h4]⟩
    · omega
  · rw [if_neg e]
    exact (h2 j hj h3).imp id fun ⟨h4, h5⟩ => ⟨by omega, h5⟩
theorem MF.fail {b : By} {t t' : TS} {c c' : Chip} {m : Nat} {e : Int} {s : Sl Int} (h : MF b t c m) (hm : m ≤ 100) (hs : s.list = [0]) (hr : ProgD 20 ((3 : Nat) : Int) ((7 : Nat) : Int) (pageL b 7) (failC c true s) t (e, t', c')) :
    e = 0 ∧ t'.lost.length = 1 ∧ ∃ V, DV c' t' 20 1000 V ∧ ∀ (j : Nat) (h : j < 8), (V 3).pages[j] = pageL b (j : Nat) := by
  obtain ⟨V, hd, h1, h2⟩ := h.dv
  have hp1 : FP (failC c true s) ≤ 1 := fp_one hs
  have hw0 : FW (failC c true s) = 0 := fw_nil h.wf
  have hlo := h.lo
  have af : (failC c true s).after < 0 := h.af
  have hpf : (failC c true s).pf.list = [0] := hs
  obtain ⟨f, v, hv1, hv2, hv3, hv4⟩ := prog_fails (hd.fail true s) (by omega) (by omega) af (by rw [hpf]; rfl) (b := 3) (j := 7) (by omega) (by omega) h1 hr
  simp only at hv3 hv4 f
  rcases hv4 with ⟨q1, q2, q3, q4, q5⟩ | ⟨q1, q2, q3⟩
  · refine ⟨q1, by omega, _, hv3.mono (by omega), fun j hj => ?_⟩
    rw [upV_at]
    by_cases e7 : j = 7
    · subst e7; exact q2 hj
    · rw [q4 j hj (by omega)]
      rcases h2 j hj (by omega) with h4 | ⟨_, x, hx, h4⟩
      · rw [h4, mend_pageL]
      · rw [h4, mend_flipL hx]
  · omega
theorem dk_flip {d : Dsk} {i j k : Nat} {w : Blk} (hw : d.c.blocks[i]? = some w) (hj : j < 8) (hk : k < 2064) : Does Tryz.prog 24 [ptr d.c.aC, .int .i64 (i : Nat), .int .i64 (j : Nat), .int .i64 (k : Nat)] (dkH d) (Is (.int .i64 0) (dkH ⟨d.dk, d.t, setB d.c i (setPg w j (flipP w.pages[j] k))⟩)) := by
  rw [dkH_eq, dkH_eq]
  exact (flip_fn (c := d.c) rfl hw hj hk).inIs sP aQ sP
theorem mends_fn {bits : Sl Int} {b : By} : Does Tryz.prog 7 [bits.val, bv b] (bits.hp tI ++ []) (fun v H => v = .bool true) := by
  refine fn_enter (n := 83) Tryz.func7 Tryz.ntmps7 rfl (Nat.le_of_ble_eq_true rfl) <| s_seq <| s_region0 fun ops => oA rfl <| o_nil <| n_K <| s_seq <| s_seq <| s_region0 fun ops => ?_
  refine c_is rfl (speaks7_fn) sP rfl aQ ?_
  refine oR (rd_not rfl) <| o_nil <| n_K ?_
  refine s_condF rfl ?_
  refine s_skip <| n_K <| s_seq <| s_seq <| s_region0 fun ops => oM rfl <| oR (rd_lenS rfl) <| oR (rd_bin rfl rfl rfl) <| o_nil <| n_K ?_
  refine s_cond rfl (fun c16 => ?_) (fun c16 => ?_)
  · simp only [decide_eq_true_eq, decide_eq_false_iff_not] at c16
    refine s_seq <| s_region0 fun ops => oA rfl <| o_nil <| n_K <| s_ret <| r_K ?_
    exact leaf_r (rets1 Tryz.results7 (rv_tmp rfl)) (by rfl) sP
  · simp only [decide_eq_true_eq, decide_eq_false_iff_not] at c16
    refine s_skip <| n_K <| s_seq <| s_region0 fun ops => ?_
    refine c_ex rfl (dk_laid (m := 20) (by decide) fx20) sP rfl fun v17 Y17 h17 => ?_
    obtain ⟨d, rfl, rfl, hd⟩ := h17
    refine so_ap aQ ?_
    refine oA rfl <| o_nil <| n_K <| s_seq <| s_seq <| s_region0 fun ops => oM rfl <| oR (rd_eqNil rfl rfl) <| o_nil <| n_K ?_
    refine s_condF rfl ?_
    refine s_skip <| n_K <| s_seq <| s_seq <| s_region0 fun ops => oA rfl <| o_nil <| n_K <| s_block ?_
    refine s_loop2 [0, 1, 5] kQ (fun (st : Nat × Tab × Chip) => [(6, .int .i64 st.1)]) (fun (st : Nat × Tab × Chip) => dkH ⟨d.dk, st.2.1, st.2.2⟩ ++ (bits.hp tI ++ [])) (fun (st : Nat × Tab × Chip) => st.1 ≤ 7 ∧ MG 20 3 b (fmtV (badL 20 []) ((20 : Nat) - 6 : Int) 20) st.2.1.ts st.2.2 st.1) (fun (st : Nat × Tab × Chip) => 7 - st.1) ((0, d.t, d.c)) ⟨Nat.zero_le _, hd.mg⟩ kP sP ?_
    rintro ⟨i, t1, c1⟩ ⟨g0, g1⟩
    simp only at g0 g1
    refine s_seq <| s_seq <| s_region0 fun ops => oM rfl <| oR (rd_bin rfl rfl rfl) <| o_nil <| n_K ?_
    refine s_cond rfl (fun c21 => ?_) (fun c21 => ?_)
    · simp only [decide_eq_true_eq, decide_eq_false_iff_not] at c21
      have hi : i < 7 := (by omega)
      refine s_skip <| n_K <| s_seq <| s_block <| s_seq <| s_region0 fun ops => oM rfl <| oM rfl <| oM rfl <| oM rfl ?_
      refine c_is rfl (page_fn7 (b := b) (k := (i : Nat))) sP rfl aQ ?_
      refine c_ex rfl (dk_program (d := ⟨d.dk, t1, c1⟩) g1.dv.choose_spec.1 (b := (3 : Nat)) (j := (i : Nat)) (p := pageL b (i : Nat))) sP rfl fun v29 Y29 h29 => ?_
      obtain ⟨t', c', e, rfl, rfl, hP⟩ := h29
      obtain ⟨rfl, o1⟩ := g1.step (by omega) (by omega) hP
      refine so_ap aQ ?_
      refine oR (rd_bin rfl rfl rfl) <| o_nil <| n_K ?_
      refine s_cond rfl (fun c30 => ?_) (fun c30 => ?_)
      · skip
        try (exfalso; (simp at c30); done)
        all_goals
          refine s_seq <| s_region0 fun ops => oA rfl <| o_nil <| n_K <| s_ret <| r_blk <| r_K <| r_K <| r_blk <| r_K ?_
          exact leaf_r (rets1 Tryz.results7 (rv_tmp rfl)) (by rfl) sP
      · skip
        refine s_skip <| n_blk <| n_K <| s_region0 fun ops => oM rfl ?_
        refine oR (rd_add64 rfl rfl (by omega)) ?_
        refine oA rfl <| o_nil <| n_K ?_
        exact ⟨(i + 1, t', c'), ⟨by simp only; omega, o1⟩, (by simp only; omega), lZ⟩
    · simp only [decide_eq_true_eq, decide_eq_false_iff_not] at c21
      have hi : i = 7 := (by omega)
      subst hi
      refine s_exit <| x_K <| x_K <| x_blk <| n_K <| s_seq <| s_seq <| s_region0 fun ops => oM rfl <| oR (rd_lenS rfl) <| oM rfl <| o_nil <| n_K <| s_block ?_
      refine s_loop2 [1, 5, 31, 32] kQ (fun (st : Nat × Chip) => [(33, .int .i64 st.1)]) (fun (st : Nat × Chip) => dkH ⟨d.dk, t1, st.2⟩ ++ (bits.hp tI ++ [])) (fun (st : Nat × Chip) => st.1 ≤ bits.list.length ∧ MF b t1.ts st.2 st.1) (fun (st : Nat × Chip) => bits.list.length - st.1) ((0, c1)) ⟨Nat.zero_le _, g1.mf⟩ kP sP ?_
      rintro ⟨m, c2⟩ ⟨k0, k1⟩
      simp only at k0 k1
      refine s_seq <| s_region0 fun ops => oR (rd_bin rfl rfl rfl) <| o_nil <| n_K <| s_seq ?_
      refine s_cond rfl (fun c34 => ?_) (fun c34 => ?_)
      · simp only [decide_eq_true_eq, decide_eq_false_iff_not] at c34
        obtain ⟨z, hg⟩ : ∃ z, bits.list[m]? = some z := ⟨_, List.getElem?_eq_getElem (by omega)⟩
        obtain ⟨kk, hkk, hkl⟩ := and_ffff z
        obtain ⟨w, hw⟩ := k1.blk
        refine s_skip <| n_K <| s_seq <| s_block <| s_seq <| s_region0 fun ops => oM rfl ?_
        refine oR (rd_ixSl rfl rfl (by omega)) ?_
        refine oR (rd_ldSl (o := 0) rfl pL hg rfl rfl) ?_
        refine oA rfl <| oA rfl <| o_nil <| n_K <| s_seq <| s_region0 fun ops => oM rfl <| oR (rd_bin rfl rfl rfl) <| o_nil <| n_K ?_
        refine s_cond rfl (fun c39 => ?_) (fun c39 => ?_)
        · simp only [decide_eq_true_eq, decide_eq_false_iff_not] at c39
          refine s_region0 fun ops => oM rfl <| oN rfl <| oF rfl ?_
          refine oR (rd_dc (d := ⟨d.dk, t1, c2⟩) rfl pL) ?_
          refine oM rfl <| oM rfl ?_
          refine oR (show Rd _ _ _ _ (.int .i64 (kk : Nat)) from by (rw [← hkk]; exact rd_bin rfl rfl rfl)) ?_
          refine oR (rd_remN (i := kk) (m := 2061) rfl rfl (by omega)) ?_
          refine c_is rfl (dk_flip (d := ⟨d.dk, t1, c2⟩) (i := 5) (j := m) (k := kk % 2061) hw (by omega) (by omega)) sP rfl aQ ?_
          refine o_nil <| n_blk <| n_K <| s_region0 fun ops => ?_
          refine oR (rd_add64 rfl rfl (by omega)) ?_
          refine oM rfl <| o_nil <| n_K ?_
          first | exact ⟨(m + 1, setB c2 5 (setPg w m (flipP (w.pages[m]'(by omega)) (kk % 2061)))), ⟨by simp only; omega, k1.flip (by omega) (by omega) hw⟩, by simp only; omega, lZ⟩ | exact ⟨(m + 1, c2), ⟨by simp only; omega, k1.mono (by omega)⟩, by simp only; omega, lZ⟩
        · simp only [decide_eq_true_eq, decide_eq_false_iff_not] at c39
          refine s_skip <| n_blk <| n_K <| s_region0 fun ops => ?_
          refine oR (rd_add64 rfl rfl (by omega)) ?_
          refine oM rfl <| o_nil <| n_K ?_
          first | exact ⟨(m + 1, setB c2 5 (setPg w m (flipP (w.pages[m]'(by omega)) (kk % 2061)))), ⟨by simp only; omega, k1.flip (by omega) (by omega) hw⟩, by simp only; omega, lZ⟩ | exact ⟨(m + 1, c2), ⟨by simp only; omega, k1.mono (by omega)⟩, by simp only; omega, lZ⟩
      · simp only [decide_eq_true_eq, decide_eq_false_iff_not] at c34
        refine s_exit <| x_K <| x_K <| x_blk <| n_K <| s_seq <| s_region0 fun ops => oM rfl <| oN rfl <| oF rfl ?_
        refine oR (rd_dc (d := ⟨d.dk, t1, c2⟩) rfl pL) ?_
        refine o_bslice_k rfl rfl rfl rfl fun b54 => ?_
        refine c_ex rfl (dk_fail1 (d := ⟨d.dk, t1, c2⟩)) sP rfl fun v55 Y55 h55 => ?_
        obtain ⟨s', rfl, rfl, hs'⟩ := h55
        refine so_ap aQ ?_
        refine o_nil <| n_K <| s_seq <| s_seq <| s_region0 fun ops => oM rfl <| oM rfl ?_
        refine c_is rfl (page_fn7 (b := b) (k := 7)) sP rfl aQ ?_
        refine c_ex rfl (dk_program (d := ⟨d.dk, t1, failC c2 true s'⟩) (k1.dv.choose_spec.1.fail true s') (b := (3 : Nat)) (j := (7 : Nat)) (p := pageL b 7)) sP rfl fun v59 Y59 h59 => ?_
        obtain ⟨t', c', e, rfl, rfl, hP⟩ := h59
        obtain ⟨rfl, hl1, V, hV, hVp⟩ := k1.fail (by omega) hs' hP
        refine so_ap aQ ?_
        refine oR (rd_bin rfl rfl rfl) <| o_nil <| n_K ?_
        refine s_cond rfl (fun c60 => ?_) (fun c60 => ?_)
        · skip
          try (exfalso; (simp at c60); done)
          all_goals
            refine s_seq <| s_region0 fun ops => oA rfl <| o_nil <| n_K <| s_ret <| r_K ?_
            exact leaf_r (rets1 Tryz.results7 (rv_tmp rfl)) (by rfl) sP
        · skip
          refine s_skip <| n_K <| s_seq <| s_seq <| s_region0 fun ops => oA rfl <| o_nil <| n_K <| s_block ?_
          refine s_loop2 [1, 5] kQ (fun (i : Nat) => [(9, .int .i64 i)]) (fun (i : Nat) => dkH ⟨d.dk, t', c'⟩ ++ []) (fun (i : Nat) => i ≤ 8) (fun (i : Nat) => 8 - i) (0) (Nat.zero_le _) kP sP ?_
          rintro x hx
          refine s_seq <| s_seq <| s_region0 fun ops => oM rfl <| oR (rd_bin rfl rfl rfl) <| o_nil <| n_K ?_
          refine s_cond rfl (fun c62 => ?_) (fun c62 => ?_)
          · simp only [decide_eq_true_eq, decide_eq_false_iff_not] at c62
            have hx8 : x < 8 := (by omega)
            have hrd : mayE c' (atD t'.ts ((3 : Nat) : Int)) (x : Nat) = 0 ∧ readP c' (atD t'.ts ((3 : Nat) : Int)) (x : Nat) = (V 3).pages[x] := dread_at hV (b := 3) (j := x) (by omega) (by omega)
            refine s_skip <| n_K <| s_seq <| s_block <| s_seq <| s_region0 fun ops => oM rfl <| oM rfl ?_
            refine c_is rfl ((dk_read (d := ⟨d.dk, t', c'⟩) (b := (3 : Nat)) (k := (x : Nat))).to (by rw [hrd.1, hrd.2, hVp x hx8]) rfl) sP rfl aQ ?_
            refine oM rfl <| oE rfl rfl <| oE rfl rfl ?_
            refine o_alloc rfl fun b10 => ?_
            rw [zeroP_eq]
            first | refine o_store rfl rfl uD (vc_vb) (vbc_len) (spl_vb (by first | exact vbc_len | exact List.length_replicate ..)) ?_ | refine o_store rfl rfl uD rfl rfl rfl ?_
            refine oA rfl <| o_nil <| n_K <| s_seq ?_
            refine s_draw [(2, 73)] [(2, [(0, false), (1, false)]), (9, [(2, false), (3, false), (4, false), (5, false), (6, true), (7, false), (8, false)])] (by kernel_rfl) rfl fun ops w0 H0 y => ?_
            refine p_all <| xM rfl <| xR (rd_bin rfl rfl rfl) <| x_nil <| p_all <| xM rfl ?_
            refine' x_or (j := 2) (k := 5) y rfl rfl rfl rfl rfl rfl rfl (fun hg73 => ?_) ?_
            rotate_left
            · try (simp at hg73; show _)
              refine x_g y rfl rfl ?_
              refine xR (rd_ldA rfl mM (by first | exact cut_vb | rfl)) ?_
              refine x_g y rfl rfl ?_
              refine xM rfl ?_
              refine x_g y rfl rfl ?_
              refine xM rfl ?_
              refine x_g y rfl rfl ?_
              refine x_so ?_
              refine c_is rfl (page_fn7 (b := b) (k := (x : Nat))) sP rfl aQ ?_
              refine o_nil ⟨rfl, ⟨_, sP⟩, ?_⟩
              refine x_g y rfl rfl ?_
              refine xR (rd_neA rfl rfl (pg_eq _ _)) ?_
              exact x_nil ⟨rfl, ⟨_, sP⟩⟩
            refine x_nil <| p_end <| n_K ?_
            refine s_cond rfl (fun c79 => ?_) (fun c79 => ?_)
            · skip
              try (exfalso; (simp at c79); done)
              all_goals
                refine s_seq <| s_region0 fun ops => oA rfl <| o_nil <| n_K <| s_ret <| r_blk <| r_K <| r_K <| r_blk <| r_K ?_
                exact leaf_r (rets1 Tryz.results7 (rv_tmp rfl)) (by rfl) sP
            · skip
              refine s_skip <| n_blk <| n_K <| s_region0 fun ops => oM rfl ?_
              refine oR (rd_add64 rfl rfl (by omega)) ?_
              refine oA rfl <| o_nil <| n_K ?_
              exact ⟨(x + 1), (by first | omega | trivial | (refine ⟨?_, ?_⟩ <;> omega)), (by omega), lZ⟩
          · simp only [decide_eq_true_eq, decide_eq_false_iff_not] at c62
            refine s_exit <| x_K <| x_K <| x_blk <| n_K <| s_seq <| s_region0 fun ops => oM rfl ?_
            refine c_is rfl ((dk_lost (d := ⟨d.dk, t', c'⟩)).to (by rw [show t'.l.list.length = 1 from hl1]) rfl) sP rfl aQ ?_
            refine oR (rd_bin rfl rfl rfl) <| oA rfl <| o_nil <| n_K <| s_ret ?_
            exact leaf_r (rets1 Tryz.results7 (rv_tmp rfl)) (by rfl) sP
end Go.Proofs.YtdfidkhbldedlaaGreat
end
section
/- Walks of the laws of disks: what is done to one block. -/
namespace Go.Proofs.YtdfidkhbldedlaaGreat
open Go.K
set_option linter.unusedVariables false
set_option linter.unusedSimpArgs false
instance und70 : Und Tryz.prog 70 (.slice 72) := ⟨Tryz.underlying70⟩
instance agg70 : Agg Tryz.prog 70 false := ⟨⟨_, Tryz.underlying70, rfl⟩⟩
instance siz70 : Siz Tryz.prog 70 1 := ⟨by kernel_rfl⟩
instance agg72 : Agg Tryz.prog 72 true := ⟨⟨_, Tryz.underlying72, rfl⟩⟩
instance siz72 : Siz Tryz.prog 72 7 := ⟨by kernel_rfl⟩
instance zer72 : Zer Tryz.prog 72 ([.int .i64 0, .int .i64 0, .int .i64 0, .int .i64 0, .int .i64 0, .int .u8 0, .bool false]) := ⟨by kernel_rfl⟩
instance fld72_0 : Fld Tryz.prog 72 0 0 := ⟨⟨_, _, 0, Tryz.underlying72, rfl, by kernel_rfl, rfl⟩⟩
instance fld72_1 : Fld Tryz.prog 72 1 1 := ⟨⟨_, _, 0, Tryz.underlying72, rfl, by kernel_rfl, rfl⟩⟩
instance fld72_2 : Fld Tryz.prog 72 2 2 := ⟨⟨_, _, 0, Tryz.underlying72, rfl, by kernel_rfl, rfl⟩⟩
instance fld72_5 : Fld Tryz.prog 72 5 5 := ⟨⟨_, _, 0, Tryz.underlying72, rfl, by kernel_rfl, rfl⟩⟩
instance ent8 : Ent Tryz.prog 8 := ⟨fun _ _ => by kernel_rfl⟩
set_option maxRecDepth 20000
abbrev tO7 : TypeId := 72
/-- A call of a law's script. -/
structure Op7 where
  kind : Int
  block : Int
  page : Int
  n : Int
  keep : Int
  byte : By
  next : Bool
def op7C (o : Op7) : List Value := [.int .i64 o.kind, .int .i64 o.block, .int .i64 o.page, .int .i64 o.n, .int .i64 o.keep, bv o.byte, .bool o.next]
instance : Cel Op7 := ⟨7, op7C, fun _ => rfl, fun _ => rfl⟩
/-- What any write comes to. -/
theorem prog_any {c : Chip} {t : TS} {n k : Nat} {V : Nat → Blk} {b j : Int} {p : Pg} {r : Int × TS × Chip} (h : DV c t n k V) (hk : k ≤ 700000) (hf : FP c + FW c ≤ 3) (hp : c.after < 0) (hr : ProgD n b j p c t r) :
    FrA c r.2.2 ∧ ∃ V', DV r.2.2 r.2.1 n (k + 20) V' ∧ ∀ l : Nat, (l : Int) ≠ b → V' l = V l := by
  by_cases hin : (0 ≤ b ∧ b + 6 < n) ∧ (0 ≤ j ∧ j < 8)
  · obtain ⟨b', rfl⟩ : ∃ b' : Nat, b = b' := ⟨b.toNat, by omega⟩
    obtain ⟨j', rfl⟩ : ∃ j' : Nat, j = j' := ⟨j.toNat, by omega⟩
    by_cases hn : (V b').next = j'
    · obtain ⟨f, v, _, _, hc⟩ := prog_view h hk hf (by omega) (by omega) hn hr
      have hV : ∀ l : Nat, (l : Int) ≠ b' → upV V b' v l = V l := fun l hl => upV_ne (by omega)
      rcases hc with ⟨_, q2, _⟩ | ⟨_, q2, _⟩ | ⟨_, _, q3, _⟩
      · exact ⟨f, _, q2, hV⟩
      · exact ⟨f, _, q2, hV⟩
      · exact absurd hp q3
    · rw [prog_ord h (b := b') (j := j') (by omega) (by omega) hn hr]
      exact ⟨.refl _, V, h.mono (by omega), fun _ _ => rfl⟩
  · rw [prog_arg h (by omega) hr]
    exact ⟨.refl _, V, h.mono (by omega), fun _ _ => rfl⟩
theorem erase_any {c : Chip} {t : TS} {n k : Nat} {V : Nat → Blk} {b : Int} {r : Int × TS × Chip} (h : DV c t n k V) (hk : k ≤ 700000) (hf : FP c + FW c ≤ 3) (hp : c.after < 0) (hr : EraseD n b c t r) :
    FrA c r.2.2 ∧ ∃ V', DV r.2.2 r.2.1 n (k + 20) V' ∧ ∀ l : Nat, (l : Int) ≠ b → V' l = V l := by
  by_cases hin : 0 ≤ b ∧ b + 6 < n
  · obtain ⟨b', rfl⟩ : ∃ b' : Nat, b = b' := ⟨b.toNat, by omega⟩
    obtain ⟨f, v, _, hc⟩ := erase_view h hk hf (b := b') (by omega) hr
    have hV : ∀ l : Nat, (l : Int) ≠ b' → upV V b' v l = V l := fun l hl => upV_ne (by omega)
    rcases hc with ⟨_, q2, _⟩ | ⟨_, q2, _⟩ | ⟨_, _, q3, _⟩
    · exact ⟨f, _, q2, hV⟩
    · exact ⟨f, _, q2, hV⟩
    · exact absurd hp q3
  · rw [erase_arg h hin hr]
    exact ⟨.refl _, V, h.mono (by omega), fun _ _ => rfl⟩
structure AI (b : By) (t : TS) (c : Chip) (k : Nat) : Prop where
  dv : ∃ V, DV c t 24 k V ∧ ∀ (j : Nat) (h : j < 8), (V 7).pages[j] = pageL b (j : Nat)
  af : c.after < 0
  fp : FP c + FW c ≤ 3
theorem AI.prog {b : By} {t t' : TS} {c c' : Chip} {k : Nat} {bl j e : Int} {p : Pg} (h : AI b t c k) (hk : k ≤ 100000) (hb : ¬ bl = 7) (hr : ProgD 24 bl j p c t (e, t', c')) : AI b t' c' (k + 20) := by
  obtain ⟨V, hd, h1⟩ := h.dv
  have hfp := h.fp
  obtain ⟨f, V', h2, h3⟩ := prog_any hd (by omega) hfp h.af hr
  have q1 := f.fp
  have q2 := f.fw
  simp only at h2 q1 q2 f
  exact ⟨⟨V', h2, by rw [h3 7 (by omega)]; exact h1⟩, by rw [(f.pos h.af).1]; exact h.af, by omega⟩
theorem AI.erase {b : By} {t t' : TS} {c c' : Chip} {k : Nat} {bl e : Int} (h : AI b t c k) (hk : k ≤ 100000) (hb : ¬ bl = 7) (hr : EraseD 24 bl c t (e, t', c')) : AI b t' c' (k + 20) := by
  obtain ⟨V, hd, h1⟩ := h.dv
  have hfp := h.fp
  obtain ⟨f, V', h2, h3⟩ := erase_any hd (by omega) hfp h.af hr
  have q1 := f.fp
  have q2 := f.fw
  simp only at h2 q1 q2 f
  exact ⟨⟨V', h2, by rw [h3 7 (by omega)]; exact h1⟩, by rw [(f.pos h.af).1]; exact h.af, by omega⟩
theorem fp_len (c : Chip) : FP c ≤ c.pf.list.length := List.length_filter_le _ _
theorem fw_len (c : Chip) : FW c ≤ c.wf.list.length := List.length_filter_le _ _
theorem MG.ai {b : By} {u : List Int} {t : TS} {c : Chip} {s : Sl Int} (h : MG 24 7 b u t c 8) (hs : s.list.length ≤ 3) : AI b t (failC c true s) 200 := by
  obtain ⟨V, hd, h1, h2⟩ := h.dv
  have hp : FP (failC c true s) ≤ s.list.length := fp_len _
  have hw : FW (failC c true s) = 0 := fw_nil h.wf
  exact ⟨⟨V, (hd.fail true s).mono (by omega), fun j hj => h2 j hj hj⟩, h.af, by omega⟩
theorem AI.mono {b : By} {t : TS} {c : Chip} {k k' : Nat} (h : AI b t c k) (hk : k ≤ k') : AI b t c k' := by
  obtain ⟨V, hd, h1⟩ := h.dv
  exact ⟨⟨V, hd.mono hk, h1⟩, h.af, h.fp⟩
theorem apart7_fn {sc : Sl Op7} {fa : Sl Int} {b : By} : Does Tryz.prog 8 [sc.val, fa.val, bv b] (sc.hp tO7 ++ (fa.hp tI ++ [])) (fun v H => v = .bool true) := by
  refine fn_enter (n := 112) Tryz.func8 Tryz.ntmps8 rfl (Nat.le_of_ble_eq_true rfl) <| s_seq <| s_region0 fun ops => oA rfl <| o_nil <| n_K <| s_seq <| s_seq <| s_region0 fun ops => ?_
  refine c_is rfl (speaks7_fn) sP rfl aQ ?_
  refine oR (rd_not rfl) <| o_nil <| n_K ?_
  refine s_condF rfl ?_
  refine s_skip <| n_K <| s_seq <| s_seq ?_
  refine s_region [(3, 22)] rfl fun ops y => ?_
  refine oM rfl <| oR (rd_lenS rfl) <| oR (rd_bin rfl rfl rfl) <| oM rfl ?_
  refine' o_or (j := 3) (k := 3) y rfl rfl rfl rfl rfl rfl rfl (fun hg22 => ?_) ?_
  rotate_left
  · try (simp at hg22; show _)
    refine o_g y rfl rfl ?_
    refine oM rfl ?_
    refine o_g y rfl rfl ?_
    refine oR (rd_lenS rfl) ?_
    refine o_g y rfl rfl ?_
    refine oR (rd_bin rfl rfl rfl) ?_
    exact o_nil ⟨rfl, rfl, ⟨_, sP⟩⟩
  refine o_nil <| n_K ?_
  refine s_cond rfl (fun c26 => ?_) (fun c26 => ?_)
  · simp only [Bool.or_eq_true, Bool.or_eq_false_iff, decide_eq_true_eq, decide_eq_false_iff_not] at c26
    refine s_seq <| s_region0 fun ops => oA rfl <| o_nil <| n_K <| s_ret <| r_K ?_
    exact leaf_r (rets1 Tryz.results8 (rv_tmp rfl)) (by rfl) sP
  · simp only [Bool.or_eq_true, Bool.or_eq_false_iff, decide_eq_true_eq, decide_eq_false_iff_not] at c26
    have hsc : sc.list.length ≤ 60 ∧ fa.list.length ≤ 3 := (by omega)
    refine s_skip <| n_K <| s_seq <| s_region0 fun ops => ?_
    refine c_ex rfl (dk_laid (m := 24) (by decide) fx24) sP rfl fun v27 Y27 h27 => ?_
    obtain ⟨d, rfl, rfl, hd⟩ := h27
    refine so_ap aQ ?_
    refine oA rfl <| o_nil <| n_K <| s_seq <| s_seq <| s_region0 fun ops => oM rfl <| oR (rd_eqNil rfl rfl) <| o_nil <| n_K ?_
    refine s_condF rfl ?_
    refine s_skip <| n_K <| s_seq <| s_seq <| s_region0 fun ops => oA rfl <| o_nil <| n_K <| s_block ?_
    refine s_loop2 [0, 1, 2, 7] kQ (fun (st : Nat × Tab × Chip) => [(8, .int .i64 st.1)]) (fun (st : Nat × Tab × Chip) => dkH ⟨d.dk, st.2.1, st.2.2⟩ ++ (sc.hp tO7 ++ (fa.hp tI ++ []))) (fun (st : Nat × Tab × Chip) => st.1 ≤ 8 ∧ MG 24 7 b (fmtV (badL 24 []) ((24 : Nat) - 6 : Int) 24) st.2.1.ts st.2.2 st.1) (fun (st : Nat × Tab × Chip) => 8 - st.1) ((0, d.t, d.c)) ⟨Nat.zero_le _, hd.mg⟩ kP sP ?_
    rintro ⟨i, t1, c1⟩ ⟨g0, g1⟩
    simp only at g0 g1
    refine s_seq <| s_seq <| s_region0 fun ops => oM rfl <| oR (rd_bin rfl rfl rfl) <| o_nil <| n_K ?_
    refine s_cond rfl (fun c31 => ?_) (fun c31 => ?_)
    · simp only [decide_eq_true_eq, decide_eq_false_iff_not] at c31
      have hi : i < 8 := (by omega)
      refine s_skip <| n_K <| s_seq <| s_block <| s_seq <| s_region0 fun ops => oM rfl <| oM rfl <| oM rfl <| oM rfl ?_
      refine c_is rfl (page_fn7 (b := b) (k := (i : Nat))) sP rfl aQ ?_
      refine c_ex rfl (dk_program (d := ⟨d.dk, t1, c1⟩) g1.dv.choose_spec.1 (b := (7 : Nat)) (j := (i : Nat)) (p := pageL b (i : Nat))) sP rfl fun v39 Y39 h39 => ?_
      obtain ⟨t', c', e, rfl, rfl, hP⟩ := h39
      obtain ⟨rfl, o1⟩ := g1.step (by omega) (by omega) hP
      refine so_ap aQ ?_
      refine oR (rd_bin rfl rfl rfl) <| o_nil <| n_K ?_
      refine s_cond rfl (fun c40 => ?_) (fun c40 => ?_)
      · skip
        try (exfalso; (simp at c40); done)
        all_goals
          refine s_seq <| s_region0 fun ops => oA rfl <| o_nil <| n_K <| s_ret <| r_blk <| r_K <| r_K <| r_blk <| r_K ?_
          exact leaf_r (rets1 Tryz.results8 (rv_tmp rfl)) (by rfl) sP
      · skip
        refine s_skip <| n_blk <| n_K <| s_region0 fun ops => oM rfl ?_
        refine oR (rd_add64 rfl rfl (by omega)) ?_
        refine oA rfl <| o_nil <| n_K ?_
        exact ⟨(i + 1, t', c'), ⟨by simp only; omega, o1⟩, (by simp only; omega), lZ⟩
    · simp only [decide_eq_true_eq, decide_eq_false_iff_not] at c31
      have hi : i = 8 := (by omega)
      subst hi
      refine s_exit <| x_K <| x_K <| x_blk <| n_K <| s_seq <| s_region0 fun ops => ?_
      refine o_bslice_k rfl rfl rfl rfl fun b41 => ?_
      refine so_eq (own0 (α := Int) (b := b41) (T := tI)) ?_
      refine oA rfl <| o_nil <| n_K <| s_seq <| s_seq <| s_region0 fun ops => oM rfl <| oR (rd_lenS rfl) <| oM rfl <| o_nil <| n_K <| s_block ?_
      refine s_loop2 [0, 2, 7, 42, 43] kQ (fun (st : Nat × Sl Int) => [(44, .int .i64 st.1), (9, st.2.val)]) (fun (st : Nat × Sl Int) => st.2.hp tI ++ (dkH ⟨d.dk, t1, c1⟩ ++ (sc.hp tO7 ++ (fa.hp tI ++ [])))) (fun (st : Nat × Sl Int) => st.1 ≤ fa.list.length ∧ st.2.list.length = st.1 ∧ st.2.isOwn = true) (fun (st : Nat × Sl Int) => fa.list.length - st.1) ((0, mt Int b41)) ⟨Nat.zero_le _, rfl, rfl⟩ kP sP ?_
      rintro ⟨m, fs⟩ ⟨k0, k1, k2⟩
      simp only at k0 k1 k2
      refine s_seq <| s_region0 fun ops => oR (rd_bin rfl rfl rfl) <| o_nil <| n_K <| s_seq ?_
      refine s_cond rfl (fun c45 => ?_) (fun c45 => ?_)
      · simp only [decide_eq_true_eq, decide_eq_false_iff_not] at c45
        obtain ⟨z, hg⟩ : ∃ z, fa.list[m]? = some z := ⟨_, List.getElem?_eq_getElem (by omega)⟩
        obtain ⟨kk, hkk, hkl⟩ := and_le z 3 (by omega)
        refine s_skip <| n_K <| s_seq <| s_block <| s_seq <| s_region0 fun ops => oM rfl ?_
        refine oR (rd_ixSl rfl rfl (by omega)) ?_
        refine oR (rd_ldSl (o := 0) rfl pL hg rfl rfl) ?_
        refine oA rfl <| oA rfl <| o_nil <| n_K <| s_region0 fun ops => oM rfl <| oM rfl ?_
        refine oR (rd_mul64 rfl rfl (by omega)) ?_
        refine oM rfl ?_
        refine oR (show Rd _ _ _ _ (.int .i64 (kk : Nat)) from by (rw [← hkk]; exact rd_bin rfl rfl rfl)) ?_
        refine oR (rd_add64 rfl rfl (by omega)) ?_
        refine o_bslice_k rfl rfl rfl rfl fun b55 => ?_
        refine o_append_sl (s := fs) (new := [4 * (m : Int) + (kk : Nat)]) (m := 1) rfl rfl pL k2 (src_blk (r := true) mM rfl) rfl rfl rfl rfl (by omega) rfl fun fs' hs1 hs2 => ?_
        refine oA rfl <| o_nil <| n_blk <| n_K <| s_region0 fun ops => ?_
        refine oR (rd_add64 rfl rfl (by omega)) ?_
        refine oM rfl <| o_nil <| n_K ?_
        exact ⟨(m + 1, fs'), ⟨by simp only; omega, by rw [hs1]; simp; omega, hs2⟩, (by simp only; omega), lZ⟩
      · simp only [decide_eq_true_eq, decide_eq_false_iff_not] at c45
        refine s_exit <| x_K <| x_K <| x_blk <| n_K <| s_seq <| s_region0 fun ops => oM rfl <| oN rfl <| oF rfl ?_
        refine oR (rd_dc (d := ⟨d.dk, t1, c1⟩) rfl pL) ?_
        refine oM rfl ?_
        refine c_ex rfl (dk_fail (d := ⟨d.dk, t1, c1⟩) (s := fs) (pr := true) (by omega)) sP rfl fun v63 Y63 h63 => ?_
        obtain ⟨s', rfl, rfl, hs'⟩ := h63
        refine so_ap aQ ?_
        refine o_nil <| n_K <| s_seq <| s_seq <| s_region0 fun ops => oM rfl <| oR (rd_lenS rfl) <| oM rfl <| o_nil <| n_K <| s_block ?_
        refine s_loop2 [2, 7, 64, 65] kQ (fun (st : Nat × Tab × Chip) => [(66, .int .i64 st.1)]) (fun (st : Nat × Tab × Chip) => dkH ⟨d.dk, st.2.1, st.2.2⟩ ++ (sc.hp tO7 ++ [])) (fun (st : Nat × Tab × Chip) => st.1 ≤ sc.list.length ∧ AI b st.2.1.ts st.2.2 (200 + 20 * st.1)) (fun (st : Nat × Tab × Chip) => sc.list.length - st.1) ((0, t1, failC c1 true s')) ⟨Nat.zero_le _, g1.ai (by rw [hs']; omega)⟩ kP sP ?_
        rintro ⟨q, t2, c2⟩ ⟨l0, l1⟩
        simp only at l0 l1
        refine s_seq <| s_region0 fun ops => oR (rd_bin rfl rfl rfl) <| o_nil <| n_K <| s_seq ?_
        refine s_cond rfl (fun c67 => ?_) (fun c67 => ?_)
        · simp only [decide_eq_true_eq, decide_eq_false_iff_not] at c67
          obtain ⟨z, hg⟩ : ∃ z, sc.list[q]? = some z := ⟨_, List.getElem?_eq_getElem (by omega)⟩
          refine s_skip <| n_K <| s_seq <| s_block <| s_seq <| s_region0 fun ops => oM rfl ?_
          refine oR (rd_ixSl rfl rfl (by omega)) ?_
          refine oR (rd_ldSlA (o := 0) rfl pL hg rfl rfl) ?_
          refine o_alloc rfl fun b13 => ?_
          refine oA rfl ?_
          refine o_store rfl rfl uD rfl rfl rfl ?_
          refine o_nil <| n_K <| s_seq <| s_seq <| s_region0 fun ops => oF rfl ?_
          refine oR (rd_ld rfl mM rfl) ?_
          refine oR (rd_bin rfl rfl rfl) <| o_nil <| n_K ?_
          refine s_cond rfl (fun c73 => ?_) (fun c73 => ?_)
          · skip
            have h7 : z.block = 7 := (by simpa using c73)
            refine s_exit <| x_K <| x_blk <| n_K <| s_region0 fun ops => ?_
            refine oR (rd_add64 rfl rfl (by omega)) ?_
            refine oM rfl <| o_nil <| n_K ?_
            first | exact ⟨(q + 1, t', c'), ⟨by simp only; omega, (l1.erase (by omega) h7 hE).mono (by omega)⟩, by simp only; omega, lZ⟩ | exact ⟨(q + 1, t', c'), ⟨by simp only; omega, (l1.prog (by omega) h7 hP).mono (by omega)⟩, by simp only; omega, lZ⟩ | exact ⟨(q + 1, t2, c2), ⟨by simp only; omega, l1.mono (by omega)⟩, by simp only; omega, lZ⟩
          · skip
            have h7 : ¬ z.block = 7 := (by simpa using c73)
            refine s_skip <| n_K <| s_seq <| s_region0 fun ops => oF rfl ?_
            refine oR (rd_ld rfl mM rfl) ?_
            refine oR (rd_bin rfl rfl rfl) <| oR (rd_bin rfl rfl rfl) <| o_nil <| n_K ?_
            refine s_cond rfl (fun c77 => ?_) (fun c77 => ?_)
            · skip
              refine s_region0 fun ops => oM rfl <| oF rfl ?_
              refine oR (rd_ld rfl mM rfl) ?_
              refine c_ex rfl (dk_erase (d := ⟨d.dk, t2, c2⟩) l1.dv.choose_spec.1 (b := z.block)) sP rfl fun v81 Y81 h81 => ?_
              obtain ⟨t', c', e, rfl, rfl, hE⟩ := h81
              refine so_ap aQ ?_
              refine o_nil <| n_blk <| n_K <| s_region0 fun ops => ?_
              refine oR (rd_add64 rfl rfl (by omega)) ?_
              refine oM rfl <| o_nil <| n_K ?_
              first | exact ⟨(q + 1, t', c'), ⟨by simp only; omega, (l1.erase (by omega) h7 hE).mono (by omega)⟩, by simp only; omega, lZ⟩ | exact ⟨(q + 1, t', c'), ⟨by simp only; omega, (l1.prog (by omega) h7 hP).mono (by omega)⟩, by simp only; omega, lZ⟩ | exact ⟨(q + 1, t2, c2), ⟨by simp only; omega, l1.mono (by omega)⟩, by simp only; omega, lZ⟩
            · skip
              refine s_draw [] [(9, [(0, false), (1, false), (2, false), (3, false), (4, false), (5, false), (6, false), (7, false), (8, true)]), (10, [(9, true)])] (by kernel_rfl) rfl fun ops w0 H0 y => ?_
              refine p_all <| xM rfl <| xF rfl ?_
              refine xR (rd_ld rfl mM rfl) ?_
              refine xF rfl ?_
              refine xR (rd_ld rfl mM rfl) ?_
              refine xF rfl ?_
              refine xR (show Rd _ _ _ _ (bv z.byte) from rd_ld rfl mM rfl) ?_
              refine xM rfl <| x_so ?_
              refine c_is rfl (page_fn7 (b := z.byte) (k := (q : Nat))) sP rfl aQ ?_
              refine o_nil ⟨rfl, ⟨_, sP⟩, ?_⟩
              refine x_nil <| p_none <| x_so ?_
              refine c_ex rfl (dk_program (d := ⟨d.dk, t2, c2⟩) l1.dv.choose_spec.1 (b := z.block) (j := z.page) (p := pageL z.byte (q : Nat))) sP rfl fun v91 Y91 h91 => ?_
              obtain ⟨t', c', e, rfl, rfl, hP⟩ := h91
              refine so_ap aQ ?_
              refine o_nil ⟨rfl, ⟨_, sP⟩, ?_⟩
              refine x_nil <| p_end <| n_blk <| n_K <| s_region0 fun ops => ?_
              refine oR (rd_add64 rfl rfl (by omega)) ?_
              refine oM rfl <| o_nil <| n_K ?_
              first | exact ⟨(q + 1, t', c'), ⟨by simp only; omega, (l1.erase (by omega) h7 hE).mono (by omega)⟩, by simp only; omega, lZ⟩ | exact ⟨(q + 1, t', c'), ⟨by simp only; omega, (l1.prog (by omega) h7 hP).mono (by omega)⟩, by simp only; omega, lZ⟩ | exact ⟨(q + 1, t2, c2), ⟨by simp only; omega, l1.mono (by omega)⟩, by simp only; omega, lZ⟩
        · simp only [decide_eq_true_eq, decide_eq_false_iff_not] at c67
          obtain ⟨V, hV, hVp⟩ := l1.dv
          refine s_exit <| x_K <| x_K <| x_blk <| n_K <| s_seq <| s_seq <| s_region0 fun ops => oA rfl <| o_nil <| n_K <| s_block ?_
          refine s_loop2 [2, 7] kQ (fun (i : Nat) => [(14, .int .i64 i)]) (fun (i : Nat) => dkH ⟨d.dk, t2, c2⟩ ++ []) (fun (i : Nat) => i ≤ 8) (fun (i : Nat) => 8 - i) (0) (Nat.zero_le _) kP sP ?_
          rintro x hx
          refine s_seq <| s_seq <| s_region0 fun ops => oM rfl <| oR (rd_bin rfl rfl rfl) <| o_nil <| n_K ?_
          refine s_cond rfl (fun c94 => ?_) (fun c94 => ?_)
          · simp only [decide_eq_true_eq, decide_eq_false_iff_not] at c94
            have hx8 : x < 8 := (by omega)
            have hrd : mayE c2 (atD t2.ts ((7 : Nat) : Int)) (x : Nat) = 0 ∧ readP c2 (atD t2.ts ((7 : Nat) : Int)) (x : Nat) = (V 7).pages[x] := dread_at hV (b := 7) (j := x) (by omega) (by omega)
            refine s_skip <| n_K <| s_seq <| s_block <| s_seq <| s_region0 fun ops => oM rfl <| oM rfl ?_
            refine c_is rfl ((dk_read (d := ⟨d.dk, t2, c2⟩) (b := (7 : Nat)) (k := (x : Nat))).to (by rw [hrd.1, hrd.2, hVp x hx8]) rfl) sP rfl aQ ?_
            refine oM rfl <| oE rfl rfl <| oE rfl rfl ?_
            refine o_alloc rfl fun b15 => ?_
            rw [zeroP_eq]
            first | refine o_store rfl rfl uD (vc_vb) (vbc_len) (spl_vb (by first | exact vbc_len | exact List.length_replicate ..)) ?_ | refine o_store rfl rfl uD rfl rfl rfl ?_
            refine oA rfl <| o_nil <| n_K <| s_seq ?_
            refine s_draw [(2, 105)] [(2, [(0, false), (1, false)]), (9, [(2, false), (3, false), (4, false), (5, false), (6, true), (7, false), (8, false)])] (by kernel_rfl) rfl fun ops w0 H0 y => ?_
            refine p_all <| xM rfl <| xR (rd_bin rfl rfl rfl) <| x_nil <| p_all <| xM rfl ?_
            refine' x_or (j := 2) (k := 5) y rfl rfl rfl rfl rfl rfl rfl (fun hg105 => ?_) ?_
            rotate_left
            · try (simp at hg105; show _)
              refine x_g y rfl rfl ?_
              refine xR (rd_ldA rfl mM (by first | exact cut_vb | rfl)) ?_
              refine x_g y rfl rfl ?_
              refine xM rfl ?_
              refine x_g y rfl rfl ?_
              refine xM rfl ?_
              refine x_g y rfl rfl ?_
              refine x_so ?_
              refine c_is rfl (page_fn7 (b := b) (k := (x : Nat))) sP rfl aQ ?_
              refine o_nil ⟨rfl, ⟨_, sP⟩, ?_⟩
              refine x_g y rfl rfl ?_
              refine xR (rd_neA rfl rfl (pg_eq _ _)) ?_
              exact x_nil ⟨rfl, ⟨_, sP⟩⟩
            refine x_nil <| p_end <| n_K ?_
            refine s_cond rfl (fun c111 => ?_) (fun c111 => ?_)
            · skip
              try (exfalso; (simp at c111); done)
              all_goals
                refine s_seq <| s_region0 fun ops => oA rfl <| o_nil <| n_K <| s_ret <| r_blk <| r_K <| r_K <| r_blk <| r_K ?_
                exact leaf_r (rets1 Tryz.results8 (rv_tmp rfl)) (by rfl) sP
            · skip
              refine s_skip <| n_blk <| n_K <| s_region0 fun ops => oM rfl ?_
              refine oR (rd_add64 rfl rfl (by omega)) ?_
              refine oA rfl <| o_nil <| n_K ?_
              exact ⟨(x + 1), (by first | omega | trivial | (refine ⟨?_, ?_⟩ <;> omega)), (by omega), lZ⟩
          · simp only [decide_eq_true_eq, decide_eq_false_iff_not] at c94
            refine s_exit <| x_K <| x_K <| x_blk <| n_K <| s_seq <| s_region0 fun ops => oA rfl <| o_nil <| n_K <| s_ret ?_
            exact leaf_r (rets1 Tryz.results8 (rv_tmp rfl)) (by rfl) sP
end Go.Proofs.YtdfidkhbldedlaaGreat
end
section
/- What every row of the laws of disks opens its arguments by. -/
namespace Go.Proofs.YtdfidkhbldedlaaGreat
open Go.ChangeShapes Go.WideShapes Go.ChangeAt Go.RowKit Go.K
set_option linter.unusedVariables false
set_option linter.unusedSimpArgs false
set_option linter.constructorNameAsVariable false
set_option maxRecDepth 100000
theorem row_op7 {row : List Value} (h : Conf [some .i64, some .i64, some .i64, some .i64, some .i64, some .u8, none] row) : ∃ x : Op7, row = Cel.cs x := by
  obtain ⟨v0, v1, v2, v3, v4, v5, v6, rfl⟩ : ∃ v0 v1 v2 v3 v4 v5 v6, row = [v0, v1, v2, v3, v4, v5, v6] := by
    have := h.len
    match row, this with
    | [v0, v1, v2, v3, v4, v5, v6], _ => exact ⟨v0, v1, v2, v3, v4, v5, v6, rfl⟩
  obtain ⟨⟨n0, rfl, _⟩, ⟨n1, rfl, _⟩, ⟨n2, rfl, _⟩, ⟨n3, rfl, _⟩, ⟨n4, rfl, _⟩, ⟨n5, rfl, hw⟩, ⟨b, rfl⟩, _⟩ := h
  obtain ⟨x, hx⟩ : ∃ x : By, [Value.int .u8 n5] = [bv x] := Go.K.row_byte (row := [.int .u8 n5]) ⟨⟨n5, rfl, hw⟩, trivial⟩
  simp only [List.cons.injEq, and_true] at hx
  exact ⟨⟨n0, n1, n2, n3, n4, x, b⟩, by rw [hx]; rfl⟩
section
variable {H : Type} {enc : TypeId × Value → H} {W : World} {base b1 : Nat} {sp : Nat → Bool} {held : Bool} {v : Value} {d : DataW H} {ps : List MemPlace}
theorem ops7_arg (ho : Value.okWide Tryz.prog W .any base 70 v) (h : DataW.Trod enc Tryz.prog W b1 sp held 70 v d ps) : ∃ s : Sl Op7, v = s.val ∧ HpOk (s.hp tO7) W ∧ ∀ x ∈ s.hp tO7, x.2.1 = false :=
  sl_arg Tryz.underlying70 (ks := [some .i64, some .i64, some .i64, some .i64, some .i64, some .u8, none]) (by kernel_rfl) rfl (by decide) (fun _ h => row_op7 h) tO7 ho h
theorem u8_arg (ho : Value.okWide Tryz.prog W .any base 5 v) : ∃ b : By, v = bv b := by
  simp only [Value.okWide, Tryz.underlying5, Cell.okWide] at ho
  cases v <;> simp_all [Cell.ok]
  rename_i k n
  obtain ⟨rfl, h2⟩ := ho
  have hn : 0 ≤ n ∧ n < 256 := by simp [IntKind.has, IntKind.min, IntKind.max, IntKind.bits, IntKind.signed] at h2; omega
  exact ⟨BitVec.ofInt 8 n, by unfold bv; rw [BitVec.toNat_ofInt]; congr 1; omega⟩
end
end Go.Proofs.YtdfidkhbldedlaaGreat
end
section
/- The document's disk: its blocks in memory; walks. -/
namespace Go.Proofs.YtdfidkhbldedlaaGreat
open Go.K
set_option linter.unusedVariables false
set_option linter.unusedSimpArgs false
instance und85 : Und Tryz.prog 85 (.array 8 4) := ⟨Tryz.underlying85⟩
instance agg85 : Agg Tryz.prog 85 true := ⟨⟨_, Tryz.underlying85, rfl⟩⟩
instance siz85 : Siz Tryz.prog 85 8 := ⟨by kernel_rfl⟩
instance agg87 : Agg Tryz.prog 87 true := ⟨⟨_, Tryz.underlying87, rfl⟩⟩
instance siz87 : Siz Tryz.prog 87 2074 := ⟨by kernel_rfl⟩
instance und88 : Und Tryz.prog 88 (.slice 87) := ⟨Tryz.underlying88⟩
instance agg88 : Agg Tryz.prog 88 false := ⟨⟨_, Tryz.underlying88, rfl⟩⟩
instance siz88 : Siz Tryz.prog 88 1 := ⟨by kernel_rfl⟩
instance agg90 : Agg Tryz.prog 90 true := ⟨⟨_, Tryz.underlying90, rfl⟩⟩
instance siz90 : Siz Tryz.prog 90 1 := ⟨by kernel_rfl⟩
instance zer87 : Zer Tryz.prog 87 (List.replicate 2064 (.int .u8 0) ++ [.bool false, .bool false, .bool false, .bool false, .bool false, .bool false, .bool false, .bool false, .int .i64 0, .bool false]) := ⟨by kernel_rfl⟩
instance zer90 : Zer Tryz.prog 90 ([.slice none 0 0]) := ⟨by kernel_rfl⟩
instance fld87_0 : Fld Tryz.prog 87 0 0 := ⟨⟨_, _, 2063, Tryz.underlying87, rfl, by kernel_rfl, rfl⟩⟩
instance fld87_1 : Fld Tryz.prog 87 1 2064 := ⟨⟨_, _, 7, Tryz.underlying87, rfl, by kernel_rfl, rfl⟩⟩
instance fld87_3 : Fld Tryz.prog 87 3 2073 := ⟨⟨_, _, 0, Tryz.underlying87, rfl, by kernel_rfl, rfl⟩⟩
instance fld90_0 : Fld Tryz.prog 90 0 0 := ⟨⟨_, _, 0, Tryz.underlying90, rfl, by kernel_rfl, rfl⟩⟩
instance plc87 : Plc Tryz.prog 87 [(0, 2064), (2064, 8), (2072, 1), (2073, 1)] := ⟨⟨_, Tryz.underlying87, fun _ => by kernel_rfl⟩⟩
instance plc90 : Plc Tryz.prog 90 [(0, 1)] := ⟨⟨_, Tryz.underlying90, fun _ => by kernel_rfl⟩⟩
instance byt87 : Byt Tryz.prog 87 2088 := ⟨by kernel_rfl⟩
instance ent34 : Ent Tryz.prog 34 := ⟨fun _ _ => by kernel_rfl⟩
instance ent36 : Ent Tryz.prog 36 := ⟨fun _ _ => by kernel_rfl⟩
instance ent37 : Ent Tryz.prog 37 := ⟨fun _ _ => by kernel_rfl⟩
instance ent70 : Ent Tryz.prog 70 := ⟨fun _ _ => by kernel_rfl⟩
instance ent71 : Ent Tryz.prog 71 := ⟨fun _ _ => by kernel_rfl⟩
set_option maxRecDepth 20000
/-- A block of the document's disk. -/
structure RB where
  pages : Vector Pg 8
  sure : Vector Bool 8
  next : Int
  torn : Bool
def rbt (w : RB) : List Value := w.sure.toList.map Value.bool ++ [.int .i64 w.next, .bool w.torn]
def rbc (w : RB) : List Value := pgsc w.pages ++ rbt w
def rbs (l : List RB) : List Value := l.flatMap rbc
theorem rbt_len (w : RB) : (rbt w).length = 10 := by simp [rbt]
theorem rbc_len (w : RB) : (rbc w).length = 2074 := by simp [rbc, pgsc_len, rbt_len]
def zeroRB : RB := ⟨Vector.replicate 8 zeroP, Vector.replicate 8 false, 0, false⟩
theorem zeroRB_eq : List.replicate 2064 (Value.int .u8 0) ++ [Value.bool false, .bool false, .bool false, .bool false, .bool false, .bool false, .bool false, .bool false, .int .i64 0, .bool false] = rbc zeroRB := by kernel_rfl
theorem cut_rbc (w : RB) : cut (rbc w) 0 2074 = some (rbc w) := by have := cut_whole (rbc w); rwa [rbc_len] at this
theorem rbc_one (w : RB) : ((rbc w).all (·.oneCell')) = true := by
  rw [List.all_eq_true]
  intro x hx
  rcases List.mem_append.1 hx with h | h
  · obtain ⟨p, _, hp⟩ := List.mem_flatMap.1 h
    obtain ⟨y, _, rfl⟩ := List.mem_map.1 hp
    rfl
  · rcases List.mem_append.1 h with h | h
    · obtain ⟨y, _, rfl⟩ := List.mem_map.1 h; rfl
    · simp at h; rcases h with rfl | rfl <;> rfl
instance : Cel RB := ⟨2074, rbc, fun _ => rbc_len _, rbc_one⟩
theorem spl_rbc {cs : List Value} {w : RB} (h : cs.length = 2074) : splice cs 0 (rbc w) = some (rbc w) := splice_whole (by rw [rbc_len, h])
theorem vc_rbc {w : RB} : vcells (.agg (rbc w).toArray) = some (rbc w) := by
  have := rbc_one w
  simp only [vcells, this, if_true]
theorem rb_tail {w : RB} {o : Nat} {v : Value} (h : nth (rbt w) o = some v) : nth (rbc w) (2064 + o) = some v := by
  have := nth_right (b := pgsc w.pages) (d := rbt w) (o := o)
  rw [pgsc_len] at this
  exact this.trans h
theorem rbt_sure {w : RB} {j : Nat} (hj : j < 8) : nth (rbt w) j = some (.bool w.sure[j]) := by
  unfold rbt
  rw [nth_left (by simp; exact hj), nth_map, List.getElem?_eq_getElem (by simp; exact hj)]
  simp
theorem rbt_next {w : RB} : nth (rbt w) 8 = some (.int .i64 w.next) := by
  have := nth_right (b := w.sure.toList.map Value.bool) (d := [.int .i64 w.next, .bool w.torn]) (o := 0)
  simp only [List.length_map, Vector.length_toList] at this
  exact this
theorem rbt_torn {w : RB} : nth (rbt w) 9 = some (.bool w.torn) := by
  have := nth_right (b := w.sure.toList.map Value.bool) (d := [.int .i64 w.next, .bool w.torn]) (o := 1)
  simp only [List.length_map, Vector.length_toList] at this
  exact this
theorem rb_cutPg {w : RB} {j : Nat} (hj : j < 8) : cut (rbc w) (j * 258) 258 = some (vbc w.pages[j]) := by
  refine cut_left ?_ _
  have hp : w.pages.toList[j]? = some w.pages[j] := by rw [List.getElem?_eq_getElem (by simpa using hj)]; simp
  have := cut_row (f := vbc) (n := 258) (o := 0) (m := 258) (fun x _ => vbc_len) hp cut_vb
  rw [Nat.add_zero] at this; exact this
def RB.setPg (w : RB) (j : Nat) (q : Pg) : RB := { w with pages := w.pages.setIfInBounds j q }
def RB.setSure (w : RB) (j : Nat) (b : Bool) : RB := { w with sure := w.sure.setIfInBounds j b }
theorem rb_setPg {w : RB} {j : Nat} {q : Pg} (hj : j < 8) : splice (rbc w) (j * 258) (vbc q) = some (rbc (w.setPg j q)) := by
  have hp : w.pages.toList[j]? = some w.pages[j] := by rw [List.getElem?_eq_getElem (by simpa using hj)]; simp
  have e : (w.setPg j q).pages.toList = w.pages.toList.set j q := by
    apply List.ext_getElem
    · simp [RB.setPg]
    · intro i h1 h2
      simp [RB.setPg, Vector.getElem_setIfInBounds, List.getElem_set]
  have h1 : splice (pgsc w.pages) (j * 258) (vbc q) = some (pgsc (w.setPg j q).pages) := by
    rw [pgsc, pgsc, e]
    have := splice_row (f := vbc) (n := 258) (o := 0) (fun x _ => vbc_len) hp (spl_vb (p := q) vbc_len)
    rw [Nat.add_zero] at this
    exact this
  exact splice_left h1 _
theorem rb_setT {w w' : RB} {o : Nat} {vs : List Value} (hp : w'.pages = w.pages) (h : splice (rbt w) o vs = some (rbt w')) : splice (rbc w) (2064 + o) vs = some (rbc w') := by
  have := splice_right (a := pgsc w.pages) (d := rbt w) (o := o) (c := vs) h
  rw [pgsc_len] at this
  rw [rbc, this, rbc, hp]
theorem rb_setSure {w : RB} {j : Nat} {b : Bool} (hj : j < 8) : splice (rbc w) (2064 + j) [.bool b] = some (rbc (w.setSure j b)) := by
  refine rb_setT rfl ?_
  have e : (w.setSure j b).sure.toList = w.sure.toList.set j b := by
    apply List.ext_getElem
    · simp [RB.setSure]
    · intro i h1 h2
      simp [RB.setSure, Vector.getElem_setIfInBounds, List.getElem_set]
  have h1 : splice (w.sure.toList.map Value.bool) j [.bool b] = some ((w.setSure j b).sure.toList.map Value.bool) := by
    rw [e]
    exact splice_one (g := Value.bool) (by simpa using hj)
  exact splice_left h1 _
theorem rb_setNext {w : RB} {n : Int} : splice (rbc w) (2064 + 8) [.int .i64 n] = some (rbc { w with next := n }) := by
  refine rb_setT rfl ?_
  have := splice_right (a := w.sure.toList.map Value.bool) (d := [.int .i64 w.next, .bool w.torn]) (o := 0) (c := [.int .i64 n]) (r := [.int .i64 n, .bool w.torn]) rfl
  simp only [List.length_map, Vector.length_toList] at this
  exact this
theorem rb_setTorn {w : RB} {b : Bool} : splice (rbc w) (2064 + 9) [.bool b] = some (rbc { w with torn := b }) := by
  refine rb_setT rfl ?_
  have := splice_right (a := w.sure.toList.map Value.bool) (d := [.int .i64 w.next, .bool w.torn]) (o := 1) (c := [.bool b]) (r := [.int .i64 w.next, .bool b]) rfl
  simp only [List.length_map, Vector.length_toList] at this
  exact this
section
variable {l : List RB} {k : Nat} {w : RB}
theorem rbs_len : (rbs l).length = l.length * 2074 := row_len l fun x _ => rbc_len x
theorem rbs_nth {o : Nat} {v : Value} (hk : l[k]? = some w) (ho : o < 2074) (h : nth (rbc w) o = some v) : nth (rbs l) (k * 2074 + o) = some v := by
  rw [rbs, nth_row (n := 2074) (fun b _ => rbc_len b) hk ho]; exact h
theorem rbs_cut (hk : l[k]? = some w) : cut (rbs l) (k * 2074) 2074 = some (rbc w) := by
  have := cut_row (f := rbc) (n := 2074) (o := 0) (m := 2074) (fun b _ => rbc_len b) hk (cut_rbc w)
  rw [Nat.add_zero] at this; exact this
theorem rbs_set {o : Nat} {vs : List Value} {w' : RB} (hk : l[k]? = some w) (h : splice (rbc w) o vs = some (rbc w')) : splice (rbs l) (k * 2074 + o) vs = some (rbs (l.set k w')) :=
  splice_row (f := rbc) (n := 2074) (fun b _ => rbc_len b) hk h
end
abbrev tRD : TypeId := 90
abbrev tRB : TypeId := 87
/-- The document's disk. -/
structure RDk where
  d : Nat
  b : Nat
  bs : List RB
abbrev rdc (r : RDk) : List Value := [.slice (some ⟨r.b, 0, none⟩) r.bs.length r.bs.length]
abbrev rkH (r : RDk) : Hp := [(r.d, true, C (rdc r) tRD), (r.b, true, C (rbs r.bs) tRB)]
def rthere (r : RDk) (b k : Int) : Bool := ((decide (0 ≤ b) && decide (b < r.bs.length)) && decide (0 ≤ k)) && decide (k < 8)
theorem rblank_fn : Does Tryz.prog 70 [] [] (Is (.agg (vbc blankP).toArray) []) := by
  refine fn_enter (n := 11) Tryz.func70 Tryz.ntmps70 rfl (Nat.le_of_ble_eq_true rfl) <| s_seq <| s_region0 fun ops => ?_
  refine o_alloc rfl fun b0 => ?_
  rw [fillF_0]
  refine o_nil <| n_K <| s_seq <| s_region0 fun ops => ?_
  refine oR (show Rd _ _ _ _ (.agg (vbc (fillF 0)).toArray) from (by rw [← fillF_0]; exact rd_zeroA)) ?_
  refine o_alloc rfl fun b1 => ?_
  rw [fillF_0]
  first | refine o_store rfl rfl uD (vc_vb) (vbc_len) (spl_vb (by first | exact vbc_len | exact List.length_replicate ..)) ?_ | refine o_store rfl rfl uD rfl rfl rfl ?_
  refine o_nil <| n_K <| s_seq <| s_seq <| s_region0 fun ops => oA rfl <| o_nil <| n_K <| s_block ?_
  refine s_loop2 [0, 1] kQ (fun (s : Nat) => [(2, .int .i64 s)]) (fun (s : Nat) => [(b1, true, C (vbc (fillF s)) 58), (b0, true, C (vbc (fillF 0)) 58)]) (fun (s : Nat) => s ≤ 258) (fun (s : Nat) => 258 - s) ((0 : Nat)) (by omega) kP sP ?_
  rintro i h0
  refine s_seq <| s_seq <| s_region0 fun ops => oM rfl <| oR (rd_bin rfl rfl rfl) <| o_nil <| n_K ?_
  refine s_cond rfl (fun c5 => ?_) (fun c5 => ?_)
  · try simp at c5
    refine s_skip <| n_K <| s_seq <| s_block <| s_region0 fun ops => oM rfl ?_
    refine oR (rd_ixA rfl rfl (by omega)) ?_
    refine o_store (cs' := vbc (fillF (i + 1))) rfl rfl uD rfl rfl (by simpa using fillF_step (i := i) (by omega)) ?_
    refine o_nil <| n_blk <| n_K <| s_region0 fun ops => oM rfl ?_
    refine oR (rd_add64 rfl rfl (by omega)) ?_
    refine oA rfl <| o_nil <| n_K ?_
    exact ⟨i + 1, (by omega), (by omega), lZ⟩
  · try simp at c5
    refine s_exit <| x_K <| x_K <| x_blk <| n_K <| s_seq <| s_region0 fun ops => ?_
    refine oR (rd_ldA rfl mM (by first | exact cut_vb | rfl)) ?_
    first | refine o_store rfl rfl uD (vc_vb) (vbc_len) (spl_vb (by first | exact vbc_len | exact List.length_replicate ..)) ?_ | refine o_store rfl rfl uD rfl rfl rfl ?_
    refine o_nil <| n_K <| s_ret ?_
    refine leaf_is (rets1 Tryz.results70 (rv_cell rfl mM (by first | exact cut_vb | rfl))) ?_ sP
    rw [show i = 258 by omega, fillF_end]
section
variable {r : RDk}
theorem rthere_fn {b k : Int} : Does Tryz.prog 36 [ptr r.d, .int .i64 b, .int .i64 k] (rkH r) (Is (.bool (rthere r b k)) (rkH r)) := by
  refine fn_enter (n := 26) Tryz.func36 Tryz.ntmps36 rfl (Nat.le_of_ble_eq_true rfl) <| s_seq <| s_region0 fun ops => oA rfl <| o_nil <| n_K <| s_seq ?_
  refine s_region [(2, 9), (11, 18), (15, 22)] rfl fun ops y => ?_
  refine oM rfl <| oR (rd_bin rfl rfl rfl) <| oM rfl ?_
  refine' o_and (j := 2) (k := 7) y rfl rfl rfl rfl rfl rfl rfl (fun hg9 => ?_) ?_
  rotate_left
  · try (simp at hg9; show _)
    refine o_g y rfl rfl ?_
    refine oM rfl ?_
    refine o_g y rfl rfl ?_
    refine oM rfl ?_
    refine o_g y rfl rfl ?_
    refine oN rfl ?_
    refine o_g y rfl rfl ?_
    refine oF rfl ?_
    refine o_g y rfl rfl ?_
    refine oR (rd_ld rfl mM rfl) ?_
    refine o_g y rfl rfl ?_
    refine oR (rd_lenS rfl) ?_
    refine o_g y rfl rfl ?_
    refine oR (rd_bin rfl rfl rfl) ?_
    exact o_nil ⟨rfl, rfl, ⟨_, sP⟩⟩
  refine oM rfl ?_
  refine' o_and (j := 11) (k := 2) y rfl rfl rfl rfl rfl rfl rfl (fun hg18 => ?_) ?_
  rotate_left
  · try (simp at hg18; show _)
    refine o_g y rfl rfl ?_
    refine oM rfl ?_
    refine o_g y rfl rfl ?_
    refine oR (rd_bin rfl rfl rfl) ?_
    exact o_nil ⟨rfl, rfl, ⟨_, sP⟩⟩
  refine oM rfl ?_
  refine' o_and (j := 15) (k := 2) y rfl rfl rfl rfl rfl rfl rfl (fun hg22 => ?_) ?_
  rotate_left
  · try (simp at hg22; show _)
    refine o_g y rfl rfl ?_
    refine oM rfl ?_
    refine o_g y rfl rfl ?_
    refine oR (rd_bin rfl rfl rfl) ?_
    exact o_nil ⟨rfl, rfl, ⟨_, sP⟩⟩
  refine oA rfl <| o_nil <| n_K <| s_ret ?_
  refine leaf_is (rets1 Tryz.results36 (rv_tmp rfl)) ?_ sP
  rfl
def fitsB (w : RB) (k : Nat) (hk : k < 8) (p : Pg) : Bool := if w.torn = true then (!w.sure[k] || decide (p = w.pages[k])) || decide (p = blankP) else !w.sure[k] || decide (p = w.pages[k])
theorem rfits_fn {b k : Nat} {p : Pg} {w : RB} (hw : r.bs[b]? = some w) (hk : k < 8) : Does Tryz.prog 71 [ptr r.d, .int .i64 (b : Nat), .int .i64 (k : Nat), .agg (vbc p).toArray] (rkH r) (Is (.bool (fitsB w k hk p)) (rkH r)) := by
  have hb : b < r.bs.length := (List.getElem?_eq_some_iff.1 hw).1
  refine fn_enter (n := 50) Tryz.func71 Tryz.ntmps71 rfl (Nat.le_of_ble_eq_true rfl) <| s_seq <| s_region0 fun ops => ?_
  refine o_boxA rfl rfl fun b7 => ?_
  refine oA rfl <| o_nil <| n_K <| s_seq <| s_region0 fun ops => oM rfl <| oN rfl <| oF rfl ?_
  refine oR (rd_ld rfl mM rfl) ?_
  refine oM rfl ?_
  refine oR (rd_ixS0 rfl rfl (by omega)) ?_
  refine oR (rd_ldA rfl mM (by simp only [Int.toNat_natCast]; exact rbs_cut hw)) ?_
  refine o_alloc rfl fun b9 => ?_
  rw [zeroRB_eq]
  first | refine o_store rfl rfl uD (vc_rbc) (rbc_len _) (spl_rbc (by first | exact rbc_len _ | rfl)) ?_ | refine o_store rfl rfl uD rfl rfl rfl ?_
  refine o_nil <| n_K <| s_seq <| s_seq <| s_region0 fun ops => oF rfl ?_
  refine oR (rd_ld rfl mM (rb_tail (o := 9) rbt_torn)) ?_
  refine o_nil <| n_K ?_
  refine s_cond rfl (fun c18 => ?_) (fun c18 => ?_)
  · try simp at c18
    refine s_seq ?_
    refine s_draw [(5, 24), (13, 32)] [(13, [(0, false), (1, false), (2, false), (3, false), (4, false), (5, false), (6, false), (7, false), (8, false), (9, false), (10, false), (11, false), (12, false)]), (18, [(13, false), (14, false), (15, true), (16, false), (17, false)]), (19, [(18, false)])] (by kernel_rfl) rfl fun ops w0 H0 y => ?_
    refine p_all <| xM rfl <| xF rfl ?_
    refine xR (rd_ixA rfl rfl (by omega)) ?_
    refine xR (rd_ld rfl mM (show nth _ _ = some (.bool w.sure[k]) by simp only [Int.toNat_natCast, Nat.mul_one, Nat.zero_add, Nat.add_zero]; exact rb_tail (rbt_sure hk))) ?_
    refine xR (rd_not rfl) <| xM rfl ?_
    refine' x_or (j := 5) (k := 6) y rfl rfl rfl rfl rfl rfl rfl (fun hg24 => ?_) ?_
    rotate_left
    · try (simp at hg24; show _)
      refine x_g y rfl rfl ?_
      refine xR (rd_ldA rfl mM (by first | exact cut_vb | rfl)) ?_
      refine x_g y rfl rfl ?_
      refine xM rfl ?_
      refine x_g y rfl rfl ?_
      refine xF rfl ?_
      refine x_g y rfl rfl ?_
      refine xR (rd_ixA rfl rfl (by omega)) ?_
      refine x_g y rfl rfl ?_
      refine xR (rd_ldA rfl mM (show cut _ _ _ = some (vbc w.pages[k]) by simp only [Int.toNat_natCast, Nat.zero_add]; exact rb_cutPg hk)) ?_
      refine x_g y rfl rfl ?_
      refine xR (rd_eqA rfl rfl (pg_eq _ _)) ?_
      exact x_nil ⟨rfl, ⟨_, sP⟩⟩
    refine x_nil <| p_all <| xM rfl ?_
    refine' x_or (j := 13) (k := 3) y rfl rfl rfl rfl rfl rfl rfl (fun hg32 => ?_) ?_
    rotate_left
    · try (simp at hg32; show _)
      refine x_g y rfl rfl ?_
      refine xR (rd_ldA rfl mM (by first | exact cut_vb | rfl)) ?_
      refine x_g y rfl rfl ?_
      refine x_so ?_
      refine c_is rfl (rblank_fn) sP rfl aQ ?_
      refine o_nil ⟨rfl, ⟨_, sP⟩, ?_⟩
      refine x_g y rfl rfl ?_
      refine xR (rd_eqA rfl rfl (pg_eq _ _)) ?_
      exact x_nil ⟨rfl, ⟨_, sP⟩⟩
    refine x_nil <| p_all <| xA rfl <| x_nil <| p_end <| n_K <| s_ret <| r_K ?_
    refine leaf_is (rets1 Tryz.results71 (rv_tmp rfl)) ?_ sP
    unfold fitsB; first | (rw [if_pos c18]; simp; done) | (rw [if_neg (by rw [c18]; simp)]; simp; done) | (simp [c18]; done)
  · try simp at c18
    refine s_skip <| n_K <| s_seq ?_
    refine s_draw [(5, 42)] [(14, [(0, false), (1, false), (2, false), (3, false), (4, false), (5, false), (6, false), (7, false), (8, false), (9, false), (10, false), (11, false), (12, false), (13, false)])] (by kernel_rfl) rfl fun ops w0 H0 y => ?_
    refine p_all <| xM rfl <| xF rfl ?_
    refine xR (rd_ixA rfl rfl (by omega)) ?_
    refine xR (rd_ld rfl mM (show nth _ _ = some (.bool w.sure[k]) by simp only [Int.toNat_natCast, Nat.mul_one, Nat.zero_add, Nat.add_zero]; exact rb_tail (rbt_sure hk))) ?_
    refine xR (rd_not rfl) <| xM rfl ?_
    refine' x_or (j := 5) (k := 6) y rfl rfl rfl rfl rfl rfl rfl (fun hg42 => ?_) ?_
    rotate_left
    · try (simp at hg42; show _)
      refine x_g y rfl rfl ?_
      refine xR (rd_ldA rfl mM (by first | exact cut_vb | rfl)) ?_
      refine x_g y rfl rfl ?_
      refine xM rfl ?_
      refine x_g y rfl rfl ?_
      refine xF rfl ?_
      refine x_g y rfl rfl ?_
      refine xR (rd_ixA rfl rfl (by omega)) ?_
      refine x_g y rfl rfl ?_
      refine xR (rd_ldA rfl mM (show cut _ _ _ = some (vbc w.pages[k]) by simp only [Int.toNat_natCast, Nat.zero_add]; exact rb_cutPg hk)) ?_
      refine x_g y rfl rfl ?_
      refine xR (rd_eqA rfl rfl (pg_eq _ _)) ?_
      exact x_nil ⟨rfl, ⟨_, sP⟩⟩
    refine xA rfl <| x_nil <| p_end <| n_K <| s_ret ?_
    refine leaf_is (rets1 Tryz.results71 (rv_tmp rfl)) ?_ sP
    unfold fitsB; first | (rw [if_pos c18]; simp; done) | (rw [if_neg (by rw [c18]; simp)]; simp; done) | (simp [c18]; done)
/-- A block that holds nothing. -/
def eraTo (i : Nat) : RB := ⟨Vector.ofFn fun j => if j.val < i then blankP else zeroP, Vector.ofFn fun j => decide (j.val < i), 0, false⟩
def eraRB : RB := eraTo 8
theorem eraTo_0 : zeroRB = eraTo 0 := by
  have h1 : (Vector.replicate 8 zeroP) = Vector.ofFn (fun j : Fin 8 => if j.val < 0 then blankP else zeroP) := by apply Vector.ext; intro j hj; simp
  have h2 : (Vector.replicate 8 false) = Vector.ofFn (fun j : Fin 8 => decide (j.val < 0)) := by apply Vector.ext; intro j hj; simp
  unfold zeroRB eraTo
  rw [h1, h2]
theorem eraTo_step {i : Nat} (hi : i < 8) : ((eraTo i).setPg i blankP).setSure i true = eraTo (i + 1) := by
  unfold eraTo RB.setPg RB.setSure
  congr 1
  · apply Vector.ext
    intro j hj
    rw [Vector.getElem_setIfInBounds]
    by_cases e : i = j
    · subst e; simp
    · have : (j < i) ↔ (j < i + 1) := by omega
      simp [e, this]
  · apply Vector.ext
    intro j hj
    rw [Vector.getElem_setIfInBounds]
    by_cases e : i = j
    · subst e; simp
    · have : (j < i) ↔ (j < i + 1) := by omega
      simp [e, this]
theorem rerase_fn {b : Nat} (hb : b < r.bs.length) : Does Tryz.prog 37 [ptr r.d, .int .i64 (b : Nat)] (rkH r) (Is (.tuple #[]) (rkH ⟨r.d, r.b, r.bs.set b eraRB⟩)) := by
  have hg : r.bs[b]? = some r.bs[b] := List.getElem?_eq_getElem hb
  refine fn_enter (n := 25) Tryz.func37 Tryz.ntmps37 rfl (Nat.le_of_ble_eq_true rfl) <| s_seq <| s_region0 fun ops => ?_
  refine oR (show Rd _ _ _ _ (.agg (rbc (eraTo 0)).toArray) from (by rw [← eraTo_0, ← zeroRB_eq]; exact rd_build_s rfl rfl)) ?_
  refine o_alloc rfl fun b4 => ?_
  rw [zeroRB_eq]
  first | refine o_store rfl rfl uD (vc_rbc) (rbc_len _) (spl_rbc (by first | exact rbc_len _ | rfl)) ?_ | refine o_store rfl rfl uD rfl rfl rfl ?_
  refine o_nil <| n_K <| s_seq <| s_seq <| s_region0 fun ops => oA rfl <| o_nil <| n_K <| s_block ?_
  refine s_loop2 [0, 1, 4] kQ (fun (s : Nat) => [(5, .int .i64 s)]) (fun (s : Nat) => (b4, true, C (rbc (eraTo s)) tRB) :: rkH r) (fun (s : Nat) => s ≤ 8) (fun (s : Nat) => 8 - s) ((0 : Nat)) (by omega) kP sP ?_
  rintro i h0
  refine s_seq <| s_seq <| s_region0 fun ops => oM rfl <| oR (rd_bin rfl rfl rfl) <| o_nil <| n_K ?_
  refine s_cond rfl (fun c8 => ?_) (fun c8 => ?_)
  · simp only [decide_eq_true_eq, decide_eq_false_iff_not] at c8
    have hi : i < 8 := (by omega)
    refine s_skip <| n_K <| s_seq <| s_block <| s_seq <| s_region0 fun ops => oM rfl ?_
    refine c_is rfl (rblank_fn) sP rfl aQ ?_
    refine oF rfl ?_
    refine oR (rd_ixA rfl rfl (by omega)) ?_
    refine o_store (cs' := rbc ((eraTo i).setPg i blankP)) rfl rfl uD vc_vb vbc_len (by simp only [Int.toNat_natCast, Nat.mul_one, Nat.zero_add, Nat.add_zero]; exact rb_setPg hi) ?_
    refine o_nil <| n_K <| s_region0 fun ops => oM rfl <| oF rfl ?_
    refine oR (rd_ixA rfl rfl (by omega)) ?_
    refine o_store (cs' := rbc (((eraTo i).setPg i blankP).setSure i true)) rfl rfl uD rfl rfl (by simp only [Int.toNat_natCast, Nat.mul_one, Nat.zero_add, Nat.add_zero]; exact rb_setSure hi) ?_
    refine o_nil <| n_blk <| n_K <| s_region0 fun ops => oM rfl ?_
    refine oR (rd_add64 rfl rfl (by omega)) ?_
    refine oA rfl <| o_nil <| n_K ?_
    exact ⟨i + 1, (by omega), (by omega), kP, kP, _, (by rw [eraTo_step hi]; exact sP)⟩
  · simp only [decide_eq_true_eq, decide_eq_false_iff_not] at c8
    have hi : i = 8 := (by omega)
    subst hi
    refine s_exit <| x_K <| x_K <| x_blk <| n_K ?_
    refine s_draw [] [(7, [(0, false), (1, false), (2, false), (3, false), (4, false), (5, false), (6, false)]), (8, [(7, true)])] (by kernel_rfl) rfl fun ops w0 H0 y => ?_
    refine p_all <| xM rfl <| xN rfl <| xF rfl ?_
    refine xR (rd_ld rfl mM rfl) ?_
    refine xM rfl ?_
    refine xR (rd_ldA rfl mM (by first | exact cut_rbc _ | rfl)) ?_
    refine xR (rd_ixS0 rfl rfl (by omega)) ?_
    refine x_nil <| p_none <| x_so ?_
    refine o_store (cs' := rbs (r.bs.set b eraRB)) rfl rfl uD vc_rbc (rbc_len _) (by simp only [Int.toNat_natCast]; have := rbs_set (o := 0) (vs := rbc eraRB) (w' := eraRB) hg (spl_rbc (rbc_len _)); rwa [Nat.add_zero] at this) ?_
    refine o_nil ⟨rfl, ⟨_, sP⟩, ?_⟩
    refine x_nil <| p_end ?_
    refine leaf_isN (ret0 Tryz.results37) ?_ (by simp only [rkH, rdc, List.length_set]; exact sP)
    rfl
theorem zrep_rb (n : Nat) : zrep n (rbc zeroRB) = rbs (List.replicate n zeroRB) := by
  induction n with
  | zero => rfl
  | succ n ih =>
    show rbc zeroRB ++ zrep n (rbc zeroRB) = rbs (zeroRB :: List.replicate n zeroRB)
    rw [ih]
    rfl
def newR (n i : Nat) : List RB := List.replicate i eraRB ++ List.replicate (n - i) zeroRB
theorem newR_len {n i : Nat} (h : i ≤ n) : (newR n i).length = n := by simp [newR]; omega
theorem newR_step {n i : Nat} (h : i < n) : (newR n i).set i eraRB = newR n (i + 1) := by
  unfold newR
  rw [show n - i = (n - (i + 1)) + 1 by omega, List.replicate_succ, List.set_append_right _ _ (by simp)]
  simp only [List.length_replicate, Nat.sub_self, List.set_cons_zero]
  rw [List.replicate_succ', List.append_assoc]
  rfl
instance (priority := 2000) zerRB : Zer Tryz.prog tRB (rbc zeroRB) := ⟨by rw [← zeroRB_eq]; exact (inferInstance : Zer Tryz.prog tRB (List.replicate 2064 (Value.int .u8 0) ++ [Value.bool false, .bool false, .bool false, .bool false, .bool false, .bool false, .bool false, .bool false, .int .i64 0, .bool false])).eq⟩
theorem rnew_fn {n : Nat} (hn : n ≤ 100) : Does Tryz.prog 34 [.int .i64 (n : Nat)] [] (fun v H => ∃ d b, v = ptr d ∧ H = rkH ⟨d, b, List.replicate n eraRB⟩) := by
  refine fn_enter (n := 18) Tryz.func34 Tryz.ntmps34 rfl (Nat.le_of_ble_eq_true rfl) <| s_seq <| s_region0 fun ops => oA rfl <| o_nil <| n_K <| s_seq <| s_region0 fun ops => oM rfl ?_
  refine o_make (zs := rbc zeroRB) (hz := zerRB) (hs := by rw [rbc_len]; infer_instance) (hby := byt87) rfl rfl (by omega) rfl fun b6 => ?_
  rw [Int.toNat_natCast, zrep_rb]
  refine oR (rd_build_s rfl rfl) ?_
  refine o_box rfl rfl fun b8 => ?_
  refine oA rfl <| o_nil <| n_K <| s_seq <| s_seq <| s_region0 fun ops => oA rfl <| o_nil <| n_K <| s_block ?_
  refine s_loop2 [0, 3] kQ (fun (s : Nat) => [(4, .int .i64 s)]) (fun (s : Nat) => rkH ⟨b8, b6, newR n s⟩) (fun (s : Nat) => s ≤ n) (fun (s : Nat) => n - s) ((0 : Nat)) (by omega) kP (by simp only [rkH, rdc, newR_len (Nat.zero_le n)]; exact sP) ?_
  rintro i h0
  refine s_seq <| s_seq <| s_region0 fun ops => oM rfl <| oM rfl <| oR (rd_bin rfl rfl rfl) <| o_nil <| n_K ?_
  refine s_cond rfl (fun c11 => ?_) (fun c11 => ?_)
  · simp only [decide_eq_true_eq, decide_eq_false_iff_not] at c11
    have hi : i < n := (by omega)
    refine s_skip <| n_K <| s_seq <| s_block <| s_region0 fun ops => oM rfl <| oM rfl ?_
    refine c_is rfl ((rerase_fn (r := ⟨b8, b6, newR n i⟩) (b := i) (by rw [newR_len h0]; exact hi)).to rfl (by rw [newR_step hi])) sP rfl aQ ?_
    refine o_nil <| n_blk <| n_K <| s_region0 fun ops => oM rfl ?_
    refine oR (rd_add64 rfl rfl (by omega)) ?_
    refine oA rfl <| o_nil <| n_K ?_
    exact ⟨i + 1, (by omega), (by omega), lZ⟩
  · simp only [decide_eq_true_eq, decide_eq_false_iff_not] at c11
    have hi : i = n := (by omega)
    subst hi
    refine s_exit <| x_K <| x_K <| x_blk <| n_K <| s_seq <| s_region0 fun ops => oM rfl <| oA rfl <| o_nil <| n_K <| s_ret ?_
    exact leaf_r (rets1 Tryz.results34 (rv_tmp rfl)) (by exact ⟨b8, b6, rfl, rfl⟩) (by rw [show newR i i = List.replicate i eraRB by simp [newR]]; exact sP)
end
end Go.Proofs.YtdfidkhbldedlaaGreat
end
section
/- The disk beside the document's: are all pages as they must be? a Program at both. -/
namespace Go.Proofs.YtdfidkhbldedlaaGreat
open Go.K
set_option linter.unusedVariables false
set_option linter.unusedSimpArgs false
instance ent38 : Ent Tryz.prog 38 := ⟨fun _ _ => by kernel_rfl⟩
set_option maxRecDepth 20000
structure RelB (v : Blk) (w : RB) : Prop where
  nx : w.torn = false → v.next = w.next
  rng : 0 ≤ w.next ∧ w.next ≤ 8
  pg : ∀ (j : Nat) (h : j < 8), w.sure[j] = true → mendP w.pages[j] = w.pages[j] ∧ (v.pages[j] = w.pages[j] ∨ (w.torn = true ∧ v.pages[j] = blankP))
structure RelD (V : Nat → Blk) (bs : List RB) (n : Nat) : Prop where
  len : bs.length + 6 = n
  at' : ∀ (l : Nat) (w : RB), bs[l]? = some w → RelB (V l) w
theorem RelB.fits {v : Blk} {w : RB} (h : RelB v w) {j : Nat} (hj : j < 8) : fitsB w j hj v.pages[j] = true := by
  unfold fitsB
  cases hs : w.sure[j] with
  | false => split <;> simp
  | true =>
    rcases (h.pg j hj hs).2 with h1 | ⟨h1, h2⟩
    · split <;> simp [h1]
    · rw [if_pos h1]; simp [h2]
theorem whole_fn {d : Dsk} {r : RDk} {n k : Nat} {V : Nat → Blk} (h : DD d n k V) (hR : RelD V r.bs n) : Does Tryz.prog 38 [ptr d.dk, ptr r.d] (dkH d ++ (rkH r ++ [])) (Is (.bool true) (dkH d ++ (rkH r ++ []))) := by
  have hn2 := h.di.wf.n2
  have hul : d.t.u.list.length + 6 = n := h.di.wf.len
  have hrl := hR.len
  refine fn_enter (n := 85) Tryz.func38 Tryz.ntmps38 rfl (Nat.le_of_ble_eq_true rfl) <| s_seq <| s_region0 fun ops => oA rfl <| o_nil <| n_K <| s_seq <| s_seq <| s_region0 fun ops => oM rfl <| oN rfl <| oF rfl ?_
  refine oR (rd_ld rfl mM rfl) ?_
  refine oR (rd_lenS rfl) <| oM rfl <| o_nil <| n_K <| s_block ?_
  refine s_loop2 [0, 1, 19] kQ (fun (s : Nat) => [(20, .int .i64 s)]) (fun (s : Nat) => dkH d ++ (rkH r ++ [])) (fun (s : Nat) => s ≤ r.bs.length) (fun (s : Nat) => r.bs.length - s) ((0 : Nat)) (by omega) kP sP ?_
  rintro x hx
  refine s_seq <| s_region0 fun ops => oR (rd_bin rfl rfl rfl) <| o_nil <| n_K <| s_seq ?_
  refine s_cond rfl (fun c21 => ?_) (fun c21 => ?_)
  · simp only [decide_eq_true_eq, decide_eq_false_iff_not] at c21
    have hxl : x < r.bs.length := (by omega)
    obtain ⟨w, hw⟩ : ∃ w, r.bs[x]? = some w := ⟨_, List.getElem?_eq_getElem hxl⟩
    refine s_skip <| n_K <| s_seq <| s_block <| s_seq <| s_region0 fun ops => oM rfl <| oA rfl <| o_nil <| n_K <| s_seq <| s_region0 fun ops => oA rfl <| o_nil ?_
    refine n_K <| s_block ?_
    refine s_loop2 [0, 1, 5, 19, 20] kQ (fun (s : Nat) => [(6, .int .i64 s)]) (fun (s : Nat) => dkH d ++ (rkH r ++ [])) (fun (s : Nat) => s ≤ 8) (fun (s : Nat) => 8 - s) ((0 : Nat)) (by omega) kP sP ?_
    rintro jj hy
    refine s_seq <| s_seq <| s_region0 fun ops => oM rfl <| oR (rd_bin rfl rfl rfl) <| o_nil <| n_K ?_
    refine s_cond rfl (fun c24 => ?_) (fun c24 => ?_)
    · simp only [decide_eq_true_eq, decide_eq_false_iff_not] at c24
      have hy8 : jj < 8 := (by omega)
      have hrd := dread_at h (b := x) (j := jj) (by omega) hy8
      refine s_skip <| n_K <| s_seq <| s_block <| s_seq <| s_region0 fun ops => oM rfl <| oM rfl <| oM rfl ?_
      refine c_is rfl ((dk_read (d := d) (b := (x : Nat)) (k := (jj : Nat))).to (by rw [hrd.1, hrd.2]) rfl) sP rfl aQ ?_
      refine oM rfl <| oE rfl rfl <| oE rfl rfl ?_
      refine o_alloc rfl fun b7 => ?_
      rw [zeroP_eq]
      first | refine o_store rfl rfl uD (vc_vb) (vbc_len) (spl_vb (by first | exact vbc_len | exact List.length_replicate ..)) ?_ | refine o_store rfl rfl uD rfl rfl rfl ?_
      refine oA rfl <| o_nil <| n_K <| s_seq ?_
      refine s_region [(2, 36)] rfl fun ops y => ?_
      refine oM rfl <| oR (rd_bin rfl rfl rfl) <| oM rfl ?_
      refine' o_or (j := 2) (k := 6) y rfl rfl rfl rfl rfl rfl rfl (fun hg36 => ?_) ?_
      rotate_left
      · try (simp at hg36; show _)
        refine o_g y rfl rfl ?_
        refine oM rfl ?_
        refine o_g y rfl rfl ?_
        refine oM rfl ?_
        refine o_g y rfl rfl ?_
        refine oM rfl ?_
        refine o_g y rfl rfl ?_
        refine oR (rd_ldA rfl mM (by first | exact cut_vb | rfl)) ?_
        refine o_g y rfl rfl ?_
        refine c_is rfl ((rfits_fn (r := r) (b := x) (k := jj) (p := (V x).pages[jj]) hw hy8).to (by rw [(hR.at' x w hw).fits hy8]) rfl) sP rfl aQ ?_
        refine o_g y rfl rfl ?_
        refine oR (rd_not rfl) ?_
        exact o_nil ⟨rfl, rfl, ⟨_, sP⟩⟩
      refine o_nil <| n_K ?_
      refine s_cond rfl (fun c43 => ?_) (fun c43 => ?_)
      · skip
        try (exfalso; (simp at c43); done)
        all_goals
          refine s_seq <| s_region0 fun ops => oA rfl <| o_nil <| n_K <| s_ret <| r_blk <| r_K <| r_K <| r_blk <| r_blk <| r_K <| r_K <| r_blk ?_
          refine r_K ?_
          refine leaf_is (rets1 Tryz.results38 (rv_tmp rfl)) ?_ sP
          simp
      · skip
        refine s_skip <| n_blk <| n_K <| s_region0 fun ops => oM rfl ?_
        refine oR (rd_add64 rfl rfl (by omega)) ?_
        refine oA rfl <| o_nil <| n_K ?_
        exact ⟨jj + 1, (by omega), (by omega), lZ⟩
    · simp only [decide_eq_true_eq, decide_eq_false_iff_not] at c24
      refine s_exit <| x_K <| x_K <| x_blk <| n_blk <| n_K <| s_region0 fun ops => ?_
      refine oR (rd_add64 rfl rfl (by omega)) ?_
      refine oM rfl <| o_nil <| n_K ?_
      exact ⟨x + 1, (by omega), (by omega), lZ⟩
  · simp only [decide_eq_true_eq, decide_eq_false_iff_not] at c21
    have hb1 : mayE d.c (atD d.t.ts (r.bs.length : Nat)) 0 = 1 := dread_bad h (.inl (by omega))
    have hb2 : mayE d.c (atD d.t.ts 0) 8 = 1 := dread_bad h (.inr (by omega))
    have hb3 : mayE d.c (atD d.t.ts (-1)) 0 = 1 := dread_bad h (.inl (by omega))
    refine s_exit <| x_K <| x_K <| x_blk <| n_K <| s_seq <| s_region0 fun ops => oM rfl <| oM rfl <| oN rfl <| oF rfl ?_
    refine oR (rd_ld rfl mM rfl) ?_
    refine oR (rd_lenS rfl) ?_
    refine c_is rfl ((dk_read (d := d) (b := (r.bs.length : Nat)) (k := 0)).to (by rw [hb1]) rfl) sP rfl aQ ?_
    refine oM rfl <| oE rfl rfl <| oE rfl rfl ?_
    refine o_alloc rfl fun b9 => ?_
    rw [zeroP_eq]
    first | refine o_store rfl rfl uD (vc_vb) (vbc_len) (spl_vb (by first | exact vbc_len | exact List.length_replicate ..)) ?_ | refine o_store rfl rfl uD rfl rfl rfl ?_
    refine oA rfl <| o_nil <| n_K <| s_seq <| s_region0 fun ops => oM rfl ?_
    refine c_is rfl ((dk_read (d := d) (b := 0) (k := 8)).to (by rw [hb2]) rfl) sP rfl aQ ?_
    refine oM rfl <| oE rfl rfl <| oE rfl rfl ?_
    refine o_alloc rfl fun b11 => ?_
    rw [zeroP_eq]
    first | refine o_store rfl rfl uD (vc_vb) (vbc_len) (spl_vb (by first | exact vbc_len | exact List.length_replicate ..)) ?_ | refine o_store rfl rfl uD rfl rfl rfl ?_
    refine oA rfl <| o_nil <| n_K <| s_seq <| s_region0 fun ops => oM rfl ?_
    refine c_is rfl ((dk_read (d := d) (b := -1) (k := 0)).to (by rw [hb3]) rfl) sP rfl aQ ?_
    refine oM rfl <| oE rfl rfl <| oE rfl rfl ?_
    refine o_alloc rfl fun b13 => ?_
    rw [zeroP_eq]
    first | refine o_store rfl rfl uD (vc_vb) (vbc_len) (spl_vb (by first | exact vbc_len | exact List.length_replicate ..)) ?_ | refine o_store rfl rfl uD rfl rfl rfl ?_
    refine oA rfl <| o_nil <| n_K <| s_seq ?_
    refine s_draw [(2, 67), (6, 71), (10, 75)] [(10, [(0, false), (1, false), (2, false), (3, false), (4, false), (5, false), (6, false), (7, false), (8, false), (9, false)]), (20, [(10, false), (11, false), (13, false), (14, false), (15, false), (16, false), (17, false), (12, true), (18, false), (19, false)]), (21, [(20, false)])] (by kernel_rfl) rfl fun ops w0 H0 y => ?_
    refine p_all <| xM rfl <| xR (rd_bin rfl rfl rfl) <| xM rfl ?_
    refine' x_and (j := 2) (k := 2) y rfl rfl rfl rfl rfl rfl rfl (fun hg67 => ?_) ?_
    rotate_left
    · try (simp at hg67; show _)
      refine x_g y rfl rfl ?_
      refine xM rfl ?_
      refine x_g y rfl rfl ?_
      refine xR (rd_bin rfl rfl rfl) ?_
      exact x_nil ⟨rfl, ⟨_, sP⟩⟩
    refine xM rfl ?_
    refine' x_and (j := 6) (k := 2) y rfl rfl rfl rfl rfl rfl rfl (fun hg71 => ?_) ?_
    rotate_left
    · try (simp at hg71; show _)
      refine x_g y rfl rfl ?_
      refine xM rfl ?_
      refine x_g y rfl rfl ?_
      refine xR (rd_bin rfl rfl rfl) ?_
      exact x_nil ⟨rfl, ⟨_, sP⟩⟩
    refine x_nil <| p_all <| xM rfl ?_
    refine' x_and (j := 10) (k := 8) y rfl rfl rfl rfl rfl rfl rfl (fun hg75 => ?_) ?_
    rotate_left
    · try (simp at hg75; show _)
      refine x_g y rfl rfl ?_
      refine xM rfl ?_
      refine x_g y rfl rfl ?_
      refine xM rfl ?_
      refine x_g y rfl rfl ?_
      refine xN rfl ?_
      refine x_g y rfl rfl ?_
      refine xF rfl ?_
      refine x_g y rfl rfl ?_
      refine xR (rd_ld rfl mM rfl) ?_
      refine x_g y rfl rfl ?_
      refine xR (rd_lenS rfl) ?_
      refine x_g y rfl rfl ?_
      refine x_so ?_
      refine c_is rfl ((dk_len (d := d)).to (by rw [show d.t.u.list.length = r.bs.length by omega]) rfl) sP rfl aQ ?_
      refine o_nil ⟨rfl, ⟨_, sP⟩, ?_⟩
      refine x_g y rfl rfl ?_
      refine xR (rd_bin rfl rfl rfl) ?_
      exact x_nil ⟨rfl, ⟨_, sP⟩⟩
    refine x_nil <| p_all <| xA rfl <| x_nil <| p_end <| n_K <| s_ret ?_
    refine leaf_is (rets1 Tryz.results38 (rv_tmp rfl)) ?_ sP
    simp
end Go.Proofs.YtdfidkhbldedlaaGreat
end
section
/- The disk beside the document's: a Program at both. -/
namespace Go.Proofs.YtdfidkhbldedlaaGreat
open Go.K
set_option linter.unusedVariables false
set_option linter.unusedSimpArgs false
instance fld72_6 : Fld Tryz.prog 72 6 6 := ⟨⟨_, _, 0, Tryz.underlying72, rfl, by kernel_rfl, rfl⟩⟩
instance fld87_2 : Fld Tryz.prog 87 2 2072 := ⟨⟨_, _, 0, Tryz.underlying87, rfl, by kernel_rfl, rfl⟩⟩
instance ent35 : Ent Tryz.prog 35 := ⟨fun _ _ => by kernel_rfl⟩
set_option maxRecDepth 20000
set_option maxHeartbeats 1000000
def torns (bs : List RB) : List Bool := bs.map (·.torn)
theorem RB.setPg_at {w : RB} {i j : Nat} {q : Pg} (hi : i < 8) : (w.setPg j q).pages[i] = if j = i then q else w.pages[i] := by
  unfold RB.setPg
  simp only [Vector.getElem_setIfInBounds]
theorem RB.setSure_at {w : RB} {i j : Nat} {q : Bool} (hi : i < 8) : (w.setSure j q).sure[i] = if j = i then q else w.sure[i] := by
  unfold RB.setSure
  simp only [Vector.getElem_setIfInBounds]
/-- The document's block behind a write. -/
def wrRB (w : RB) (j : Nat) (p : Pg) (s : Bool) : RB := (({ w with next := w.next + 1 } : RB).setPg j p).setSure j s
theorem Up.onC {c c' : Chip} (h : Up c) (hd : c'.dead = c.dead) (ho : c'.out = c.out) : Up (onC c') := ⟨rfl, hd.trans h.dead, ho.trans h.out⟩
theorem Later.blk {c c' : Chip} {n k m : Nat} {V : Nat → Blk} (h : Later c' n k m V) (up : Up c) (f : FrA c c') {l : Nat} (hl : l + 6 < n) : BI (V l) := by
  obtain ⟨t2, _, hd, _⟩ := h (onC c') rfl (up.onC f.dead f.out) rfl rfl
  exact (hd.blk hl).1
theorem RelD.set {V : Nat → Blk} {bs : List RB} {n b : Nat} {v : Blk} {w : RB} (h : RelD V bs n) (hv : RelB v w) : RelD (upV V b v) (bs.set b w) n := by
  refine ⟨by rw [List.length_set]; exact h.len, fun l w' hw => ?_⟩
  rw [List.getElem?_set] at hw
  by_cases e : b = l
  · subst e
    rw [if_pos rfl] at hw
    split at hw
    · cases hw; rw [upV_at]; exact hv
    · cases hw
  · rw [if_neg e] at hw
    rw [upV_ne (by omega)]
    exact h.at' l w' hw
theorem relB_write {v v0 : Blk} {w : RB} {j : Nat} {p : Pg} {s : Bool} (h0 : RelB v0 w) (ht : w.torn = false) (hj : j < 8) (hn : w.next = (j : Nat)) (hm : mendP p = p) (hb0 : BI v0) (hb : BI v) (hv : v.next = ((j + 1 : Nat) : Int)) (hk : Kept v v0 j) (hp : s = true → v.pages[j] = p) : RelB v (wrRB w j p s) := by
  refine ⟨fun _ => ?_, ?_, fun i hi hs => ?_⟩
  · rw [hv]; show _ = w.next + 1; rw [hn]; rfl
  · show 0 ≤ w.next + 1 ∧ w.next + 1 ≤ 8; omega
  · have e1 : (wrRB w j p s).pages[i] = if j = i then p else w.pages[i] := RB.setPg_at (w := { w with next := w.next + 1 }) hi
    have e2 : (wrRB w j p s).sure[i] = if j = i then s else w.sure[i] := RB.setSure_at (w := ({ w with next := w.next + 1 } : RB).setPg j p) hi
    rw [e2] at hs
    rw [e1]
    by_cases e : j = i
    · subst e
      rw [if_pos rfl] at hs ⊢
      exact ⟨hm, .inl (hp hs)⟩
    · rw [if_neg e] at hs ⊢
      obtain ⟨h1, h2⟩ := h0.pg i hi hs
      have h3 : v0.pages[i] = w.pages[i] := by
        rcases h2 with h2 | ⟨h2, _⟩
        · exact h2
        · rw [ht] at h2; cases h2
      refine ⟨h1, .inl ?_⟩
      have hn0 := h0.nx ht
      by_cases e3 : i < j
      · rcases hk i hi e3 with h4 | h4
        · rw [h4, h3]
        · rw [h4, h3, h1]
      · rw [hb.bl i hi (by omega), ← h3, hb0.bl i hi (by omega)]
theorem prog7_step {c : Chip} {t : TS} {n k b j q : Nat} {V : Nat → Blk} {bs : List RB} {w : RB} {p : Pg} {r : Int × TS × Chip} (h : DV c t n k V) (hk : k ≤ 700000) (hR : RelD V bs n) (hq : q ≤ 3) (hacc : t.lost.length + FP c + FW c ≤ q) (hw : bs[b]? = some w) (ht : w.torn = false) (hj : j < 8) (hn : w.next = (j : Nat)) (hm : mendP p = p) (hr : ProgD n (b : Nat) (j : Nat) p c t r) :
    FrA c r.2.2 ∧ ∃ V', RelD V' (bs.set b (wrRB w j p (decide (r.1 = 0)))) n ∧ ((r.1 = 0 ∧ DV r.2.2 r.2.1 n (k + 20) V' ∧ r.2.1.lost.length + FP r.2.2 + FW r.2.2 ≤ q) ∨ (r.1 = 30 ∧ r.2.2.off = true ∧ ¬ c.after < 0 ∧ Later r.2.2 n (k + 20) q V')) := by
  have hb : b + 6 < n := by have := hR.len; have := (List.getElem?_eq_some_iff.1 hw).1; omega
  have h0 := hR.at' b w hw
  obtain ⟨f, v, hv1, hv2, hc⟩ := prog_view h hk (by omega) hb hj ((h0.nx ht).trans hn) hr
  have hb0 := (h.blk hb).1
  refine ⟨f, upV V b v, ?_, ?_⟩
  · refine hR.set (relB_write h0 ht hj hn hm hb0 ?_ hv1 hv2 fun hs => ?_)
    · rcases hc with ⟨_, q2, _⟩ | ⟨_, q2, _⟩ | ⟨_, _, _, _, q2⟩
      · have := (q2.blk hb).1; rwa [upV_at] at this
      · have := (q2.blk hb).1; rwa [upV_at] at this
      · have := q2.blk h.di.up f hb; rwa [upV_at] at this
    · have hs0 : r.1 = 0 := by simpa using hs
      rcases hc with ⟨_, _, q3, _⟩ | ⟨q1, _⟩ | ⟨q1, _⟩
      · exact q3 hj
      · omega
      · omega
  · rcases hc with ⟨q1, q2, _, q4, _⟩ | ⟨q1, _, q3, q4⟩ | ⟨q1, q2, q3, _, q4⟩
    · exact .inl ⟨q1, q2, by omega⟩
    · omega
    · refine .inr ⟨q1, q2, q3, fun d h1 h2 h3 h4 => ?_⟩
      obtain ⟨t2, a1, a2, a3⟩ := q4 d h1 h2 h3 h4
      exact ⟨t2, a1, a2, by omega⟩
/-- What a Program at both comes to. -/
def Prog7 (d : Dsk) (r : RDk) (o : Op7) (i n k q : Nat) (v : Value) (H : Hp) : Prop :=
  ∃ (t' : Tab) (c' : Chip) (bs' : List RB) (e : Int) (V' : Nat → Blk), v = .tuple #[.int .i64 e, .bool true] ∧ H = dkH ⟨d.dk, t', c'⟩ ++ (rkH ⟨r.d, r.b, bs'⟩ ++ []) ∧ RelD V' bs' n ∧ FrA d.c c' ∧ torns bs' = torns r.bs ∧
    ((e ≠ 30 ∧ DV c' t'.ts n (k + 20) V' ∧ t'.ts.lost.length + FP c' + FW c' ≤ q) ∨ (e = 30 ∧ c'.off = true ∧ ¬ d.c.after < 0 ∧ Later c' n (k + 20) q V'))
theorem rthere_in {r : RDk} {b k : Int} (h : rthere r b k = true) : (0 ≤ b ∧ b < r.bs.length) ∧ 0 ≤ k ∧ k < 8 := by
  unfold rthere at h
  simp at h
  omega
theorem rthere_out {r : RDk} {b k : Int} (h : rthere r b k = false) : ¬ (0 ≤ b ∧ b < r.bs.length) ∨ ¬ (0 ≤ k ∧ k < 8) := by
  by_cases h1 : (0 ≤ b ∧ b < r.bs.length) ∧ 0 ≤ k ∧ k < 8
  · exfalso
    unfold rthere at h
    simp at h
    omega
  · omega
theorem torns_set {bs : List RB} {b : Nat} {w w' : RB} (hw : bs[b]? = some w) (h : w'.torn = w.torn) : torns (bs.set b w') = torns bs := by
  unfold torns
  rw [List.map_set, h]
  apply List.ext_getElem?
  intro i
  rw [List.getElem?_set]
  by_cases e : b = i
  · subst e
    have hl := (List.getElem?_eq_some_iff.1 hw).1
    rw [if_pos rfl, List.length_map, if_pos hl, List.getElem?_map, hw]
    rfl
  · rw [if_neg e]
theorem rset_at {l : List RB} {b : Nat} {w w' : RB} (h : l[b]? = some w) : (l.set b w')[b]? = some w' := by
  have hl := (List.getElem?_eq_some_iff.1 h).1
  simp [hl]
theorem prog7_fn {d : Dsk} {r : RDk} {n k q i : Nat} {V : Nat → Blk} {o : Op7} (h : DD d n k V) (hk : k ≤ 700000) (hR : RelD V r.bs n) (hq : q ≤ 3) (hacc : d.t.ts.lost.length + FP d.c + FW d.c ≤ q) (hnt : ∀ w, 0 ≤ o.block → r.bs[o.block.toNat]? = some w → w.torn = false) :
    Does Tryz.prog 35 [ptr d.dk, ptr r.d, .agg (op7C o).toArray, .int .i64 (i : Nat)] (dkH d ++ (rkH r ++ [])) (Prog7 d r o i n k q) := by
  have hul : r.bs.length + 6 = n := hR.len
  refine fn_enter (n := 135) Tryz.func35 Tryz.ntmps35 rfl (Nat.le_of_ble_eq_true rfl) <| s_seq <| s_region0 fun ops => ?_
  refine o_box rfl rfl fun b6 => ?_
  refine oA rfl <| oA rfl <| o_nil <| n_K <| s_seq <| s_region0 fun ops => oF rfl ?_
  refine oR (rd_ld rfl mM rfl) ?_
  refine oA rfl <| o_nil <| n_K <| s_seq <| s_seq ?_
  refine s_region [(2, 18)] rfl fun ops y => ?_
  refine oF rfl ?_
  refine oR (rd_ld rfl mM rfl) ?_
  refine oM rfl ?_
  refine' o_and (j := 2) (k := 4) y rfl rfl rfl rfl rfl rfl rfl (fun hg18 => ?_) ?_
  rotate_left
  · try (simp at hg18; show _)
    refine o_g y rfl rfl ?_
    refine oM rfl ?_
    refine o_g y rfl rfl ?_
    refine oF rfl ?_
    refine o_g y rfl rfl ?_
    refine oR (rd_ld rfl mM rfl) ?_
    refine o_g y rfl rfl ?_
    refine c_is rfl (rthere_fn (r := r) (b := o.block) (k := 0)) sP rfl aQ ?_
    exact o_nil ⟨rfl, rfl, ⟨_, sP⟩⟩
  refine o_nil <| n_K ?_
  refine s_cond rfl (fun c23 => ?_) (fun c23 => ?_)
  · skip
    have hth0 : rthere r o.block 0 = true := (by simp at c23; exact c23.2)
    obtain ⟨⟨hb0, hb1⟩, _⟩ := rthere_in hth0
    obtain ⟨w0, hw0⟩ : ∃ w, r.bs[o.block.toNat]? = some w := ⟨_, List.getElem?_eq_getElem (by omega)⟩
    obtain ⟨kk, hkk⟩ : ∃ kk, kk = w0.next := ⟨_, rfl⟩
    refine s_draw [] [(10, [(0, false), (1, false), (2, false), (3, false), (4, false), (5, false), (6, false), (7, false), (8, false), (9, false)])] (by kernel_rfl) rfl fun ops w0 H0 y => ?_
    refine p_all <| xM rfl <| xN rfl <| xF rfl ?_
    refine xR (rd_ld rfl mM rfl) ?_
    refine xF rfl ?_
    refine xR (rd_ld rfl mM rfl) ?_
    refine xR (rd_ixS0 rfl rfl (by omega)) ?_
    refine xF rfl ?_
    refine xR (show Rd _ _ _ _ (.int .i64 kk) from (by rw [hkk]; exact rd_ld rfl mM (rbs_nth (o := 2072) hw0 (by omega) (rb_tail (o := 8) rbt_next)))) ?_
    refine xA rfl <| x_nil <| p_end <| n_K <| s_seq <| s_region0 fun ops => oF rfl ?_
    refine oR (show Rd _ _ _ _ (bv o.byte) from rd_ld rfl mM rfl) ?_
    refine oM rfl ?_
    refine c_is rfl (page_fn7 (b := o.byte) (k := (i : Nat))) sP rfl aQ ?_
    refine o_alloc rfl fun b11 => ?_
    rw [zeroP_eq]
    first | refine o_store rfl rfl uD (vc_vb) (vbc_len) (spl_vb (by first | exact vbc_len | exact List.length_replicate ..)) ?_ | refine o_store rfl rfl uD rfl rfl rfl ?_
    refine o_nil <| n_K <| s_seq <| s_region0 fun ops => oM rfl <| oF rfl ?_
    refine oR (rd_ld rfl mM rfl) ?_
    refine oM rfl ?_
    refine oR (rd_ldA rfl mM (by first | exact cut_vb | rfl)) ?_
    refine c_ex rfl (dk_program (d := d) h (b := o.block) (j := kk) (p := pageL o.byte (i : Nat))) sP rfl fun v42 Y42 h42 => ?_
    obtain ⟨t', c', e, rfl, rfl, hP⟩ := h42
    refine so_ap aQ ?_
    refine oA rfl <| o_nil <| n_K <| s_seq <| s_seq <| s_region0 fun ops => oM rfl <| oF rfl ?_
    refine oR (rd_ld rfl mM rfl) ?_
    refine oM rfl ?_
    refine c_is rfl (rthere_fn (r := r) (b := o.block) (k := kk)) sP rfl aQ ?_
    refine oR (rd_not rfl) <| o_nil <| n_K ?_
    refine s_cond rfl (fun c48 => ?_) (fun c48 => ?_)
    · skip
      have hth : rthere r o.block kk = false := (by simpa using c48)
      have hr := prog_arg h (by have := rthere_out hth; omega) hP
      simp only [Prod.mk.injEq] at hr
      obtain ⟨rfl, hts, rfl⟩ := hr
      refine s_seq ?_
      refine s_region [(3, 52)] rfl fun ops y => ?_
      refine oM rfl <| oM rfl <| oR (rd_bin rfl rfl rfl) <| oM rfl ?_
      refine' o_or (j := 3) (k := 8) (u := false) y rfl rfl rfl rfl rfl rfl rfl (fun hg52 => absurd hg52 (by simp)) ?_
      refine oA rfl <| oA rfl <| o_nil <| n_K <| s_ret <| r_K ?_
      exact leaf_r (rets2 Tryz.results35 (rv_tmp rfl) (rv_tmp rfl)) (by exact ⟨t', _, r.bs, 1, V, by simp, rfl, hR, .refl _, rfl, .inl ⟨by decide, by rw [hts]; exact h.mono (by omega), by rw [hts]; exact hacc⟩⟩) sP
    · skip
      have hth : rthere r o.block kk = true := (by simpa using c48)
      obtain ⟨⟨hbb0, hbb1⟩, hk0, hk8⟩ := rthere_in hth
      obtain ⟨w, hw⟩ : ∃ w, r.bs[o.block.toNat]? = some w := ⟨_, List.getElem?_eq_getElem (by omega)⟩
      have hwt := hnt w hbb0 hw
      refine s_skip <| n_K <| s_seq ?_
      refine s_draw [] [(8, [(0, false), (1, false), (2, false), (3, false), (4, false), (5, false), (6, false), (7, false)])] (by kernel_rfl) rfl fun ops w0 H0 y => ?_
      refine p_all <| xM rfl <| xN rfl <| xF rfl ?_
      refine xR (rd_ld rfl mM rfl) ?_
      refine xF rfl ?_
      refine xR (rd_ld rfl mM rfl) ?_
      refine xR (rd_ixS0 rfl rfl (by omega)) ?_
      refine xA rfl <| x_nil <| p_end <| n_K <| s_seq <| s_seq ?_
      refine s_region [(4, 73)] rfl fun ops y => ?_
      refine oM rfl <| oN rfl <| oF rfl ?_
      refine oR (rd_ld rfl mM (rbs_nth (o := 2073) hw (by omega) (rb_tail (o := 9) rbt_torn))) ?_
      refine oM rfl ?_
      refine' o_or (j := 4) (k := 6) y rfl rfl rfl rfl rfl rfl rfl (fun hg73 => ?_) ?_
      rotate_left
      · try (simp at hg73; show _)
        refine o_g y rfl rfl ?_
        refine oM rfl ?_
        refine o_g y rfl rfl ?_
        refine oM rfl ?_
        refine o_g y rfl rfl ?_
        refine oN rfl ?_
        refine o_g y rfl rfl ?_
        refine oF rfl ?_
        refine o_g y rfl rfl ?_
        refine oR (rd_ld rfl mM (rbs_nth (o := 2072) hw (by omega) (rb_tail (o := 8) rbt_next))) ?_
        refine o_g y rfl rfl ?_
        refine oR (rd_bin rfl rfl rfl) ?_
        exact o_nil ⟨rfl, rfl, ⟨_, sP⟩⟩
      refine o_nil <| n_K ?_
      refine s_cond rfl (fun c80 => ?_) (fun c80 => ?_)
      · simp only [hwt] at c80
        have hne : kk ≠ w.next := (by simpa using c80)
        have hr := prog_ord h (b := o.block.toNat) (j := kk.toNat) (by omega) (by omega) (by rw [(hR.at' _ w hw).nx hwt, Int.toNat_of_nonneg hk0]; exact fun e => hne e.symm) (by rw [Int.toNat_of_nonneg hk0, Int.toNat_of_nonneg hbb0]; exact hP)
        simp only [Prod.mk.injEq] at hr
        obtain ⟨rfl, hts, rfl⟩ := hr
        refine s_seq ?_
        refine s_region [(3, 84), (8, 89), (12, 93), (17, 98)] rfl fun ops y => ?_
        refine oM rfl <| oM rfl <| oR (rd_bin rfl rfl rfl) <| oM rfl ?_
        refine' o_or (j := 3) (k := 12) (u := false) y rfl rfl rfl rfl rfl rfl rfl (fun hg84 => absurd hg84 (by simp)) ?_
        refine oM rfl ?_
        refine' o_or (j := 17) (k := 8) (u := false) y rfl rfl rfl rfl rfl rfl rfl (fun hg98 => absurd hg98 (by simp)) ?_
        refine oA rfl <| oA rfl <| o_nil <| n_K <| s_ret <| r_K ?_
        exact leaf_r (rets2 Tryz.results35 (rv_tmp rfl) (rv_tmp rfl)) (by exact ⟨t', _, r.bs, 32, V, by simp, rfl, hR, .refl _, rfl, .inl ⟨by decide, by rw [hts]; exact h.mono (by omega), by rw [hts]; exact hacc⟩⟩) sP
      · simp only [hwt] at c80
        have hne : kk = w.next := (by simpa using c80)
        obtain ⟨hF, V', hRD, hcase⟩ := prog7_step (b := o.block.toNat) (j := kk.toNat) h hk hR hq hacc hw hwt (by omega) (by rw [Int.toNat_of_nonneg hk0]; exact hne.symm) (mend_pageL o.byte (i : Nat)) (by rw [Int.toNat_of_nonneg hk0, Int.toNat_of_nonneg hbb0]; exact hP)
        refine s_skip <| n_K <| s_seq <| s_region0 fun ops => oM rfl <| oN rfl <| oF rfl ?_
        refine oR (rd_ld rfl mM (rbs_nth (o := 2072) hw (by omega) (rb_tail (o := 8) rbt_next))) ?_
        refine oR (rd_add64 rfl rfl (by omega)) ?_
        refine oN rfl <| oF rfl ?_
        refine o_store (cs' := rbs (r.bs.set o.block.toNat { w with next := w.next + 1 })) rfl rfl uD rfl rfl (rbs_set (o := 2072) hw rb_setNext) ?_
        refine o_nil <| n_K <| s_seq ?_
        refine s_drawM [] [0, 1, 2, 3, 5, 6, 7, 8, 11, 12] [[(4, false)], [(9, false)], [(10, true)], [(13, false)], [(14, true)]] (by kernel_rfl) rfl rfl fun ops w0 H0 y => ?_
        unfold SPre
        refine xM rfl <| xM rfl <| xM rfl <| xM rfl <| xM rfl <| xR (rd_bin rfl rfl rfl) <| xN rfl <| xF rfl <| xN rfl <| xF rfl <| x_nil <| p_all ?_
        refine xR (rd_ldA rfl mM (by first | exact cut_vb | rfl)) ?_
        refine x_nil <| p_all ?_
        refine xR (rd_ixA rfl rfl (by omega)) ?_
        refine x_nil <| p_none <| x_so ?_
        first | refine o_store (cs' := rbs ((r.bs.set o.block.toNat { w with next := w.next + 1 }).set o.block.toNat (({ w with next := w.next + 1 } : RB).setPg kk.toNat (pageL o.byte (i : Nat))))) rfl rfl uD vc_vb vbc_len (by simp only [Nat.add_zero]; exact rbs_set (o := kk.toNat * 258) (rset_at hw) (rb_setPg (by omega))) ?_ | refine o_store (cs' := rbs (((r.bs.set o.block.toNat { w with next := w.next + 1 }).set o.block.toNat (({ w with next := w.next + 1 } : RB).setPg kk.toNat (pageL o.byte (i : Nat)))).set o.block.toNat (wrRB w kk.toNat (pageL o.byte (i : Nat)) (decide (e = 0))))) rfl rfl uD rfl rfl (by simp only [Nat.mul_one, Nat.add_assoc]; exact rbs_set (o := 2064 + kk.toNat) (rset_at (rset_at hw)) (rb_setSure (by omega))) ?_
        refine o_nil ⟨rfl, ⟨_, sP⟩, ?_⟩
        refine x_nil <| p_all ?_
        refine xR (rd_ixA rfl rfl (by omega)) ?_
        refine x_nil <| p_none <| x_so ?_
        first | refine o_store (cs' := rbs ((r.bs.set o.block.toNat { w with next := w.next + 1 }).set o.block.toNat (({ w with next := w.next + 1 } : RB).setPg kk.toNat (pageL o.byte (i : Nat))))) rfl rfl uD vc_vb vbc_len (by simp only [Nat.add_zero]; exact rbs_set (o := kk.toNat * 258) (rset_at hw) (rb_setPg (by omega))) ?_ | refine o_store (cs' := rbs (((r.bs.set o.block.toNat { w with next := w.next + 1 }).set o.block.toNat (({ w with next := w.next + 1 } : RB).setPg kk.toNat (pageL o.byte (i : Nat)))).set o.block.toNat (wrRB w kk.toNat (pageL o.byte (i : Nat)) (decide (e = 0))))) rfl rfl uD rfl rfl (by simp only [Nat.mul_one, Nat.add_assoc]; exact rbs_set (o := 2064 + kk.toNat) (rset_at (rset_at hw)) (rb_setSure (by omega))) ?_
        refine o_nil ⟨rfl, ⟨_, sP⟩, ?_⟩
        refine x_nil <| p_end <| n_K <| s_seq ?_
        refine s_region [(3, 131)] rfl fun ops y => ?_
        refine oM rfl <| oM rfl <| oR (rd_bin rfl rfl rfl) <| oM rfl ?_
        refine' o_or (j := 3) (k := 2) y rfl rfl rfl rfl rfl rfl rfl (fun hg131 => ?_) ?_
        rotate_left
        · try (simp at hg131; show _)
          refine o_g y rfl rfl ?_
          refine oM rfl ?_
          refine o_g y rfl rfl ?_
          refine oR (rd_bin rfl rfl rfl) ?_
          exact o_nil ⟨rfl, rfl, ⟨_, sP⟩⟩
        refine oA rfl <| oA rfl <| o_nil <| n_K <| s_ret ?_
        exact leaf_r (rets2 Tryz.results35 (rv_tmp rfl) (rv_tmp rfl)) (by exact ⟨t', c', _, e, V', by rcases hcase with ⟨h9, _⟩ | ⟨h9, _⟩ <;> (simp only at h9; subst h9; rfl), rfl, hRD, hF, torns_set hw rfl, by rcases hcase with ⟨h9, h10, h11⟩ | h9; exact .inl ⟨by simp only at h9; omega, h10, h11⟩; exact .inr h9⟩) (by simp only [rkH, rdc, List.length_set, List.set_set, List.cons_append, List.nil_append]; exact sP)
  · skip
    generalize hkk : o.page = kk
    refine s_skip <| n_K <| s_seq <| s_region0 fun ops => oF rfl ?_
    refine oR (show Rd _ _ _ _ (bv o.byte) from rd_ld rfl mM rfl) ?_
    refine oM rfl ?_
    refine c_is rfl (page_fn7 (b := o.byte) (k := (i : Nat))) sP rfl aQ ?_
    refine o_alloc rfl fun b11 => ?_
    rw [zeroP_eq]
    first | refine o_store rfl rfl uD (vc_vb) (vbc_len) (spl_vb (by first | exact vbc_len | exact List.length_replicate ..)) ?_ | refine o_store rfl rfl uD rfl rfl rfl ?_
    refine o_nil <| n_K <| s_seq <| s_region0 fun ops => oM rfl <| oF rfl ?_
    refine oR (rd_ld rfl mM rfl) ?_
    refine oM rfl ?_
    refine oR (rd_ldA rfl mM (by first | exact cut_vb | rfl)) ?_
    refine c_ex rfl (dk_program (d := d) h (b := o.block) (j := kk) (p := pageL o.byte (i : Nat))) sP rfl fun v42 Y42 h42 => ?_
    obtain ⟨t', c', e, rfl, rfl, hP⟩ := h42
    refine so_ap aQ ?_
    refine oA rfl <| o_nil <| n_K <| s_seq <| s_seq <| s_region0 fun ops => oM rfl <| oF rfl ?_
    refine oR (rd_ld rfl mM rfl) ?_
    refine oM rfl ?_
    refine c_is rfl (rthere_fn (r := r) (b := o.block) (k := kk)) sP rfl aQ ?_
    refine oR (rd_not rfl) <| o_nil <| n_K ?_
    refine s_cond rfl (fun c48 => ?_) (fun c48 => ?_)
    · skip
      have hth : rthere r o.block kk = false := (by simpa using c48)
      have hr := prog_arg h (by have := rthere_out hth; omega) hP
      simp only [Prod.mk.injEq] at hr
      obtain ⟨rfl, hts, rfl⟩ := hr
      refine s_seq ?_
      refine s_region [(3, 52)] rfl fun ops y => ?_
      refine oM rfl <| oM rfl <| oR (rd_bin rfl rfl rfl) <| oM rfl ?_
      refine' o_or (j := 3) (k := 8) (u := false) y rfl rfl rfl rfl rfl rfl rfl (fun hg52 => absurd hg52 (by simp)) ?_
      refine oA rfl <| oA rfl <| o_nil <| n_K <| s_ret <| r_K ?_
      exact leaf_r (rets2 Tryz.results35 (rv_tmp rfl) (rv_tmp rfl)) (by exact ⟨t', _, r.bs, 1, V, by simp, rfl, hR, .refl _, rfl, .inl ⟨by decide, by rw [hts]; exact h.mono (by omega), by rw [hts]; exact hacc⟩⟩) sP
    · skip
      have hth : rthere r o.block kk = true := (by simpa using c48)
      obtain ⟨⟨hbb0, hbb1⟩, hk0, hk8⟩ := rthere_in hth
      obtain ⟨w, hw⟩ : ∃ w, r.bs[o.block.toNat]? = some w := ⟨_, List.getElem?_eq_getElem (by omega)⟩
      have hwt := hnt w hbb0 hw
      refine s_skip <| n_K <| s_seq ?_
      refine s_draw [] [(8, [(0, false), (1, false), (2, false), (3, false), (4, false), (5, false), (6, false), (7, false)])] (by kernel_rfl) rfl fun ops w0 H0 y => ?_
      refine p_all <| xM rfl <| xN rfl <| xF rfl ?_
      refine xR (rd_ld rfl mM rfl) ?_
      refine xF rfl ?_
      refine xR (rd_ld rfl mM rfl) ?_
      refine xR (rd_ixS0 rfl rfl (by omega)) ?_
      refine xA rfl <| x_nil <| p_end <| n_K <| s_seq <| s_seq ?_
      refine s_region [(4, 73)] rfl fun ops y => ?_
      refine oM rfl <| oN rfl <| oF rfl ?_
      refine oR (rd_ld rfl mM (rbs_nth (o := 2073) hw (by omega) (rb_tail (o := 9) rbt_torn))) ?_
      refine oM rfl ?_
      refine' o_or (j := 4) (k := 6) y rfl rfl rfl rfl rfl rfl rfl (fun hg73 => ?_) ?_
      rotate_left
      · try (simp at hg73; show _)
        refine o_g y rfl rfl ?_
        refine oM rfl ?_
        refine o_g y rfl rfl ?_
        refine oM rfl ?_
        refine o_g y rfl rfl ?_
        refine oN rfl ?_
        refine o_g y rfl rfl ?_
        refine oF rfl ?_
        refine o_g y rfl rfl ?_
        refine oR (rd_ld rfl mM (rbs_nth (o := 2072) hw (by omega) (rb_tail (o := 8) rbt_next))) ?_
        refine o_g y rfl rfl ?_
        refine oR (rd_bin rfl rfl rfl) ?_
        exact o_nil ⟨rfl, rfl, ⟨_, sP⟩⟩
      refine o_nil <| n_K ?_
      refine s_cond rfl (fun c80 => ?_) (fun c80 => ?_)
      · simp only [hwt] at c80
        have hne : kk ≠ w.next := (by simpa using c80)
        have hr := prog_ord h (b := o.block.toNat) (j := kk.toNat) (by omega) (by omega) (by rw [(hR.at' _ w hw).nx hwt, Int.toNat_of_nonneg hk0]; exact fun e => hne e.symm) (by rw [Int.toNat_of_nonneg hk0, Int.toNat_of_nonneg hbb0]; exact hP)
        simp only [Prod.mk.injEq] at hr
        obtain ⟨rfl, hts, rfl⟩ := hr
        refine s_seq ?_
        refine s_region [(3, 84), (8, 89), (12, 93), (17, 98)] rfl fun ops y => ?_
        refine oM rfl <| oM rfl <| oR (rd_bin rfl rfl rfl) <| oM rfl ?_
        refine' o_or (j := 3) (k := 12) (u := false) y rfl rfl rfl rfl rfl rfl rfl (fun hg84 => absurd hg84 (by simp)) ?_
        refine oM rfl ?_
        refine' o_or (j := 17) (k := 8) (u := false) y rfl rfl rfl rfl rfl rfl rfl (fun hg98 => absurd hg98 (by simp)) ?_
        refine oA rfl <| oA rfl <| o_nil <| n_K <| s_ret <| r_K ?_
        exact leaf_r (rets2 Tryz.results35 (rv_tmp rfl) (rv_tmp rfl)) (by exact ⟨t', _, r.bs, 32, V, by simp, rfl, hR, .refl _, rfl, .inl ⟨by decide, by rw [hts]; exact h.mono (by omega), by rw [hts]; exact hacc⟩⟩) sP
      · simp only [hwt] at c80
        have hne : kk = w.next := (by simpa using c80)
        obtain ⟨hF, V', hRD, hcase⟩ := prog7_step (b := o.block.toNat) (j := kk.toNat) h hk hR hq hacc hw hwt (by omega) (by rw [Int.toNat_of_nonneg hk0]; exact hne.symm) (mend_pageL o.byte (i : Nat)) (by rw [Int.toNat_of_nonneg hk0, Int.toNat_of_nonneg hbb0]; exact hP)
        refine s_skip <| n_K <| s_seq <| s_region0 fun ops => oM rfl <| oN rfl <| oF rfl ?_
        refine oR (rd_ld rfl mM (rbs_nth (o := 2072) hw (by omega) (rb_tail (o := 8) rbt_next))) ?_
        refine oR (rd_add64 rfl rfl (by omega)) ?_
        refine oN rfl <| oF rfl ?_
        refine o_store (cs' := rbs (r.bs.set o.block.toNat { w with next := w.next + 1 })) rfl rfl uD rfl rfl (rbs_set (o := 2072) hw rb_setNext) ?_
        refine o_nil <| n_K <| s_seq ?_
        refine s_drawM [] [0, 1, 2, 3, 5, 6, 7, 8, 11, 12] [[(4, false)], [(9, false)], [(10, true)], [(13, false)], [(14, true)]] (by kernel_rfl) rfl rfl fun ops w0 H0 y => ?_
        unfold SPre
        refine xM rfl <| xM rfl <| xM rfl <| xM rfl <| xM rfl <| xR (rd_bin rfl rfl rfl) <| xN rfl <| xF rfl <| xN rfl <| xF rfl <| x_nil <| p_all ?_
        refine xR (rd_ldA rfl mM (by first | exact cut_vb | rfl)) ?_
        refine x_nil <| p_all ?_
        refine xR (rd_ixA rfl rfl (by omega)) ?_
        refine x_nil <| p_none <| x_so ?_
        first | refine o_store (cs' := rbs ((r.bs.set o.block.toNat { w with next := w.next + 1 }).set o.block.toNat (({ w with next := w.next + 1 } : RB).setPg kk.toNat (pageL o.byte (i : Nat))))) rfl rfl uD vc_vb vbc_len (by simp only [Nat.add_zero]; exact rbs_set (o := kk.toNat * 258) (rset_at hw) (rb_setPg (by omega))) ?_ | refine o_store (cs' := rbs (((r.bs.set o.block.toNat { w with next := w.next + 1 }).set o.block.toNat (({ w with next := w.next + 1 } : RB).setPg kk.toNat (pageL o.byte (i : Nat)))).set o.block.toNat (wrRB w kk.toNat (pageL o.byte (i : Nat)) (decide (e = 0))))) rfl rfl uD rfl rfl (by simp only [Nat.mul_one, Nat.add_assoc]; exact rbs_set (o := 2064 + kk.toNat) (rset_at (rset_at hw)) (rb_setSure (by omega))) ?_
        refine o_nil ⟨rfl, ⟨_, sP⟩, ?_⟩
        refine x_nil <| p_all ?_
        refine xR (rd_ixA rfl rfl (by omega)) ?_
        refine x_nil <| p_none <| x_so ?_
        first | refine o_store (cs' := rbs ((r.bs.set o.block.toNat { w with next := w.next + 1 }).set o.block.toNat (({ w with next := w.next + 1 } : RB).setPg kk.toNat (pageL o.byte (i : Nat))))) rfl rfl uD vc_vb vbc_len (by simp only [Nat.add_zero]; exact rbs_set (o := kk.toNat * 258) (rset_at hw) (rb_setPg (by omega))) ?_ | refine o_store (cs' := rbs (((r.bs.set o.block.toNat { w with next := w.next + 1 }).set o.block.toNat (({ w with next := w.next + 1 } : RB).setPg kk.toNat (pageL o.byte (i : Nat)))).set o.block.toNat (wrRB w kk.toNat (pageL o.byte (i : Nat)) (decide (e = 0))))) rfl rfl uD rfl rfl (by simp only [Nat.mul_one, Nat.add_assoc]; exact rbs_set (o := 2064 + kk.toNat) (rset_at (rset_at hw)) (rb_setSure (by omega))) ?_
        refine o_nil ⟨rfl, ⟨_, sP⟩, ?_⟩
        refine x_nil <| p_end <| n_K <| s_seq ?_
        refine s_region [(3, 131)] rfl fun ops y => ?_
        refine oM rfl <| oM rfl <| oR (rd_bin rfl rfl rfl) <| oM rfl ?_
        refine' o_or (j := 3) (k := 2) y rfl rfl rfl rfl rfl rfl rfl (fun hg131 => ?_) ?_
        rotate_left
        · try (simp at hg131; show _)
          refine o_g y rfl rfl ?_
          refine oM rfl ?_
          refine o_g y rfl rfl ?_
          refine oR (rd_bin rfl rfl rfl) ?_
          exact o_nil ⟨rfl, rfl, ⟨_, sP⟩⟩
        refine oA rfl <| oA rfl <| o_nil <| n_K <| s_ret ?_
        exact leaf_r (rets2 Tryz.results35 (rv_tmp rfl) (rv_tmp rfl)) (by exact ⟨t', c', _, e, V', by rcases hcase with ⟨h9, _⟩ | ⟨h9, _⟩ <;> (simp only at h9; subst h9; rfl), rfl, hRD, hF, torns_set hw rfl, by rcases hcase with ⟨h9, h10, h11⟩ | h9; exact .inl ⟨by simp only at h9; omega, h10, h11⟩; exact .inr h9⟩) (by simp only [rkH, rdc, List.length_set, List.set_set, List.cons_append, List.nil_append]; exact sP)
end Go.Proofs.YtdfidkhbldedlaaGreat
end
section
/- Walk of the law DiskPlays. -/
namespace Go.Proofs.YtdfidkhbldedlaaGreat
open Go.K
set_option linter.unusedVariables false
set_option linter.unusedSimpArgs false
instance ent10 : Ent Tryz.prog 10 := ⟨fun _ _ => by kernel_rfl⟩
set_option maxRecDepth 20000
set_option maxHeartbeats 1000000
theorem eraRB_pg {j : Nat} (hj : j < 8) : eraRB.pages[j] = blankP := by simp [eraRB, eraTo, hj]
/-- An erased block, and the document's. -/
theorem relB_era {v : Blk} (hb : BI v) (h0 : v.next = 0) : RelB v eraRB :=
  ⟨fun _ => h0, ⟨Int.le_refl _, by show (0 : Int) ≤ 8; omega⟩, fun j hj _ => by rw [eraRB_pg hj]; exact ⟨mend_blank, .inl (hb.none h0 j hj)⟩⟩
theorem relD_new (n : Nat) (h : 6 ≤ n) : RelD (fun _ => newB false) (List.replicate (n - 6) eraRB) n :=
  ⟨by simp; omega, fun l w hw => by
    have : w = eraRB := by
      rw [List.getElem?_replicate] at hw
      split at hw
      · cases hw; rfl
      · cases hw
    subst this
    exact relB_era ⟨by simp [newB], fun j hj _ => by simp [newB]⟩ rfl⟩
def NoTorn (bs : List RB) : Prop := ∀ (l : Nat) (w : RB), bs[l]? = some w → w.torn = false
theorem NoTorn.of {bs bs' : List RB} (h : NoTorn bs) (he : torns bs' = torns bs) : NoTorn bs' := fun l w hw => by
  have h1 : (torns bs')[l]? = some w.torn := by unfold torns; rw [List.getElem?_map, hw]; rfl
  rw [he] at h1
  unfold torns at h1
  rw [List.getElem?_map] at h1
  cases h2 : bs[l]? with
  | none => rw [h2] at h1; cases h1
  | some w2 =>
    rw [h2] at h1
    have := h l w2 h2
    simp at h1
    rw [← h1]; exact this
theorem NoTorn.set {bs : List RB} {b : Nat} (h : NoTorn bs) : NoTorn (bs.set b eraRB) := fun l w hw => by
  rw [List.getElem?_set] at hw
  split at hw
  · split at hw
    · cases hw; rfl
    · cases hw
  · exact h l w hw
structure PI (t : TS) (c : Chip) (bs : List RB) (k q : Nat) : Prop where
  dv : ∃ V, DV c t 24 k V ∧ RelD V bs 24
  af : c.after < 0
  acc : t.lost.length + FP c + FW c ≤ q
  nt : NoTorn bs
theorem PI.mono {t : TS} {c : Chip} {bs : List RB} {k k' q : Nat} (h : PI t c bs k q) (hk : k ≤ k') : PI t c bs k' q := by
  obtain ⟨V, h1, h2⟩ := h.dv
  exact ⟨⟨V, h1.mono hk, h2⟩, h.af, h.acc, h.nt⟩
theorem pi_prog {dk rd rb : Nat} {t : Tab} {c : Chip} {bs : List RB} {k q i : Nat} {o : Op7} (h : PI t.ts c bs k q) (hk : k ≤ 700000) (hq : q ≤ 3) :
    Does Tryz.prog 35 [ptr dk, ptr rd, .agg (op7C o).toArray, .int .i64 (i : Nat)] (dkH ⟨dk, t, c⟩ ++ (rkH ⟨rd, rb, bs⟩ ++ []))
    (fun v H => ∃ (t' : Tab) (c' : Chip) (bs' : List RB) (e : Int), v = .tuple #[.int .i64 e, .bool true] ∧ H = dkH ⟨dk, t', c'⟩ ++ (rkH ⟨rd, rb, bs'⟩ ++ []) ∧ e ≠ 30 ∧ PI t'.ts c' bs' (k + 20) q) := by
  obtain ⟨V, h1, h2⟩ := h.dv
  refine (prog7_fn (d := ⟨dk, t, c⟩) (r := ⟨rd, rb, bs⟩) (i := i) (o := o) h1 hk h2 hq h.acc (fun w _ hw => h.nt _ w hw)).mono fun v H ⟨t', c', bs', e, V', q1, q2, q3, q4, q5, q6⟩ => ?_
  rcases q6 with ⟨q6, q7, q8⟩ | ⟨_, _, q6, _⟩
  · exact ⟨t', c', bs', e, q1, q2, q6, ⟨V', q7, q3⟩, by rw [(q4.pos h.af).1]; exact h.af, q8, h.nt.of q5⟩
  · exact absurd h.af q6
theorem pi_erase {dk rd rb : Nat} {t : Tab} {c : Chip} {bs : List RB} {k q : Nat} {b : Int} (h : PI t.ts c bs k q) (hk : k ≤ 700000) (hq : q ≤ 3) :
    Does Tryz.prog 33 [ptr dk, .int .i64 b] (dkH ⟨dk, t, c⟩)
    (fun v H => (rthere ⟨rd, rb, bs⟩ b 0 = true ∧ v = .int .i64 0 ∧ ∃ (t' : Tab) (c' : Chip), H = dkH ⟨dk, t', c'⟩ ++ [] ∧ PI t'.ts c' (bs.set b.toNat eraRB) (k + 20) q) ∨
      (rthere ⟨rd, rb, bs⟩ b 0 = false ∧ v = .int .i64 1 ∧ ∃ (t' : Tab) (c' : Chip), H = dkH ⟨dk, t', c'⟩ ++ [] ∧ PI t'.ts c' bs (k + 20) q)) := by
  obtain ⟨V, h1, h2⟩ := h.dv
  have hl := h2.len
  have hacc := h.acc
  refine (dk_erase (d := ⟨dk, t, c⟩) h1 (b := b)).mono fun v H ⟨t', c', e, q1, q2, q3⟩ => ?_
  cases hth : rthere ⟨rd, rb, bs⟩ b 0 with
  | true =>
    obtain ⟨⟨hb0, hb1⟩, _⟩ := rthere_in hth
    simp only at hb1
    obtain ⟨n, rfl⟩ : ∃ n : Nat, b = n := ⟨b.toNat, by omega⟩
    obtain ⟨f, w, hw, hc⟩ := erase_view (b := n) h1 hk (by omega) (by omega) q3
    simp only at hc f
    rcases hc with ⟨r1, r2, r3, r4⟩ | ⟨r1, _, r3, r4⟩ | ⟨_, _, r3, _⟩
    · refine .inl ⟨rfl, by rw [q1, r1], t', c', q2, ⟨⟨_, r2, ?_⟩, by rw [(f.pos h.af).1]; exact h.af, by omega, h.nt.set⟩⟩
      have hbi := (r2.blk (l := n) (by omega)).1
      rw [upV_at] at hbi
      exact h2.set (relB_era hbi r3)
    · omega
    · exact absurd h.af r3
  | false =>
    have hr := erase_arg h1 (b := b) (by have h9 := rthere_out hth; have h10 : (RDk.mk rd rb bs).bs.length = bs.length := rfl; omega) q3
    simp only [Prod.mk.injEq] at hr
    obtain ⟨rfl, hts, rfl⟩ := hr
    exact .inr ⟨rfl, q1, t', _, q2, ⟨V, by rw [hts]; exact h1.mono (by omega), h2⟩, h.af, by rw [hts]; exact h.acc, h.nt⟩
theorem rerase_i {r : RDk} {b : Int} (h0 : 0 ≤ b) (h1 : b < r.bs.length) : Does Tryz.prog 37 [ptr r.d, .int .i64 b] (rkH r) (Is (.tuple #[]) (rkH ⟨r.d, r.b, r.bs.set b.toNat eraRB⟩)) := by
  obtain ⟨n, rfl⟩ : ∃ n : Nat, b = n := ⟨b.toNat, by omega⟩
  exact rerase_fn (by omega)
theorem New0.pi {d : Dsk} {pr : Bool} {s : Sl Int} (h : New0 d 24) : PI d.t.ts (failC d.c pr s) (List.replicate 18 eraRB) 0 s.list.length := by
  refine ⟨⟨_, h.dd.fail pr s, relD_new 24 (by omega)⟩, by unfold failC; split <;> exact h.af, ?_, fun l w hw => ?_⟩
  · have h1 := h.lost
    cases pr with
    | true =>
      have hp : FP (failC d.c true s) ≤ s.list.length := fp_len _
      have hw : FW (failC d.c true s) = 0 := fw_nil h.wf
      omega
    | false =>
      have hw : FW (failC d.c false s) ≤ s.list.length := fw_len _
      have hp : FP (failC d.c false s) = 0 := fp_nil h.pf
      omega
  · rw [List.getElem?_replicate] at hw
    split at hw
    · cases hw; rfl
    · cases hw
theorem dplays_fn {sc : Sl Op7} {fa : Sl Int} {pr : Bool} : Does Tryz.prog 10 [sc.val, fa.val, .bool pr] (sc.hp tO7 ++ (fa.hp tI ++ [])) (fun v H => v = .bool true) := by
  refine fn_enter (n := 125) Tryz.func10 Tryz.ntmps10 rfl (Nat.le_of_ble_eq_true rfl) <| s_seq <| s_region0 fun ops => oA rfl <| o_nil <| n_K <| s_seq <| s_seq <| s_region0 fun ops => ?_
  refine c_is rfl (speaks7_fn) sP rfl aQ ?_
  refine oR (rd_not rfl) <| o_nil <| n_K ?_
  refine s_condF rfl ?_
  refine s_skip <| n_K <| s_seq <| s_seq ?_
  refine s_region [(3, 22)] rfl fun ops y => ?_
  refine oM rfl <| oR (rd_lenS rfl) <| oR (rd_bin rfl rfl rfl) <| oM rfl ?_
  refine' o_or (j := 3) (k := 3) y rfl rfl rfl rfl rfl rfl rfl (fun hg22 => ?_) ?_
  rotate_left
  · try (simp at hg22; show _)
    refine o_g y rfl rfl ?_
    refine oM rfl ?_
    refine o_g y rfl rfl ?_
    refine oR (rd_lenS rfl) ?_
    refine o_g y rfl rfl ?_
    refine oR (rd_bin rfl rfl rfl) ?_
    exact o_nil ⟨rfl, rfl, ⟨_, sP⟩⟩
  refine o_nil <| n_K ?_
  refine s_cond rfl (fun c26 => ?_) (fun c26 => ?_)
  · simp only [Bool.or_eq_true, Bool.or_eq_false_iff, decide_eq_true_eq, decide_eq_false_iff_not] at c26
    refine s_seq <| s_region0 fun ops => oA rfl <| o_nil <| n_K <| s_ret <| r_K ?_
    exact leaf_r (rets1 Tryz.results10 (rv_tmp rfl)) (by rfl) sP
  · simp only [Bool.or_eq_true, Bool.or_eq_false_iff, decide_eq_true_eq, decide_eq_false_iff_not] at c26
    have hsc : sc.list.length ≤ 60 ∧ fa.list.length ≤ 3 := (by omega)
    refine s_skip <| n_K <| s_seq <| s_region0 fun ops => ?_
    refine c_ex rfl (dk_laid (m := 24) (by decide) fx24) sP rfl fun v27 Y27 h27 => ?_
    obtain ⟨d, rfl, rfl, hd⟩ := h27
    refine so_ap aQ ?_
    refine oA rfl <| o_nil <| n_K <| s_seq <| s_seq <| s_region0 fun ops => oM rfl <| oR (rd_eqNil rfl rfl) <| o_nil <| n_K ?_
    refine s_condF rfl ?_
    refine s_skip <| n_K <| s_seq <| s_region0 fun ops => ?_
    refine c_ex rfl (rnew_fn (n := 18) (by decide)) sP rfl fun v30 Y30 h30 => ?_
    obtain ⟨rd, rb, rfl, rfl⟩ := h30
    refine so_ap aQ ?_
    refine oA rfl <| o_nil <| n_K <| s_seq <| s_region0 fun ops => ?_
    refine o_bslice_k rfl rfl rfl rfl fun b31 => ?_
    refine so_eq (own0 (α := Int) (b := b31) (T := tI)) ?_
    refine oA rfl <| o_nil <| n_K <| s_seq <| s_seq <| s_region0 fun ops => oM rfl <| oR (rd_lenS rfl) <| oM rfl <| o_nil <| n_K <| s_block ?_
    refine s_loop2 [0, 2, 7, 8, 32, 33] kQ (fun (st : Nat × Sl Int) => [(34, .int .i64 st.1), (9, st.2.val)]) (fun (st : Nat × Sl Int) => st.2.hp tI ++ (rkH ⟨rd, rb, List.replicate 18 eraRB⟩ ++ (dkH d ++ (sc.hp tO7 ++ (fa.hp tI ++ []))))) (fun (st : Nat × Sl Int) => st.1 ≤ fa.list.length ∧ st.2.list.length = st.1 ∧ st.2.isOwn = true) (fun (st : Nat × Sl Int) => fa.list.length - st.1) ((0, mt Int b31)) ⟨Nat.zero_le _, rfl, rfl⟩ kP sP ?_
    rintro ⟨m, fs⟩ ⟨k0, k1, k2⟩
    simp only at k0 k1 k2
    refine s_seq <| s_region0 fun ops => oR (rd_bin rfl rfl rfl) <| o_nil <| n_K <| s_seq ?_
    refine s_cond rfl (fun c35 => ?_) (fun c35 => ?_)
    · simp only [decide_eq_true_eq, decide_eq_false_iff_not] at c35
      obtain ⟨z, hg⟩ : ∃ z, fa.list[m]? = some z := ⟨_, List.getElem?_eq_getElem (by omega)⟩
      obtain ⟨kk, hkk, hkl⟩ := and_le z 3 (by omega)
      refine s_skip <| n_K <| s_seq <| s_block <| s_seq <| s_region0 fun ops => oM rfl ?_
      refine oR (rd_ixSl rfl rfl (by omega)) ?_
      refine oR (rd_ldSl (o := 0) rfl pL hg rfl rfl) ?_
      refine oA rfl <| oA rfl <| o_nil <| n_K <| s_region0 fun ops => oM rfl <| oM rfl ?_
      refine oR (rd_mul64 rfl rfl (by omega)) ?_
      refine oM rfl ?_
      refine oR (show Rd _ _ _ _ (.int .i64 (kk : Nat)) from by (rw [← hkk]; exact rd_bin rfl rfl rfl)) ?_
      refine oR (rd_add64 rfl rfl (by omega)) ?_
      refine o_bslice_k rfl rfl rfl rfl fun b45 => ?_
      refine o_append_sl (s := fs) (new := [4 * (m : Int) + (kk : Nat)]) (m := 1) rfl rfl pL k2 (src_blk (r := true) mM rfl) rfl rfl rfl rfl (by omega) rfl fun fs' hs1 hs2 => ?_
      refine oA rfl <| o_nil <| n_blk <| n_K <| s_region0 fun ops => ?_
      refine oR (rd_add64 rfl rfl (by omega)) ?_
      refine oM rfl <| o_nil <| n_K ?_
      exact ⟨(m + 1, fs'), ⟨by simp only; omega, by rw [hs1]; simp; omega, hs2⟩, (by simp only; omega), lZ⟩
    · simp only [decide_eq_true_eq, decide_eq_false_iff_not] at c35
      have hq3 : fs.list.length ≤ 3 := (by omega)
      refine s_exit <| x_K <| x_K <| x_blk <| n_K <| s_seq <| s_region0 fun ops => oM rfl <| oN rfl <| oF rfl ?_
      refine oR (rd_dc (d := d) rfl pL) ?_
      refine oM rfl <| oM rfl ?_
      refine c_ex rfl (dk_fail (d := d) (s := fs) (pr := pr) (by omega)) sP rfl fun v54 Y54 h54 => ?_
      obtain ⟨s', rfl, rfl, hs'⟩ := h54
      refine so_ap aQ ?_
      refine o_nil <| n_K <| s_seq <| s_seq <| s_region0 fun ops => oM rfl <| oR (rd_lenS rfl) <| oM rfl <| o_nil <| n_K <| s_block ?_
      refine s_loop2 [7, 8, 9, 55, 56] kQ (fun (st : Nat × Tab × Chip × List RB) => [(57, .int .i64 st.1)]) (fun (st : Nat × Tab × Chip × List RB) => dkH ⟨d.dk, st.2.1, st.2.2.1⟩ ++ (rkH ⟨rd, rb, st.2.2.2⟩ ++ (sc.hp tO7 ++ []))) (fun (st : Nat × Tab × Chip × List RB) => st.1 ≤ sc.list.length ∧ PI st.2.1.ts st.2.2.1 st.2.2.2 (20 * st.1) fs.list.length) (fun (st : Nat × Tab × Chip × List RB) => sc.list.length - st.1) ((0, d.t, failC d.c pr s', List.replicate 18 eraRB)) ⟨Nat.zero_le _, by rw [← hs']; exact hd.pi⟩ kP sP ?_
      rintro ⟨i, t1, c1, bs⟩ ⟨g0, g1⟩
      simp only at g0 g1
      refine s_seq <| s_region0 fun ops => oR (rd_bin rfl rfl rfl) <| o_nil <| n_K <| s_seq ?_
      refine s_cond rfl (fun c58 => ?_) (fun c58 => ?_)
      · simp only [decide_eq_true_eq, decide_eq_false_iff_not] at c58
        obtain ⟨z, hg⟩ : ∃ z, sc.list[i]? = some z := ⟨_, List.getElem?_eq_getElem (by omega)⟩
        obtain ⟨kk, hkk, hkl⟩ := and_le z.kind 3 (by omega)
        refine s_skip <| n_K <| s_seq <| s_block <| s_seq <| s_region0 fun ops => oM rfl ?_
        refine oR (rd_ixSl rfl rfl (by omega)) ?_
        refine oR (rd_ldSlA (o := 0) rfl pL hg rfl rfl) ?_
        refine o_alloc rfl fun b13 => ?_
        refine oA rfl ?_
        refine o_store rfl rfl uD rfl rfl rfl ?_
        refine o_nil <| n_K <| s_seq <| s_seq <| s_region0 fun ops => oF rfl ?_
        refine oR (rd_ld rfl mM rfl) ?_
        refine oR (show Rd _ _ _ _ (.int .i64 (kk : Nat)) from by (rw [← hkk]; exact rd_bin rfl rfl rfl)) ?_
        refine oR (rd_bin rfl rfl rfl) <| o_nil <| n_K ?_
        refine s_cond rfl (fun c65 => ?_) (fun c65 => ?_)
        · simp only [decide_eq_true_eq, decide_eq_false_iff_not] at c65
          refine s_seq <| s_region0 fun ops => oM rfl <| oM rfl ?_
          refine oR (rd_ldA rfl mM rfl) ?_
          refine oM rfl ?_
          refine c_ex rfl (pi_prog (dk := d.dk) (rd := rd) (rb := rb) (i := i) (o := z) g1 (by omega) hq3) sP rfl fun v71 Y71 h71 => ?_
          obtain ⟨t', c', bs', e, rfl, rfl, he, hPI⟩ := h71
          refine so_ap aQ ?_
          refine oM rfl <| oE rfl rfl <| oE rfl rfl <| oA rfl <| oA rfl <| o_nil <| n_K <| s_seq ?_
          refine s_region [(2, 76)] rfl fun ops y => ?_
          refine oM rfl <| oR (rd_not rfl) <| oM rfl ?_
          refine' o_or (j := 2) (k := 2) y rfl rfl rfl rfl rfl rfl rfl (fun hg76 => ?_) ?_
          rotate_left
          · try (simp at hg76; show _)
            refine o_g y rfl rfl ?_
            refine oM rfl ?_
            refine o_g y rfl rfl ?_
            refine oR (rd_bin rfl rfl rfl) ?_
            exact o_nil ⟨rfl, rfl, ⟨_, sP⟩⟩
          refine o_nil <| n_K ?_
          refine s_cond rfl (fun c79 => ?_) (fun c79 => ?_)
          · simp only [Bool.not_true, Bool.false_or, decide_eq_true_eq, decide_eq_false_iff_not] at c79
            try (exfalso; (exact he c79); done)
            all_goals
              refine s_seq <| s_region0 fun ops => oA rfl <| o_nil <| n_K <| s_ret <| r_K <| r_blk <| r_K <| r_K <| r_blk <| r_K ?_
              exact leaf_r (rets1 Tryz.results10 (rv_tmp rfl)) (by rfl) sP
          · simp only [Bool.not_true, Bool.false_or, decide_eq_true_eq, decide_eq_false_iff_not] at c79
            refine s_skip <| n_K <| s_seq <| s_seq ?_
            refine s_region [(4, 103)] rfl fun ops y => ?_
            refine oF rfl ?_
            refine oR (rd_ld rfl mM rfl) ?_
            refine oR (show Rd _ _ _ _ (.int .i64 (kk : Nat)) from by (rw [← hkk]; exact rd_bin rfl rfl rfl)) ?_
            refine oR (rd_bin rfl rfl rfl) <| oM rfl ?_
            refine' o_and (j := 4) (k := 4) y rfl rfl rfl rfl rfl rfl rfl (fun hg103 => ?_) ?_
            rotate_left
            · try (simp at hg103; show _)
              refine o_g y rfl rfl ?_
              refine oM rfl ?_
              refine o_g y rfl rfl ?_
              refine oF rfl ?_
              refine o_g y rfl rfl ?_
              refine oR (rd_ld rfl mM rfl) ?_
              refine o_g y rfl rfl ?_
              refine c_is rfl ((by first | exact (rthere_fn (r := ⟨rd, rb, bs⟩) (b := z.block) (k := 0)).to (by rw [hth]) rfl | exact rthere_fn (r := ⟨rd, rb, bs'⟩) (b := z.block) (k := 0))) sP rfl aQ ?_
              exact o_nil ⟨rfl, rfl, ⟨_, sP⟩⟩
            refine o_nil <| n_K ?_
            refine s_cond rfl (fun c108 => ?_) (fun c108 => ?_)
            · skip
              try (exfalso; (first | (simp at c108; done) | (simp at c108; omega)); done)
              all_goals
                refine s_region0 fun ops => oM rfl <| oF rfl ?_
                refine oR (rd_ld rfl mM rfl) ?_
                refine c_is rfl (rerase_i (r := ⟨rd, rb, bs⟩) (b := z.block) (rthere_in hth).1.1 (rthere_in hth).1.2) sP rfl aQ ?_
                refine o_nil <| n_K <| s_seq ?_
                refine s_region [(4, 117)] rfl fun ops y => ?_
                refine oM rfl <| oM rfl ?_
                refine c_is rfl ((by first | exact whole_fn (d := ⟨d.dk, t', c'⟩) (r := ⟨rd, rb, bs'⟩) hPI.dv.choose_spec.1 hPI.dv.choose_spec.2 | exact whole_fn (d := ⟨d.dk, t', c'⟩) (r := ⟨rd, rb, bs⟩) hPI.dv.choose_spec.1 hPI.dv.choose_spec.2 | exact whole_fn (d := ⟨d.dk, t', c'⟩) (r := ⟨rd, rb, bs.set z.block.toNat eraRB⟩) hPI.dv.choose_spec.1 hPI.dv.choose_spec.2)) sP rfl aQ ?_
                refine oR (rd_not rfl) <| oM rfl ?_
                refine' o_or (j := 4) (k := 5) y rfl rfl rfl rfl rfl rfl rfl (fun hg117 => ?_) ?_
                rotate_left
                · try (simp at hg117; show _)
                  refine o_g y rfl rfl ?_
                  refine oM rfl ?_
                  refine o_g y rfl rfl ?_
                  refine c_is rfl (dk_lost (d := ⟨d.dk, t', c'⟩)) sP rfl aQ ?_
                  refine o_g y rfl rfl ?_
                  refine oM rfl ?_
                  refine o_g y rfl rfl ?_
                  refine oR (rd_lenS rfl) ?_
                  refine o_g y rfl rfl ?_
                  refine oR (rd_bin rfl rfl rfl) ?_
                  exact o_nil ⟨rfl, rfl, ⟨_, sP⟩⟩
                refine o_nil <| n_K ?_
                refine s_cond rfl (fun c123 => ?_) (fun c123 => ?_)
                · skip
                  try (exfalso; (simp at c123; have h9 : t'.l.list.length + FP c' + FW c' ≤ fs.list.length := hPI.acc; omega); done)
                  all_goals
                    refine s_seq <| s_region0 fun ops => oA rfl <| o_nil <| n_K <| s_ret <| r_blk <| r_K <| r_K <| r_blk <| r_K ?_
                    exact leaf_r (rets1 Tryz.results10 (rv_tmp rfl)) (by rfl) sP
                · skip
                  refine s_skip <| n_blk <| n_K <| s_region0 fun ops => ?_
                  refine oR (rd_add64 rfl rfl (by omega)) ?_
                  refine oM rfl <| o_nil <| n_K ?_
                  first | exact ⟨(i + 1, t', c', bs'), ⟨by simp only; omega, hPI⟩, by simp only; omega, lZ⟩ | exact ⟨(i + 1, t', c', bs), ⟨by simp only; omega, hPI⟩, by simp only; omega, lZ⟩ | exact ⟨(i + 1, t', c', bs.set z.block.toNat eraRB), ⟨by simp only; omega, hPI⟩, by simp only; omega, lZ⟩
            · skip
              try (exfalso; (simp at c108; omega); done)
              all_goals
                refine s_skip <| n_K <| s_seq ?_
                refine s_region [(4, 117)] rfl fun ops y => ?_
                refine oM rfl <| oM rfl ?_
                refine c_is rfl ((by first | exact whole_fn (d := ⟨d.dk, t', c'⟩) (r := ⟨rd, rb, bs'⟩) hPI.dv.choose_spec.1 hPI.dv.choose_spec.2 | exact whole_fn (d := ⟨d.dk, t', c'⟩) (r := ⟨rd, rb, bs⟩) hPI.dv.choose_spec.1 hPI.dv.choose_spec.2 | exact whole_fn (d := ⟨d.dk, t', c'⟩) (r := ⟨rd, rb, bs.set z.block.toNat eraRB⟩) hPI.dv.choose_spec.1 hPI.dv.choose_spec.2)) sP rfl aQ ?_
                refine oR (rd_not rfl) <| oM rfl ?_
                refine' o_or (j := 4) (k := 5) y rfl rfl rfl rfl rfl rfl rfl (fun hg117 => ?_) ?_
                rotate_left
                · try (simp at hg117; show _)
                  refine o_g y rfl rfl ?_
                  refine oM rfl ?_
                  refine o_g y rfl rfl ?_
                  refine c_is rfl (dk_lost (d := ⟨d.dk, t', c'⟩)) sP rfl aQ ?_
                  refine o_g y rfl rfl ?_
                  refine oM rfl ?_
                  refine o_g y rfl rfl ?_
                  refine oR (rd_lenS rfl) ?_
                  refine o_g y rfl rfl ?_
                  refine oR (rd_bin rfl rfl rfl) ?_
                  exact o_nil ⟨rfl, rfl, ⟨_, sP⟩⟩
                refine o_nil <| n_K ?_
                refine s_cond rfl (fun c123 => ?_) (fun c123 => ?_)
                · skip
                  try (exfalso; (simp at c123; have h9 : t'.l.list.length + FP c' + FW c' ≤ fs.list.length := hPI.acc; omega); done)
                  all_goals
                    refine s_seq <| s_region0 fun ops => oA rfl <| o_nil <| n_K <| s_ret <| r_blk <| r_K <| r_K <| r_blk <| r_K ?_
                    exact leaf_r (rets1 Tryz.results10 (rv_tmp rfl)) (by rfl) sP
                · skip
                  refine s_skip <| n_blk <| n_K <| s_region0 fun ops => ?_
                  refine oR (rd_add64 rfl rfl (by omega)) ?_
                  refine oM rfl <| o_nil <| n_K ?_
                  first | exact ⟨(i + 1, t', c', bs'), ⟨by simp only; omega, hPI⟩, by simp only; omega, lZ⟩ | exact ⟨(i + 1, t', c', bs), ⟨by simp only; omega, hPI⟩, by simp only; omega, lZ⟩ | exact ⟨(i + 1, t', c', bs.set z.block.toNat eraRB), ⟨by simp only; omega, hPI⟩, by simp only; omega, lZ⟩
        · simp only [decide_eq_true_eq, decide_eq_false_iff_not] at c65
          refine s_seq <| s_region0 fun ops => oM rfl <| oF rfl ?_
          refine oR (rd_ld rfl mM rfl) ?_
          refine c_ex rfl (pi_erase (dk := d.dk) (rd := rd) (rb := rb) (b := z.block) g1 (by omega) hq3) sP rfl fun v83 Y83 h83 => ?_
          rcases h83 with ⟨hth, rfl, t', c', rfl, hPI⟩ | ⟨hth, rfl, t', c', rfl, hPI⟩
          all_goals
            refine so_ap aQ ?_
            refine oA rfl <| o_nil <| n_K <| s_seq ?_
            refine s_region [(7, 91), (10, 94)] rfl fun ops y => ?_
            refine oM rfl <| oF rfl ?_
            refine oR (rd_ld rfl mM rfl) ?_
            refine c_is rfl ((rthere_fn (r := ⟨rd, rb, bs⟩) (b := z.block) (k := 0)).to (by rw [hth]) rfl) sP rfl aQ ?_
            refine oM rfl <| oR (rd_bin rfl rfl rfl) <| oR (rd_neB rfl rfl) <| oM rfl ?_
            refine' o_or (j := 7) (k := 6) y rfl rfl rfl rfl rfl rfl rfl (fun hg91 => ?_) ?_
            rotate_left
            · try (simp at hg91; show _)
              refine o_g y rfl rfl ?_
              refine oM rfl ?_
              refine o_g y rfl rfl ?_
              refine oR (rd_bin rfl rfl rfl) ?_
              refine o_g y rfl rfl ?_
              refine oM rfl ?_
              refine' o_and (j := 10) (k := 2) y rfl rfl rfl rfl rfl rfl rfl (fun hg94 => ?_) ?_
              rotate_left
              · try (simp at hg94; show _)
                refine o_g y rfl rfl ?_
                refine oM rfl ?_
                refine o_g y rfl rfl ?_
                refine oR (rd_bin rfl rfl rfl) ?_
                exact o_nil ⟨rfl, rfl, ⟨_, sP⟩⟩
              exact o_nil ⟨rfl, rfl, ⟨_, sP⟩⟩
            refine o_nil <| n_K ?_
            refine s_cond rfl (fun c98 => ?_) (fun c98 => ?_)
            · skip
              try (exfalso; (simp at c98); done)
              all_goals
                refine s_seq <| s_region0 fun ops => oA rfl <| o_nil <| n_K <| s_ret <| r_K <| r_blk <| r_K <| r_K <| r_blk <| r_K ?_
                exact leaf_r (rets1 Tryz.results10 (rv_tmp rfl)) (by rfl) sP
            · skip
              refine s_skip <| n_K <| s_seq <| s_seq ?_
              refine s_region [(4, 103)] rfl fun ops y => ?_
              refine oF rfl ?_
              refine oR (rd_ld rfl mM rfl) ?_
              refine oR (show Rd _ _ _ _ (.int .i64 (kk : Nat)) from by (rw [← hkk]; exact rd_bin rfl rfl rfl)) ?_
              refine oR (rd_bin rfl rfl rfl) <| oM rfl ?_
              refine' o_and (j := 4) (k := 4) y rfl rfl rfl rfl rfl rfl rfl (fun hg103 => ?_) ?_
              rotate_left
              · try (simp at hg103; show _)
                refine o_g y rfl rfl ?_
                refine oM rfl ?_
                refine o_g y rfl rfl ?_
                refine oF rfl ?_
                refine o_g y rfl rfl ?_
                refine oR (rd_ld rfl mM rfl) ?_
                refine o_g y rfl rfl ?_
                refine c_is rfl ((by first | exact (rthere_fn (r := ⟨rd, rb, bs⟩) (b := z.block) (k := 0)).to (by rw [hth]) rfl | exact rthere_fn (r := ⟨rd, rb, bs'⟩) (b := z.block) (k := 0))) sP rfl aQ ?_
                exact o_nil ⟨rfl, rfl, ⟨_, sP⟩⟩
              refine o_nil <| n_K ?_
              refine s_cond rfl (fun c108 => ?_) (fun c108 => ?_)
              · skip
                try (exfalso; (first | (simp at c108; done) | (simp at c108; omega)); done)
                all_goals
                  refine s_region0 fun ops => oM rfl <| oF rfl ?_
                  refine oR (rd_ld rfl mM rfl) ?_
                  refine c_is rfl (rerase_i (r := ⟨rd, rb, bs⟩) (b := z.block) (rthere_in hth).1.1 (rthere_in hth).1.2) sP rfl aQ ?_
                  refine o_nil <| n_K <| s_seq ?_
                  refine s_region [(4, 117)] rfl fun ops y => ?_
                  refine oM rfl <| oM rfl ?_
                  refine c_is rfl ((by first | exact whole_fn (d := ⟨d.dk, t', c'⟩) (r := ⟨rd, rb, bs'⟩) hPI.dv.choose_spec.1 hPI.dv.choose_spec.2 | exact whole_fn (d := ⟨d.dk, t', c'⟩) (r := ⟨rd, rb, bs⟩) hPI.dv.choose_spec.1 hPI.dv.choose_spec.2 | exact whole_fn (d := ⟨d.dk, t', c'⟩) (r := ⟨rd, rb, bs.set z.block.toNat eraRB⟩) hPI.dv.choose_spec.1 hPI.dv.choose_spec.2)) sP rfl aQ ?_
                  refine oR (rd_not rfl) <| oM rfl ?_
                  refine' o_or (j := 4) (k := 5) y rfl rfl rfl rfl rfl rfl rfl (fun hg117 => ?_) ?_
                  rotate_left
                  · try (simp at hg117; show _)
                    refine o_g y rfl rfl ?_
                    refine oM rfl ?_
                    refine o_g y rfl rfl ?_
                    refine c_is rfl (dk_lost (d := ⟨d.dk, t', c'⟩)) sP rfl aQ ?_
                    refine o_g y rfl rfl ?_
                    refine oM rfl ?_
                    refine o_g y rfl rfl ?_
                    refine oR (rd_lenS rfl) ?_
                    refine o_g y rfl rfl ?_
                    refine oR (rd_bin rfl rfl rfl) ?_
                    exact o_nil ⟨rfl, rfl, ⟨_, sP⟩⟩
                  refine o_nil <| n_K ?_
                  refine s_cond rfl (fun c123 => ?_) (fun c123 => ?_)
                  · skip
                    try (exfalso; (simp at c123; have h9 : t'.l.list.length + FP c' + FW c' ≤ fs.list.length := hPI.acc; omega); done)
                    all_goals
                      refine s_seq <| s_region0 fun ops => oA rfl <| o_nil <| n_K <| s_ret <| r_blk <| r_K <| r_K <| r_blk <| r_K ?_
                      exact leaf_r (rets1 Tryz.results10 (rv_tmp rfl)) (by rfl) sP
                  · skip
                    refine s_skip <| n_blk <| n_K <| s_region0 fun ops => ?_
                    refine oR (rd_add64 rfl rfl (by omega)) ?_
                    refine oM rfl <| o_nil <| n_K ?_
                    first | exact ⟨(i + 1, t', c', bs'), ⟨by simp only; omega, hPI⟩, by simp only; omega, lZ⟩ | exact ⟨(i + 1, t', c', bs), ⟨by simp only; omega, hPI⟩, by simp only; omega, lZ⟩ | exact ⟨(i + 1, t', c', bs.set z.block.toNat eraRB), ⟨by simp only; omega, hPI⟩, by simp only; omega, lZ⟩
              · skip
                try (exfalso; (simp at c108; omega); done)
                all_goals
                  refine s_skip <| n_K <| s_seq ?_
                  refine s_region [(4, 117)] rfl fun ops y => ?_
                  refine oM rfl <| oM rfl ?_
                  refine c_is rfl ((by first | exact whole_fn (d := ⟨d.dk, t', c'⟩) (r := ⟨rd, rb, bs'⟩) hPI.dv.choose_spec.1 hPI.dv.choose_spec.2 | exact whole_fn (d := ⟨d.dk, t', c'⟩) (r := ⟨rd, rb, bs⟩) hPI.dv.choose_spec.1 hPI.dv.choose_spec.2 | exact whole_fn (d := ⟨d.dk, t', c'⟩) (r := ⟨rd, rb, bs.set z.block.toNat eraRB⟩) hPI.dv.choose_spec.1 hPI.dv.choose_spec.2)) sP rfl aQ ?_
                  refine oR (rd_not rfl) <| oM rfl ?_
                  refine' o_or (j := 4) (k := 5) y rfl rfl rfl rfl rfl rfl rfl (fun hg117 => ?_) ?_
                  rotate_left
                  · try (simp at hg117; show _)
                    refine o_g y rfl rfl ?_
                    refine oM rfl ?_
                    refine o_g y rfl rfl ?_
                    refine c_is rfl (dk_lost (d := ⟨d.dk, t', c'⟩)) sP rfl aQ ?_
                    refine o_g y rfl rfl ?_
                    refine oM rfl ?_
                    refine o_g y rfl rfl ?_
                    refine oR (rd_lenS rfl) ?_
                    refine o_g y rfl rfl ?_
                    refine oR (rd_bin rfl rfl rfl) ?_
                    exact o_nil ⟨rfl, rfl, ⟨_, sP⟩⟩
                  refine o_nil <| n_K ?_
                  refine s_cond rfl (fun c123 => ?_) (fun c123 => ?_)
                  · skip
                    try (exfalso; (simp at c123; have h9 : t'.l.list.length + FP c' + FW c' ≤ fs.list.length := hPI.acc; omega); done)
                    all_goals
                      refine s_seq <| s_region0 fun ops => oA rfl <| o_nil <| n_K <| s_ret <| r_blk <| r_K <| r_K <| r_blk <| r_K ?_
                      exact leaf_r (rets1 Tryz.results10 (rv_tmp rfl)) (by rfl) sP
                  · skip
                    refine s_skip <| n_blk <| n_K <| s_region0 fun ops => ?_
                    refine oR (rd_add64 rfl rfl (by omega)) ?_
                    refine oM rfl <| o_nil <| n_K ?_
                    first | exact ⟨(i + 1, t', c', bs'), ⟨by simp only; omega, hPI⟩, by simp only; omega, lZ⟩ | exact ⟨(i + 1, t', c', bs), ⟨by simp only; omega, hPI⟩, by simp only; omega, lZ⟩ | exact ⟨(i + 1, t', c', bs.set z.block.toNat eraRB), ⟨by simp only; omega, hPI⟩, by simp only; omega, lZ⟩
      · simp only [decide_eq_true_eq, decide_eq_false_iff_not] at c58
        refine s_exit <| x_K <| x_K <| x_blk <| n_K <| s_seq <| s_region0 fun ops => oA rfl <| o_nil <| n_K <| s_ret ?_
        exact leaf_r (rets1 Tryz.results10 (rv_tmp rfl)) (by rfl) sP
end Go.Proofs.YtdfidkhbldedlaaGreat
end
