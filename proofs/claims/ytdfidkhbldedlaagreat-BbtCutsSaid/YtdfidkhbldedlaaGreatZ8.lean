/- Walk of the law BbtFlips. -/
import Derived.Test.YtdfidkhbldedlaaGreatZ7
namespace Go.Proofs.YtdfidkhbldedlaaGreat
open Go.K
set_option linter.unusedVariables false
set_option linter.unusedSimpArgs false
instance ent5 : Ent Tryz.prog 5 := ⟨fun _ _ => by kernel_rfl⟩
theorem new0_fn {pp : Nat} {n : Nat} (hn : okNew n [] = true) : Does Tryz.prog 13 [ptr pp, .int .i64 (n : Nat), .slice none 0 0] [(pp, true, C [.bool false, .int .i64 (-1), .int .i64 0] tPw)]
    (fun v H => ∃ aC aB, v = .tuple #[ptr aC, .int .i64 0] ∧ H = chH (newG (-1) 0 pp aC aB n []) ++ []) := by
  have h := new2_fn (pp := pp) (n := (n : Int)) (s := .nil) (T := tI)
  rw [Sl.hp_nil] at h
  refine h.mono fun v H hh => ?_
  rcases hh with ⟨aC, aB, h1, h2, _⟩ | ⟨_, _, h3⟩
  · exact ⟨aC, aB, h1, h2⟩
  · rw [show (Sl.nil : Sl Int).list = [] from rfl, hn] at h3; cases h3
theorem rformatN_fn {b n : Nat} (hn : 16 ≤ n ∧ n ≤ 40) (hX : fmtX (badL n []) = false) : Does Tryz.prog 16 [.slice (some ⟨b, 0, none⟩) n n] [(b, true, C (zrep n [.bool false]) tB)]
    (fun v H => ∃ r : RTab, v = ptr r.b ∧ H = refH r ++ [(b, true, C (zrep n [.bool false]) tB)] ∧ r.u.list = fmtV (badL n []) ((n : Int) - 6) n ∧ r.l.list = badL n [] ∧ r.u.isOwn = true ∧ r.l.isOwn = true) := by
  have hl := badL_len n []
  have h := rformat_fn (s := (.own b (badL n []) n [] ⟨by simp [hl], by omega, by omega⟩ : Sl Bool)) (by show 2 ≤ (badL n []).length ∧ (badL n []).length ≤ 1000; omega)
  have e : (Sl.own b (badL n []) n [] ⟨by simp [hl], by omega, by omega⟩ : Sl Bool).val = .slice (some ⟨b, 0, none⟩) n n := by
    show Value.slice (some ⟨b, 0, none⟩) (badL n []).length n = _
    rw [hl]
  rw [e, Sl.hp_own, List.append_nil, ← zrep_false] at h
  refine h.mono fun v H hh => ?_
  rcases hh with ⟨_, r, h1, h2, h3, h4, h5, h6⟩ | ⟨h3, _⟩
  · refine ⟨r, h1, h2, ?_, h4, h5, h6⟩
    rw [h3]
    show fmtV (badL n []) (((badL n []).length : Int) - 6) (badL n []).length = _
    rw [hl]
  · rw [show (Sl.own b (badL n []) n [] ⟨by simp [hl], by omega, by omega⟩ : Sl Bool).list = badL n [] from rfl, hX] at h3
    cases h3
theorem newPg {pp aC aB n : Nat} {bad : List Int} {t : TS} {c' : Chip} {k : Nat} {u : List Int} {l : List Bool} (hn : 16 ≤ n ∧ n ≤ 40) (hx : fmtX (badL n bad) = false) (hf : formatC (newG (-1) 0 pp aC aB n bad) = (0, t, c')) (hJ : JI c' t u l n k) : PgP c' (PlB n) := by
  obtain ⟨c2, h1, h2⟩ := new_format (after := -1) (keep := 0) (aP := pp) (aC := aC) (aB := aB) (n := n) (bad := bad) (by omega) (by omega) ((new_fmtX hn).trans hx)
  rw [h1] at hf
  simp only [Prod.mk.injEq] at hf
  obtain ⟨_, rfl, rfl⟩ := hf
  have hok := hJ.wf.okP
  generalize (fmtT (newG (-1) 0 pp aC aB n bad)).uses = us at *
  generalize (fmtT (newG (-1) 0 pp aC aB n bad)).lost = lost at *
  intro a ha b hb j hj
  rw [h2] at hb
  rcases (show a = 0 ∨ a = 1 by omega) with rfl | rfl
  · rw [prg_same (by rw [new_len]; omega)] at hb
    cases hb
    simp only
    rw [Vector.getElem_setIfInBounds]
    split
    · exact .inr ⟨1, us, lost, hok, rfl⟩
    · refine .inl ?_
      simp [newB]
  · rw [prg_other (by omega), new_block (by omega)] at hb
    cases hb
    refine .inl ?_
    simp [newB]
theorem formatF_fn {pp aC aB m : Nat} {bad : List Int} (hm : 16 ≤ m ∧ m ≤ 40) (hX : fmtX (badL m bad) = false) : Does Tryz.prog 15 [ptr aC] (chH (newG (-1) 0 pp aC aB m bad))
    (fun v H => ∃ (tb : Tab) (c' : Chip), v = .tuple #[ptr tb.b, .int .i64 0] ∧ H = tabH aC tb ++ (chH c' ++ []) ∧ c'.aC = aC ∧ c'.aP = pp ∧ JI c' tb.ts (fmtV (badL m bad) ((m : Int) - 6) m) (badL m bad) m 0 ∧ PgP c' (PlB m)) := by
  have hlen : (newG (-1) 0 pp aC aB m bad).blocks.length = m := new_len
  refine (format_b (c := newG (-1) 0 pp aC aB m bad) (a := aC) rfl (by rw [hlen]; omega)).mono fun v H h => ?_
  obtain ⟨t, c', h1, h2, h3, h4⟩ := new_JI (aP := pp) (aC := aC) (aB := aB) hm hX
  unfold FormatR at h
  rw [h1] at h
  rcases h with ⟨tb, rfl, rfl, h5, _⟩ | ⟨_, _, h6⟩
  · exact ⟨tb, c', rfl, rfl, h3, h4, by rw [h5]; exact h2, newPg hm hX h1 h2⟩
  · exact absurd rfl h6
theorem JI.keepP {c : Chip} {t : TS} {u u' lost : List Int} {l : List Bool} {n k : Nat} {e : Int} {t' : TS} {c' : Chip} (h : JI c t u l n k) (hk : k ≤ 1000) (hp : PgP c (PlB n)) (hr : (e, t', c') = keepC t u' lost c) (hw : WF n u' lost) : PgP c' (PlB n) := by
  have hfp : FP c = 0 := by unfold FP; rw [h.pf]; simp
  have hfw : FW c = 0 := by unfold FW; rw [h.wfl]; simp
  have := keep_pg (u := u') (l := lost) (B := 1000 * k + 1000) h.up h.ti hfp hfw h.af h.cnt (by omega) hp (.inl rfl) (.inr ⟨_, _, _, hw.okP, by rw [h.len]⟩)
  rw [← hr] at this
  exact this
theorem doF_fn {c : Chip} {t : Tab} {a n k : Nat} {u u' : List Int} {l l' : List Bool} {o : OpV} {b : Int} {ok : Bool} (ha : c.aC = a) (h : JI c t.ts u l n k) (hP : PgP c (PlB n)) (hk : k ≤ 1000) (hst : StepR u l o b ok u' l') :
    Does Tryz.prog 19 [ptr t.b, .agg (opC o).toArray, .int .i64 b] (tabH a t ++ (chH c ++ []))
    (fun v H => (ok = false ∧ v = .int .i64 1 ∧ ∃ (t' : Tab) (c' : Chip), t'.b = t.b ∧ H = tabH a t' ++ (chH c' ++ []) ∧ c'.aC = a ∧ JI c' t'.ts u l n (k + 1) ∧ PgP c' (PlB n)) ∨
      (ok = true ∧ v = .int .i64 0 ∧ ∃ (t' : Tab) (c' : Chip), t'.b = t.b ∧ H = tabH a t' ++ (chH c' ++ []) ∧ c'.aC = a ∧ JI c' t'.ts u' l' n (k + 1) ∧ PgP c' (PlB n))) := by
  obtain ⟨s1, s2, s3, s4⟩ := h.tabS
  refine (do_fn (o := o) (b := b) ha s1 s2 s3 s4).mono fun v H ⟨t', e, c', h1, h2, h3, h4, h5⟩ => ?_
  have hlen := h.len
  rcases do_step (by rw [hlen]; exact h.rel) (by rw [hlen]; exact h.wf) hst h5 with ⟨hok, hr⟩ | ⟨hok, lost, hr, hw, _, hrel⟩
  · simp only [Prod.mk.injEq] at hr
    obtain ⟨rfl, hts, rfl⟩ := hr
    exact .inl ⟨hok, h2, t', c', h1, h3, h4, by rw [hts]; exact h.mono, hP⟩
  · rw [hlen] at hw hrel
    have hPP := h.keepP hk hP hr hw
    obtain ⟨rfl, hJ⟩ := h.keep hk hr hw hrel
    exact .inr ⟨hok, h2, t', c', h1, h3, h4, hJ, hPP⟩
theorem sameR_fn {c : Chip} {t : Tab} {r : RTab} {a n : Nat} (ha : c.aC = a) (hl : c.blocks.length = n) (hn : n ≤ 1000) (hu : r.u.list.length ≤ 1000) (h : RelT t.ts r.u.list r.l.list n) : Does Tryz.prog 20 [ptr t.b, ptr r.b] (tabH a t ++ (chH c ++ (refH r ++ []))) (Is (.bool true) (tabH a t ++ (chH c ++ (refH r ++ [])))) :=
  (same_fn ha (by omega) hu).mono fun v H ⟨x, h1, h2, h3, _⟩ => ⟨by rw [h1, h3 (by rw [hl]; exact h)], h2⟩
theorem fx20 : fmtX (badL 20 []) = false := by decide +kernel
theorem fx24 : fmtX (badL 24 []) = false := by decide +kernel
theorem flips_fn {sc : Sl OpV} {bt : Sl Int} : Does Tryz.prog 5 [sc.val, bt.val] (sc.hp tOp ++ (bt.hp tI ++ [])) (fun v H => v = .bool true) := by
  refine fn_enter (n := 103) Tryz.func5 Tryz.ntmps5 rfl (Nat.le_of_ble_eq_true rfl) ?_
  refine s_seq ?_
  refine s_region0 (fun ops => ?_)
  refine o_rd (rd_assign rfl) rfl ?_
  refine o_nil ?_
  refine n_K ?_
  refine s_seq ?_
  refine s_seq ?_
  refine s_region0 (fun ops => ?_)
  refine c_is rfl (speaks_fn) (by repeat (first | exact Split.nil | (apply Split.cons; next => repeat (first | exact Pick.here | apply Pick.there | apply Pick.app)) | (apply Split.chunk; next => repeat (first | exact PickL.here | exact PickL.last | apply PickL.there | apply PickL.app)) | (apply Split.lst; repeat (first | exact PickL.here | exact PickL.last | apply PickL.there | apply PickL.app)))) rfl (by repeat (first | exact Ap.nil | apply Ap.cons | apply Ap.app | exact Ap.one)) ?_
  refine o_rd (rd_not rfl) rfl ?_
  refine o_nil ?_
  refine n_K ?_
  refine s_condF rfl ?_
  refine s_skip ?_
  refine n_K ?_
  refine s_seq ?_
  refine s_seq ?_
  refine s_region [(3, 24)] rfl (fun ops y => ?_)
  refine o_rd (rd_move rfl) rfl ?_
  refine o_rd (rd_lenS rfl) rfl ?_
  refine o_rd (rd_bin rfl rfl rfl) rfl ?_
  refine o_rd (rd_move rfl) rfl ?_
  refine' o_or (j := 3) (k := 3) y rfl rfl rfl rfl rfl rfl rfl (fun hg24 => ?_) ?_
  rotate_left
  · try (simp at hg24; show _)
    refine o_g y rfl rfl ?_
    refine o_rd (rd_move rfl) rfl ?_
    refine o_g y rfl rfl ?_
    refine o_rd (rd_lenS rfl) rfl ?_
    refine o_g y rfl rfl ?_
    refine o_rd (rd_bin rfl rfl rfl) rfl ?_
    exact o_nil ⟨rfl, rfl, ⟨_, (by repeat (first | exact Split.nil | (apply Split.cons; next => repeat (first | exact Pick.here | apply Pick.there | apply Pick.app)) | (apply Split.chunk; next => repeat (first | exact PickL.here | exact PickL.last | apply PickL.there | apply PickL.app)) | (apply Split.lst; repeat (first | exact PickL.here | exact PickL.last | apply PickL.there | apply PickL.app))))⟩⟩
  refine o_nil ?_
  refine n_K ?_
  refine s_cond rfl (fun c28 => ?_) (fun c28 => ?_)
  · skip
    refine s_seq ?_
    refine s_region0 (fun ops => ?_)
    refine o_rd (rd_assign rfl) rfl ?_
    refine o_nil ?_
    refine n_K ?_
    refine s_ret ?_
    refine r_K ?_
    exact leaf_r (rets1 Tryz.results5 (rv_tmp rfl)) (by rfl) (by repeat (first | exact Split.nil | (apply Split.cons; next => repeat (first | exact Pick.here | apply Pick.there | apply Pick.app)) | (apply Split.chunk; next => repeat (first | exact PickL.here | exact PickL.last | apply PickL.there | apply PickL.app)) | (apply Split.lst; repeat (first | exact PickL.here | exact PickL.last | apply PickL.there | apply PickL.app))))
  · skip
    have hsc : sc.list.length ≤ 30 ∧ bt.list.length ≤ 40 := (by simp at c28; omega)
    refine s_skip ?_
    refine n_K ?_
    refine s_seq ?_
    refine s_region0 (fun ops => ?_)
    refine c_ex rfl (newPower_fn) (by repeat (first | exact Split.nil | (apply Split.cons; next => repeat (first | exact Pick.here | apply Pick.there | apply Pick.app)) | (apply Split.chunk; next => repeat (first | exact PickL.here | exact PickL.last | apply PickL.there | apply PickL.app)) | (apply Split.lst; repeat (first | exact PickL.here | exact PickL.last | apply PickL.there | apply PickL.app)))) rfl (fun v30 Y30 h30 => ?_)
    obtain ⟨p30, rfl, rfl⟩ := h30
    refine so_ap (by repeat (first | exact Ap.nil | apply Ap.cons | apply Ap.app | exact Ap.one)) ?_
    refine c_ex rfl (new0_fn (n := 20) (by decide)) (by repeat (first | exact Split.nil | (apply Split.cons; next => repeat (first | exact Pick.here | apply Pick.there | apply Pick.app)) | (apply Split.chunk; next => repeat (first | exact PickL.here | exact PickL.last | apply PickL.there | apply PickL.app)) | (apply Split.lst; repeat (first | exact PickL.here | exact PickL.last | apply PickL.there | apply PickL.app)))) rfl (fun v31 Y31 h31 => ?_)
    obtain ⟨aC, aB, rfl, rfl⟩ := h31
    refine so_ap (by repeat (first | exact Ap.nil | apply Ap.cons | apply Ap.app | exact Ap.one)) ?_
    refine o_rd (rd_move rfl) rfl ?_
    refine o_rd (rd_extract rfl rfl) rfl ?_
    refine o_rd (rd_extract rfl rfl) rfl ?_
    refine o_rd (rd_assign rfl) rfl ?_
    refine o_rd (rd_assign rfl) rfl ?_
    refine o_nil ?_
    refine n_K ?_
    refine s_seq ?_
    refine s_seq ?_
    refine s_region0 (fun ops => ?_)
    refine o_rd (rd_move rfl) rfl ?_
    refine o_rd (rd_eqNil rfl rfl) rfl ?_
    refine o_nil ?_
    refine n_K ?_
    refine s_condF rfl ?_
    refine s_skip ?_
    refine n_K ?_
    refine s_seq ?_
    refine s_region0 (fun ops => ?_)
    refine o_rd (rd_move rfl) rfl ?_
    refine c_ex rfl (formatF_fn (pp := p30) (aC := aC) (aB := aB) (m := 20) (bad := []) (by decide) fx20) (by repeat (first | exact Split.nil | (apply Split.cons; next => repeat (first | exact Pick.here | apply Pick.there | apply Pick.app)) | (apply Split.chunk; next => repeat (first | exact PickL.here | exact PickL.last | apply PickL.there | apply PickL.app)) | (apply Split.lst; repeat (first | exact PickL.here | exact PickL.last | apply PickL.there | apply PickL.app)))) rfl (fun v38 Y38 h38 => ?_)
    obtain ⟨t, c', rfl, rfl, a1, a2, a3, a4⟩ := h38
    refine so_ap (by repeat (first | exact Ap.nil | apply Ap.cons | apply Ap.app | exact Ap.one)) ?_
    refine o_rd (rd_move rfl) rfl ?_
    refine o_rd (rd_extract rfl rfl) rfl ?_
    refine o_rd (rd_extract rfl rfl) rfl ?_
    refine o_rd (rd_assign rfl) rfl ?_
    refine o_rd (rd_assign rfl) rfl ?_
    refine o_nil ?_
    refine n_K ?_
    refine s_seq ?_
    refine s_region0 (fun ops => ?_)
    refine o_make rfl rfl (by omega) rfl (fun b41 => ?_)
    refine c_ex rfl (rformatN_fn (n := 20) (by decide) fx20) (by repeat (first | exact Split.nil | (apply Split.cons; next => repeat (first | exact Pick.here | apply Pick.there | apply Pick.app)) | (apply Split.chunk; next => repeat (first | exact PickL.here | exact PickL.last | apply PickL.there | apply PickL.app)) | (apply Split.lst; repeat (first | exact PickL.here | exact PickL.last | apply PickL.there | apply PickL.app)))) rfl (fun v42 Y42 h42 => ?_)
    obtain ⟨r, rfl, rfl, hru, hrl, hou, hol⟩ := h42
    refine so_ap (by repeat (first | exact Ap.nil | apply Ap.cons | apply Ap.app | exact Ap.one)) ?_
    refine o_rd (rd_assign rfl) rfl ?_
    refine o_nil ?_
    refine n_K ?_
    refine s_seq ?_
    refine s_seq ?_
    refine s_region0 (fun ops => ?_)
    refine o_rd (rd_move rfl) rfl ?_
    refine o_rd (rd_eqNil rfl rfl) rfl ?_
    refine o_nil ?_
    refine n_K ?_
    refine s_condF rfl ?_
    refine s_skip ?_
    refine n_K ?_
    refine s_seq ?_
    refine s_seq ?_
    refine s_region0 (fun ops => ?_)
    refine o_rd (rd_move rfl) rfl ?_
    refine o_rd (rd_lenS rfl) rfl ?_
    refine o_rd (rd_move rfl) rfl ?_
    refine o_nil ?_
    refine n_K ?_
    refine s_block ?_
    refine s_loop2 [1, 5, 45, 46] (by repeat' first | exact Keep2.nil | apply Keep2.cons rfl) (fun (st : Nat × Tab × Chip × RTab) => [(47, .int .i64 st.1), (7, ptr st.2.1.b), (9, ptr st.2.2.2.b)]) (fun (st : Nat × Tab × Chip × RTab) => tabH aC st.2.1 ++ (chH st.2.2.1 ++ (refH st.2.2.2 ++ (sc.hp tOp ++ (bt.hp tI ++ []))))) (fun (st : Nat × Tab × Chip × RTab) => st.1 ≤ sc.list.length ∧ st.2.2.1.aC = aC ∧ JI st.2.2.1 st.2.1.ts st.2.2.2.u.list st.2.2.2.l.list 20 st.1 ∧ PgP st.2.2.1 (PlB 20)) (fun (st : Nat × Tab × Chip × RTab) => sc.list.length - st.1) ((0, t, c', r)) ⟨Nat.zero_le _, a1, by rw [hru, hrl]; exact a3, a4⟩ (by repeat' first | exact Keep.nil | refine Keep.cons rfl ?_) (by repeat (first | exact Split.nil | (apply Split.cons; next => repeat (first | exact Pick.here | apply Pick.there | apply Pick.app)) | (apply Split.chunk; next => repeat (first | exact PickL.here | exact PickL.last | apply PickL.there | apply PickL.app)) | (apply Split.lst; repeat (first | exact PickL.here | exact PickL.last | apply PickL.there | apply PickL.app)))) ?_
    rintro ⟨i, t1, c1, r1⟩ ⟨g0, g1, g2, g3⟩
    simp only at g0 g1 g2 g3
    refine s_seq ?_
    refine s_region0 (fun ops => ?_)
    refine o_rd (rd_bin rfl rfl rfl) rfl ?_
    refine o_nil ?_
    refine n_K ?_
    refine s_seq ?_
    refine s_cond rfl (fun c48 => ?_) (fun c48 => ?_)
    · simp only [decide_eq_true_eq, decide_eq_false_iff_not] at c48
      obtain ⟨z, hg⟩ : ∃ z, sc.list[i]? = some z := ⟨_, List.getElem?_eq_getElem (by omega)⟩
      refine s_skip ?_
      refine n_K ?_
      refine s_seq ?_
      refine s_block ?_
      refine s_seq ?_
      refine s_region0 (fun ops => ?_)
      refine o_rd (rd_ixSl rfl rfl (by omega)) rfl ?_
      refine o_rd (rd_ldSlA (o := 0) rfl (by repeat (first | exact PickL.here | exact PickL.last | apply PickL.there | apply PickL.app)) hg rfl rfl) rfl ?_
      refine o_alloc rfl (fun b11 => ?_)
      refine o_store rfl rfl (by repeat' first | exact Upd.here | apply Upd.there | apply Upd.app) rfl rfl rfl ?_
      refine o_nil ?_
      refine n_K ?_
      refine s_seq ?_
      refine s_region0 (fun ops => ?_)
      refine o_rd (rd_move rfl) rfl ?_
      refine o_rd (rd_ldA rfl (by repeat' first | exact List.Mem.head _ | apply List.Mem.tail | apply List.mem_append_right) rfl) rfl ?_
      refine c_ex rfl (step_fn (r := r1) (o := z) (g2.refS).1 (g2.refS).2.1 (g2.refS).2.2) (by repeat (first | exact Split.nil | (apply Split.cons; next => repeat (first | exact Pick.here | apply Pick.there | apply Pick.app)) | (apply Split.chunk; next => repeat (first | exact PickL.here | exact PickL.last | apply PickL.there | apply PickL.app)) | (apply Split.lst; repeat (first | exact PickL.here | exact PickL.last | apply PickL.there | apply PickL.app)))) rfl (fun v54 Y54 h54 => ?_)
      obtain ⟨q, ok1, rfl, rfl, hq1, hq2, hst⟩ := h54
      refine so_ap (by repeat (first | exact Ap.nil | apply Ap.cons | apply Ap.app | exact Ap.one)) ?_
      refine o_rd (rd_move rfl) rfl ?_
      refine o_rd (rd_extract rfl rfl) rfl ?_
      refine o_rd (rd_extract rfl rfl) rfl ?_
      refine o_rd (rd_extract rfl rfl) rfl ?_
      refine o_rd (rd_assign rfl) rfl ?_
      refine o_rd (rd_assign rfl) rfl ?_
      refine o_rd (rd_assign rfl) rfl ?_
      refine o_nil ?_
      refine n_K ?_
      refine s_seq ?_
      refine s_seq ?_
      refine s_region0 (fun ops => ?_)
      refine o_rd (rd_move rfl) rfl ?_
      refine o_rd (rd_ldA rfl (by repeat' first | exact List.Mem.head _ | apply List.Mem.tail | apply List.mem_append_right) rfl) rfl ?_
      refine o_rd (rd_move rfl) rfl ?_
      refine c_ex rfl (doF_fn (t := t1) (c := c1) (o := z) g1 g2 g3 (by omega) hst) (by repeat (first | exact Split.nil | (apply Split.cons; next => repeat (first | exact Pick.here | apply Pick.there | apply Pick.app)) | (apply Split.chunk; next => repeat (first | exact PickL.here | exact PickL.last | apply PickL.there | apply PickL.app)) | (apply Split.lst; repeat (first | exact PickL.here | exact PickL.last | apply PickL.there | apply PickL.app)))) rfl (fun v61 Y61 h61 => ?_)
      rcases h61 with ⟨rfl, rfl, t', c2, hb', rfl, ha', hJ, hP⟩ | ⟨rfl, rfl, t', c2, hb', rfl, ha', hJ, hP⟩
      all_goals
        refine so_ap (by repeat (first | exact Ap.nil | apply Ap.cons | apply Ap.app | exact Ap.one)) ?_
        refine o_rd (rd_bin rfl rfl rfl) rfl ?_
        refine o_rd (rd_move rfl) rfl ?_
        refine o_rd (rd_neB rfl rfl) rfl ?_
        refine o_nil ?_
        refine n_K ?_
        refine s_cond rfl (fun c64 => ?_) (fun c64 => ?_)
        · skip
          try (exfalso; (cases c64); done)
          all_goals
            refine s_seq ?_
            refine s_region0 (fun ops => ?_)
            refine o_rd (rd_assign rfl) rfl ?_
            refine o_nil ?_
            refine n_K ?_
            refine s_ret ?_
            refine r_K ?_
            refine r_blk ?_
            refine r_K ?_
            refine r_K ?_
            refine r_blk ?_
            refine r_K ?_
            exact leaf_r (rets1 Tryz.results5 (rv_tmp rfl)) (by rfl) (by repeat (first | exact Split.nil | (apply Split.cons; next => repeat (first | exact Pick.here | apply Pick.there | apply Pick.app)) | (apply Split.chunk; next => repeat (first | exact PickL.here | exact PickL.last | apply PickL.there | apply PickL.app)) | (apply Split.lst; repeat (first | exact PickL.here | exact PickL.last | apply PickL.there | apply PickL.app))))
        · skip
          rw [← hb']
          refine s_skip ?_
          refine n_K ?_
          refine s_seq ?_
          refine s_region0 (fun ops => ?_)
          refine o_rd (rd_move rfl) rfl ?_
          refine o_nil ?_
          refine n_K ?_
          refine s_cond rfl (fun c65 => ?_) (fun c65 => ?_)
          · skip
            try (exfalso; (cases c65); done)
            all_goals
              refine s_region0 (fun ops => ?_)
              refine o_rd (rd_move rfl) rfl ?_
              refine o_rd (rd_assign rfl) rfl ?_
              refine o_nil ?_
              refine n_blk ?_
              refine n_K ?_
              refine s_region0 (fun ops => ?_)
              refine o_rd (rd_add64 rfl rfl (by omega)) rfl ?_
              refine o_rd (rd_move rfl) rfl ?_
              refine o_nil ?_
              refine n_K ?_
              first | exact ⟨(i + 1, t', c2, q), ⟨by simp only; omega, ha', hJ, hP⟩, by simp only; omega, (by repeat' first | exact Keep.nil | refine Keep.cons rfl ?_), (by repeat' first | exact Keep.nil | refine Keep.cons rfl ?_), _, (by repeat (first | exact Split.nil | (apply Split.cons; next => repeat (first | exact Pick.here | apply Pick.there | apply Pick.app)) | (apply Split.chunk; next => repeat (first | exact PickL.here | exact PickL.last | apply PickL.there | apply PickL.app)) | (apply Split.lst; repeat (first | exact PickL.here | exact PickL.last | apply PickL.there | apply PickL.app))))⟩ | exact ⟨(i + 1, t', c2, r1), ⟨by simp only; omega, ha', hJ, hP⟩, by simp only; omega, (by repeat' first | exact Keep.nil | refine Keep.cons rfl ?_), (by repeat' first | exact Keep.nil | refine Keep.cons rfl ?_), _, (by repeat (first | exact Split.nil | (apply Split.cons; next => repeat (first | exact Pick.here | apply Pick.there | apply Pick.app)) | (apply Split.chunk; next => repeat (first | exact PickL.here | exact PickL.last | apply PickL.there | apply PickL.app)) | (apply Split.lst; repeat (first | exact PickL.here | exact PickL.last | apply PickL.there | apply PickL.app))))⟩
          · skip
            try (exfalso; (cases c65); done)
            all_goals
              refine s_skip ?_
              refine n_blk ?_
              refine n_K ?_
              refine s_region0 (fun ops => ?_)
              refine o_rd (rd_add64 rfl rfl (by omega)) rfl ?_
              refine o_rd (rd_move rfl) rfl ?_
              refine o_nil ?_
              refine n_K ?_
              first | exact ⟨(i + 1, t', c2, q), ⟨by simp only; omega, ha', hJ, hP⟩, by simp only; omega, (by repeat' first | exact Keep.nil | refine Keep.cons rfl ?_), (by repeat' first | exact Keep.nil | refine Keep.cons rfl ?_), _, (by repeat (first | exact Split.nil | (apply Split.cons; next => repeat (first | exact Pick.here | apply Pick.there | apply Pick.app)) | (apply Split.chunk; next => repeat (first | exact PickL.here | exact PickL.last | apply PickL.there | apply PickL.app)) | (apply Split.lst; repeat (first | exact PickL.here | exact PickL.last | apply PickL.there | apply PickL.app))))⟩ | exact ⟨(i + 1, t', c2, r1), ⟨by simp only; omega, ha', hJ, hP⟩, by simp only; omega, (by repeat' first | exact Keep.nil | refine Keep.cons rfl ?_), (by repeat' first | exact Keep.nil | refine Keep.cons rfl ?_), _, (by repeat (first | exact Split.nil | (apply Split.cons; next => repeat (first | exact Pick.here | apply Pick.there | apply Pick.app)) | (apply Split.chunk; next => repeat (first | exact PickL.here | exact PickL.last | apply PickL.there | apply PickL.app)) | (apply Split.lst; repeat (first | exact PickL.here | exact PickL.last | apply PickL.there | apply PickL.app))))⟩
    · simp only [decide_eq_true_eq, decide_eq_false_iff_not] at c48
      obtain ⟨ar, har, hh, bb, hbb, hnn⟩ := g2.ti
      have hl1 : c1.blocks.length = 20 := g2.len
      refine s_exit ?_
      refine x_K ?_
      refine x_K ?_
      refine x_blk ?_
      refine n_K ?_
      refine s_seq ?_
      refine s_seq ?_
      refine s_region0 (fun ops => ?_)
      refine o_rd (rd_move rfl) rfl ?_
      refine o_rd (rd_lenS rfl) rfl ?_
      refine o_rd (rd_move rfl) rfl ?_
      refine o_nil ?_
      refine n_K ?_
      refine s_block ?_
      refine s_loop2 [5, 9, 68, 69] (by repeat' first | exact Keep2.nil | apply Keep2.cons rfl) (fun (st : Nat × Chip) => [(70, .int .i64 st.1)]) (fun (st : Nat × Chip) => tabH aC t1 ++ (chH st.2 ++ (refH r1 ++ (sc.hp tOp ++ (bt.hp tI ++ []))))) (fun (st : Nat × Chip) => st.1 ≤ bt.list.length ∧ Turned c1 st.2 st.1) (fun (st : Nat × Chip) => bt.list.length - st.1) ((0, c1)) ⟨Nat.zero_le _, Turned.refl g2.up⟩ (by repeat' first | exact Keep.nil | refine Keep.cons rfl ?_) (by repeat (first | exact Split.nil | (apply Split.cons; next => repeat (first | exact Pick.here | apply Pick.there | apply Pick.app)) | (apply Split.chunk; next => repeat (first | exact PickL.here | exact PickL.last | apply PickL.there | apply PickL.app)) | (apply Split.lst; repeat (first | exact PickL.here | exact PickL.last | apply PickL.there | apply PickL.app)))) ?_
      rintro ⟨m, d⟩ ⟨k0, k1⟩
      simp only at k0 k1
      refine s_seq ?_
      refine s_region0 (fun ops => ?_)
      refine o_rd (rd_bin rfl rfl rfl) rfl ?_
      refine o_nil ?_
      refine n_K ?_
      refine s_seq ?_
      refine s_cond rfl (fun c71 => ?_) (fun c71 => ?_)
      · simp only [decide_eq_true_eq, decide_eq_false_iff_not] at c71
        obtain ⟨y1, hy⟩ : ∃ y1, bt.list[m]? = some y1 := ⟨_, List.getElem?_eq_getElem (by omega)⟩
        obtain ⟨kk, hkk, hkl⟩ := and_ffff y1
        refine s_skip ?_
        refine n_K ?_
        refine s_seq ?_
        refine s_block ?_
        refine s_seq ?_
        refine s_region0 (fun ops => ?_)
        refine o_rd (rd_move rfl) rfl ?_
        refine o_rd (rd_ixSl rfl rfl (by omega)) rfl ?_
        refine o_rd (rd_ldSl (o := 0) rfl (by repeat (first | exact PickL.here | exact PickL.last | apply PickL.there | apply PickL.app)) hy rfl rfl) rfl ?_
        refine o_rd (rd_assign rfl) rfl ?_
        refine o_rd (rd_assign rfl) rfl ?_
        refine o_nil ?_
        refine n_K ?_
        refine s_seq ?_
        refine s_region0 (fun ops => ?_)
        refine o_rd (rd_move rfl) rfl ?_
        refine o_rd (rd_bin rfl rfl rfl) rfl ?_
        refine o_nil ?_
        refine n_K ?_
        refine s_cond rfl (fun c76 => ?_) (fun c76 => ?_)
        · simp only [decide_eq_true_eq, decide_eq_false_iff_not] at c76
          have hm16 : m < 16 := (by omega)
          obtain ⟨b', hb'⟩ : ∃ b', d.blocks[m / 8]? = some b' := ⟨_, List.getElem?_eq_getElem (by rw [k1.len]; omega)⟩
          refine s_region0 (fun ops => ?_)
          refine o_rd (rd_move rfl) rfl ?_
          refine o_rd (rd_move rfl) rfl ?_
          refine o_rd (rd_quoN (i := m) (m := 8) rfl rfl (by omega) (by omega)) rfl ?_
          refine o_rd (rd_move rfl) rfl ?_
          refine o_rd (rd_remN (i := m) (m := 8) rfl rfl (by omega)) rfl ?_
          refine o_rd (rd_move rfl) rfl ?_
          refine o_rd (show Rd _ _ _ _ (.int .i64 (kk : Nat)) from by (rw [← hkk]; exact rd_bin rfl rfl rfl)) rfl ?_
          refine o_rd (rd_remN (i := kk) (m := 2064) rfl rfl (by omega)) rfl ?_
          refine c_is rfl (flip_fn (c := d) (a := aC) (i := m / 8) (j := m % 8) (k := kk % 2064) (k1.aC.trans g1) hb' (by omega) (by omega)) (by repeat (first | exact Split.nil | (apply Split.cons; next => repeat (first | exact Pick.here | apply Pick.there | apply Pick.app)) | (apply Split.chunk; next => repeat (first | exact PickL.here | exact PickL.last | apply PickL.there | apply PickL.app)) | (apply Split.lst; repeat (first | exact PickL.here | exact PickL.last | apply PickL.there | apply PickL.app)))) rfl (by repeat (first | exact Ap.nil | apply Ap.cons | apply Ap.app | exact Ap.one)) ?_
          refine o_nil ?_
          refine n_blk ?_
          refine n_K ?_
          refine s_region0 (fun ops => ?_)
          refine o_rd (rd_add64 rfl rfl (by omega)) rfl ?_
          refine o_rd (rd_move rfl) rfl ?_
          refine o_nil ?_
          refine n_K ?_
          first | exact ⟨(m + 1, setB d (m / 8) (setPg b' (m % 8) (flipP (b'.pages[m % 8]'(by omega)) (kk % 2064)))), ⟨by simp only; omega, k1.flip (by omega) hm16 (by omega) hb'⟩, by simp only; omega, (by repeat' first | exact Keep.nil | refine Keep.cons rfl ?_), (by repeat' first | exact Keep.nil | refine Keep.cons rfl ?_), _, (by repeat (first | exact Split.nil | (apply Split.cons; next => repeat (first | exact Pick.here | apply Pick.there | apply Pick.app)) | (apply Split.chunk; next => repeat (first | exact PickL.here | exact PickL.last | apply PickL.there | apply PickL.app)) | (apply Split.lst; repeat (first | exact PickL.here | exact PickL.last | apply PickL.there | apply PickL.app))))⟩ | exact ⟨(m + 1, d), ⟨by simp only; omega, k1.mono (by omega)⟩, by simp only; omega, (by repeat' first | exact Keep.nil | refine Keep.cons rfl ?_), (by repeat' first | exact Keep.nil | refine Keep.cons rfl ?_), _, (by repeat (first | exact Split.nil | (apply Split.cons; next => repeat (first | exact Pick.here | apply Pick.there | apply Pick.app)) | (apply Split.chunk; next => repeat (first | exact PickL.here | exact PickL.last | apply PickL.there | apply PickL.app)) | (apply Split.lst; repeat (first | exact PickL.here | exact PickL.last | apply PickL.there | apply PickL.app))))⟩
        · simp only [decide_eq_true_eq, decide_eq_false_iff_not] at c76
          refine s_skip ?_
          refine n_blk ?_
          refine n_K ?_
          refine s_region0 (fun ops => ?_)
          refine o_rd (rd_add64 rfl rfl (by omega)) rfl ?_
          refine o_rd (rd_move rfl) rfl ?_
          refine o_nil ?_
          refine n_K ?_
          first | exact ⟨(m + 1, setB d (m / 8) (setPg b' (m % 8) (flipP (b'.pages[m % 8]'(by omega)) (kk % 2064)))), ⟨by simp only; omega, k1.flip (by omega) hm16 (by omega) hb'⟩, by simp only; omega, (by repeat' first | exact Keep.nil | refine Keep.cons rfl ?_), (by repeat' first | exact Keep.nil | refine Keep.cons rfl ?_), _, (by repeat (first | exact Split.nil | (apply Split.cons; next => repeat (first | exact Pick.here | apply Pick.there | apply Pick.app)) | (apply Split.chunk; next => repeat (first | exact PickL.here | exact PickL.last | apply PickL.there | apply PickL.app)) | (apply Split.lst; repeat (first | exact PickL.here | exact PickL.last | apply PickL.there | apply PickL.app))))⟩ | exact ⟨(m + 1, d), ⟨by simp only; omega, k1.mono (by omega)⟩, by simp only; omega, (by repeat' first | exact Keep.nil | refine Keep.cons rfl ?_), (by repeat' first | exact Keep.nil | refine Keep.cons rfl ?_), _, (by repeat (first | exact Split.nil | (apply Split.cons; next => repeat (first | exact Pick.here | apply Pick.there | apply Pick.app)) | (apply Split.chunk; next => repeat (first | exact PickL.here | exact PickL.last | apply PickL.there | apply PickL.app)) | (apply Split.lst; repeat (first | exact PickL.here | exact PickL.last | apply PickL.there | apply PickL.app))))⟩
      · simp only [decide_eq_true_eq, decide_eq_false_iff_not] at c71
        obtain ⟨t2, ho2, hu2, hl2⟩ := open_turned hh (by rw [hl1]; exact g3) k1
        have hdl : d.blocks.length = 20 := k1.len.trans hl1
        refine s_exit ?_
        refine x_K ?_
        refine x_K ?_
        refine x_blk ?_
        refine n_K ?_
        refine s_seq ?_
        refine s_region0 (fun ops => ?_)
        refine o_rd (rd_move rfl) rfl ?_
        refine c_ex rfl (open_b (k1.aC.trans g1) (by omega) ho2) (by repeat (first | exact Split.nil | (apply Split.cons; next => repeat (first | exact Pick.here | apply Pick.there | apply Pick.app)) | (apply Split.chunk; next => repeat (first | exact PickL.here | exact PickL.last | apply PickL.there | apply PickL.app)) | (apply Split.lst; repeat (first | exact PickL.here | exact PickL.last | apply PickL.there | apply PickL.app)))) rfl (fun v89 Y89 h89 => ?_)
        obtain ⟨tb, rfl, rfl, htb⟩ := h89
        refine so_ap (by repeat (first | exact Ap.nil | apply Ap.cons | apply Ap.app | exact Ap.one)) ?_
        refine o_rd (rd_move rfl) rfl ?_
        refine o_rd (rd_extract rfl rfl) rfl ?_
        refine o_rd (rd_extract rfl rfl) rfl ?_
        refine o_rd (rd_assign rfl) rfl ?_
        refine o_rd (rd_assign rfl) rfl ?_
        refine o_nil ?_
        refine n_K ?_
        refine s_seq ?_
        refine s_region [(2, 94), (6, 98)] rfl (fun ops y => ?_)
        refine o_rd (rd_move rfl) rfl ?_
        refine o_rd (rd_neNil rfl rfl) rfl ?_
        refine o_rd (rd_move rfl) rfl ?_
        refine' o_and (j := 2) (k := 2) y rfl rfl rfl rfl rfl rfl rfl (fun hg94 => ?_) ?_
        rotate_left
        · try (simp at hg94; show _)
          refine o_g y rfl rfl ?_
          refine o_rd (rd_move rfl) rfl ?_
          refine o_g y rfl rfl ?_
          refine o_rd (rd_bin rfl rfl rfl) rfl ?_
          exact o_nil ⟨rfl, rfl, ⟨_, (by repeat (first | exact Split.nil | (apply Split.cons; next => repeat (first | exact Pick.here | apply Pick.there | apply Pick.app)) | (apply Split.chunk; next => repeat (first | exact PickL.here | exact PickL.last | apply PickL.there | apply PickL.app)) | (apply Split.lst; repeat (first | exact PickL.here | exact PickL.last | apply PickL.there | apply PickL.app))))⟩⟩
        refine o_rd (rd_move rfl) rfl ?_
        refine' o_and (j := 6) (k := 3) y rfl rfl rfl rfl rfl rfl rfl (fun hg98 => ?_) ?_
        rotate_left
        · try (simp at hg98; show _)
          refine o_g y rfl rfl ?_
          refine o_rd (rd_move rfl) rfl ?_
          refine o_g y rfl rfl ?_
          refine o_rd (rd_move rfl) rfl ?_
          refine o_g y rfl rfl ?_
          refine c_is rfl (sameR_fn (t := tb) (r := r1) (n := 20) (k1.aC.trans g1) hdl (by decide) g2.refS.1 (by rw [htb]; exact g2.rel.of hu2 hl2)) (by repeat (first | exact Split.nil | (apply Split.cons; next => repeat (first | exact Pick.here | apply Pick.there | apply Pick.app)) | (apply Split.chunk; next => repeat (first | exact PickL.here | exact PickL.last | apply PickL.there | apply PickL.app)) | (apply Split.lst; repeat (first | exact PickL.here | exact PickL.last | apply PickL.there | apply PickL.app)))) rfl (by repeat (first | exact Ap.nil | apply Ap.cons | apply Ap.app | exact Ap.one)) ?_
          exact o_nil ⟨rfl, rfl, ⟨_, (by repeat (first | exact Split.nil | (apply Split.cons; next => repeat (first | exact Pick.here | apply Pick.there | apply Pick.app)) | (apply Split.chunk; next => repeat (first | exact PickL.here | exact PickL.last | apply PickL.there | apply PickL.app)) | (apply Split.lst; repeat (first | exact PickL.here | exact PickL.last | apply PickL.there | apply PickL.app))))⟩⟩
        refine o_rd (rd_assign rfl) rfl ?_
        refine o_nil ?_
        refine n_K ?_
        refine s_ret ?_
        exact leaf_r (rets1 Tryz.results5 (rv_tmp rfl)) (by rfl) (by repeat (first | exact Split.nil | (apply Split.cons; next => repeat (first | exact Pick.here | apply Pick.there | apply Pick.app)) | (apply Split.chunk; next => repeat (first | exact PickL.here | exact PickL.last | apply PickL.there | apply PickL.app)) | (apply Split.lst; repeat (first | exact PickL.here | exact PickL.last | apply PickL.there | apply PickL.app))))
end Go.Proofs.YtdfidkhbldedlaaGreat
