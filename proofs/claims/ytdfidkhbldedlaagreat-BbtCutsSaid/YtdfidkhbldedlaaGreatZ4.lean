/- Walk of the law BbtPlays. -/
import Derived.Test.YtdfidkhbldedlaaGreatZ3
namespace Go.Proofs.YtdfidkhbldedlaaGreat
open Go.K
set_option linter.unusedVariables false
set_option linter.unusedSimpArgs false
instance und23 : Und Tryz.prog 23 (.slice 39) := ⟨Tryz.underlying23⟩
instance agg23 : Agg Tryz.prog 23 false := ⟨⟨_, Tryz.underlying23, rfl⟩⟩
instance siz23 : Siz Tryz.prog 23 1 := ⟨by kernel_rfl⟩
instance und34 : Und Tryz.prog 34 (.pointer 108) := ⟨Tryz.underlying34⟩
instance agg34 : Agg Tryz.prog 34 false := ⟨⟨_, Tryz.underlying34, rfl⟩⟩
instance siz34 : Siz Tryz.prog 34 1 := ⟨by kernel_rfl⟩
instance zer39 : Zer Tryz.prog 39 ([.int .i64 0, .int .i64 0, .int .i64 0, .bool false, .int .i64 0]) := ⟨by kernel_rfl⟩
instance ent3 : Ent Tryz.prog 3 := ⟨fun _ _ => by kernel_rfl⟩
theorem format_b {c : Chip} {a : Nat} (ha : c.aC = a) (hb : 2 ≤ c.blocks.length ∧ c.blocks.length ≤ 1000) : Does Tryz.prog 15 [ptr a] (chH c) (FormatR a c) := by subst ha; exact format_fn hb
theorem open_b {c : Chip} {a : Nat} (ha : c.aC = a) (hb : 2 ≤ c.blocks.length ∧ c.blocks.length ≤ 1000) {t : TS} (ho : openC c = (0, t)) : Does Tryz.prog 21 [ptr a] (chH c) (fun v H => ∃ tb : Tab, v = .tuple #[ptr tb.b, .int .i64 0] ∧ H = tabH a tb ++ (chH c ++ []) ∧ tb.ts = t) := by
  subst ha
  refine (open_fn hb).mono fun v H h => ?_
  unfold OpenR at h
  rw [ho, if_pos rfl] at h
  exact h
theorem fails_format {aP aC aB n : Nat} {bad : List Int} (hn : 16 ≤ n ∧ n ≤ 40) (hx : fmtX (badL n bad) = true) : formatC (newG (-1) 0 aP aC aB n bad) = (34, ts0, newG (-1) 0 aP aC aB n bad) := by
  unfold formatC
  rw [if_neg (by rw [new_may (by omega) (by omega)]; simp), if_pos ((new_fmtX hn).trans hx)]
theorem okNew_bad {n : Int} {bad : List Int} (h : okNew n bad = true) : ∀ x ∈ bad, 0 ≤ x ∧ x < n := fun x hx => by
  unfold okNew at h
  simp only [Bool.and_eq_true] at h
  have := List.all_eq_true.1 h.2 x hx
  simpa using this
/-- A new chip is given a table. -/
theorem formatJ_fn {pp aC aB m : Nat} {bad : List Int} (hm : 16 ≤ m ∧ m ≤ 40) : Does Tryz.prog 15 [ptr aC] (chH (newG (-1) 0 pp aC aB m bad))
    (fun v H => (fmtX (badL m bad) = false ∧ ∃ (tb : Tab) (c' : Chip), v = .tuple #[ptr tb.b, .int .i64 0] ∧ H = tabH aC tb ++ (chH c' ++ []) ∧ c'.aC = aC ∧ c'.aP = pp ∧ JI c' tb.ts (fmtV (badL m bad) ((m : Int) - 6) m) (badL m bad) m 0) ∨
      (fmtX (badL m bad) = true ∧ v = .tuple #[.pointer none, .int .i64 34] ∧ H = chH (newG (-1) 0 pp aC aB m bad) ++ [])) := by
  have hlen : (newG (-1) 0 pp aC aB m bad).blocks.length = m := new_len
  refine (format_b (c := newG (-1) 0 pp aC aB m bad) (a := aC) rfl (by rw [hlen]; omega)).mono fun v H h => ?_
  cases hx : fmtX (badL m bad) with
  | false =>
    obtain ⟨t, c', h1, h2, h3, h4⟩ := new_JI (aP := pp) (aC := aC) (aB := aB) hm hx
    unfold FormatR at h
    rw [h1] at h
    rcases h with ⟨tb, rfl, rfl, h5, _⟩ | ⟨_, _, h6⟩
    · exact .inl ⟨rfl, tb, c', rfl, rfl, h3, h4, by rw [h5]; exact h2⟩
    · exact absurd rfl h6
  | true =>
    have h1 := fails_format (aP := pp) (aC := aC) (aB := aB) hm hx
    unfold FormatR at h
    rw [h1] at h
    rcases h with ⟨_, _, _, _, h5⟩ | ⟨rfl, rfl, _⟩
    · cases h5
    · exact .inr ⟨rfl, rfl, rfl⟩
theorem sameJ_fn {c : Chip} {t : Tab} {r : RTab} {a n k : Nat} (ha : c.aC = a) (h : JI c t.ts r.u.list r.l.list n k) : Does Tryz.prog 20 [ptr t.b, ptr r.b] (tabH a t ++ (chH c ++ (refH r ++ []))) (Is (.bool true) (tabH a t ++ (chH c ++ (refH r ++ [])))) :=
  (same_fn ha (by have := h.len; have := h.wf.n2; omega) h.refS.1).mono fun v H ⟨x, h1, h2, h3, _⟩ => ⟨by rw [h1, h3 (by rw [h.len]; exact h.rel)], h2⟩
theorem doJ_fn {c : Chip} {t : Tab} {a n k : Nat} {u u' : List Int} {l l' : List Bool} {o : OpV} {b : Int} {ok : Bool} (ha : c.aC = a) (h : JI c t.ts u l n k) (hk : k ≤ 1000) (hst : StepR u l o b ok u' l') :
    Does Tryz.prog 19 [ptr t.b, .agg (opC o).toArray, .int .i64 b] (tabH a t ++ (chH c ++ []))
    (fun v H => (ok = false ∧ v = .int .i64 1 ∧ ∃ (t' : Tab) (c' : Chip), t'.b = t.b ∧ H = tabH a t' ++ (chH c' ++ []) ∧ c'.aC = a ∧ JI c' t'.ts u l n (k + 1)) ∨
      (ok = true ∧ v = .int .i64 0 ∧ ∃ (t' : Tab) (c' : Chip), t'.b = t.b ∧ H = tabH a t' ++ (chH c' ++ []) ∧ c'.aC = a ∧ JI c' t'.ts u' l' n (k + 1))) := by
  obtain ⟨s1, s2, s3, s4⟩ := h.tabS
  refine (do_fn (o := o) (b := b) ha s1 s2 s3 s4).mono fun v H ⟨t', e, c', h1, h2, h3, h4, h5⟩ => ?_
  have hlen := h.len
  rcases do_step (by rw [hlen]; exact h.rel) (by rw [hlen]; exact h.wf) hst h5 with ⟨hok, hr⟩ | ⟨hok, lost, hr, hw, _, hrel⟩
  · simp only [Prod.mk.injEq] at hr
    obtain ⟨rfl, hts, rfl⟩ := hr
    exact .inl ⟨hok, h2, t', c', h1, h3, h4, by rw [hts]; exact h.mono⟩
  · rw [hlen] at hw hrel
    obtain ⟨rfl, hJ⟩ := h.keep hk hr hw hrel
    exact .inr ⟨hok, h2, t', c', h1, h3, h4, hJ⟩
theorem plays_fn {n : Int} {s : Sl Int} {sc : Sl OpV} : Does Tryz.prog 3 [.int .i64 n, s.val, sc.val] (s.hp tI ++ (sc.hp tOp ++ [])) (fun v H => v = .bool true) := by
  refine fn_enter (n := 128) Tryz.func3 Tryz.ntmps3 rfl (Nat.le_of_ble_eq_true rfl) ?_
  refine s_seq ?_
  refine s_region0 (fun ops => ?_)
  refine o_rd (rd_assign rfl) rfl ?_
  refine o_nil ?_
  refine n_K ?_
  refine s_seq ?_
  refine s_seq ?_
  refine s_region0 (fun ops => ?_)
  refine c_is rfl (speaks_fn) (by repeat (first | exact Split.nil | (apply Split.cons; next => repeat (first | exact Pick.here | apply Pick.there | apply Pick.app)) | (apply Split.chunk; next => repeat (first | exact PickL.here | exact PickL.last | apply PickL.there | apply PickL.app)) | (apply Split.lst; repeat (first | exact PickL.here | exact PickL.last | apply PickL.there | apply PickL.app)))) rfl (by repeat (first | exact Ap.nil | apply Ap.cons | apply Ap.app | exact Ap.one)) ?_
  refine o_rd (rd_not rfl) rfl ?_
  refine o_nil ?_
  refine n_K ?_
  refine s_condF rfl ?_
  refine s_skip ?_
  refine n_K ?_
  refine s_seq ?_
  refine s_seq ?_
  refine s_region [(3, 25)] rfl (fun ops y => ?_)
  refine o_rd (rd_move rfl) rfl ?_
  refine o_rd (rd_lenS rfl) rfl ?_
  refine o_rd (rd_bin rfl rfl rfl) rfl ?_
  refine o_rd (rd_move rfl) rfl ?_
  refine' o_or (j := 3) (k := 3) y rfl rfl rfl rfl rfl rfl rfl (fun hg25 => ?_) ?_
  rotate_left
  · try (simp at hg25; show _)
    refine o_g y rfl rfl ?_
    refine o_rd (rd_move rfl) rfl ?_
    refine o_g y rfl rfl ?_
    refine o_rd (rd_lenS rfl) rfl ?_
    refine o_g y rfl rfl ?_
    refine o_rd (rd_bin rfl rfl rfl) rfl ?_
    exact o_nil ⟨rfl, rfl, ⟨_, (by repeat (first | exact Split.nil | (apply Split.cons; next => repeat (first | exact Pick.here | apply Pick.there | apply Pick.app)) | (apply Split.chunk; next => repeat (first | exact PickL.here | exact PickL.last | apply PickL.there | apply PickL.app)) | (apply Split.lst; repeat (first | exact PickL.here | exact PickL.last | apply PickL.there | apply PickL.app))))⟩⟩
  refine o_nil ?_
  refine n_K ?_
  refine s_cond rfl (fun c29 => ?_) (fun c29 => ?_)
  · skip
    refine s_seq ?_
    refine s_region0 (fun ops => ?_)
    refine o_rd (rd_assign rfl) rfl ?_
    refine o_nil ?_
    refine n_K ?_
    refine s_ret ?_
    refine r_K ?_
    exact leaf_r (rets1 Tryz.results3 (rv_tmp rfl)) (by rfl) (by repeat (first | exact Split.nil | (apply Split.cons; next => repeat (first | exact Pick.here | apply Pick.there | apply Pick.app)) | (apply Split.chunk; next => repeat (first | exact PickL.here | exact PickL.last | apply PickL.there | apply PickL.app)) | (apply Split.lst; repeat (first | exact PickL.here | exact PickL.last | apply PickL.there | apply PickL.app))))
  · skip
    have hsc : sc.list.length ≤ 30 ∧ s.list.length ≤ 20 := (by simp at c29; omega)
    refine s_skip ?_
    refine n_K ?_
    refine s_seq ?_
    refine s_region0 (fun ops => ?_)
    refine c_ex rfl (newPower_fn) (by repeat (first | exact Split.nil | (apply Split.cons; next => repeat (first | exact Pick.here | apply Pick.there | apply Pick.app)) | (apply Split.chunk; next => repeat (first | exact PickL.here | exact PickL.last | apply PickL.there | apply PickL.app)) | (apply Split.lst; repeat (first | exact PickL.here | exact PickL.last | apply PickL.there | apply PickL.app)))) rfl (fun v31 Y31 h31 => ?_)
    obtain ⟨p31, rfl, rfl⟩ := h31
    refine so_ap (by repeat (first | exact Ap.nil | apply Ap.cons | apply Ap.app | exact Ap.one)) ?_
    refine o_rd (rd_move rfl) rfl ?_
    refine o_rd (rd_move rfl) rfl ?_
    refine c_ex rfl (new2_fn (n := n) (s := s) (T := tI)) (by repeat (first | exact Split.nil | (apply Split.cons; next => repeat (first | exact Pick.here | apply Pick.there | apply Pick.app)) | (apply Split.chunk; next => repeat (first | exact PickL.here | exact PickL.last | apply PickL.there | apply PickL.app)) | (apply Split.lst; repeat (first | exact PickL.here | exact PickL.last | apply PickL.there | apply PickL.app)))) rfl (fun v34 Y34 h34 => ?_)
    rcases h34 with ⟨aC, aB, rfl, rfl, ok⟩ | ⟨rfl, rfl, ok⟩
    all_goals
      refine so_ap (by repeat (first | exact Ap.nil | apply Ap.cons | apply Ap.app | exact Ap.one)) ?_
      refine o_rd (rd_move rfl) rfl ?_
      refine o_rd (rd_extract rfl rfl) rfl ?_
      refine o_rd (rd_extract rfl rfl) rfl ?_
      refine o_rd (rd_assign rfl) rfl ?_
      refine o_rd (rd_assign rfl) rfl ?_
      refine o_nil ?_
      refine n_K ?_
      refine s_seq ?_
      refine s_seq ?_
      refine s_region0 (fun ops => ?_)
      refine o_rd (rd_move rfl) rfl ?_
      refine o_rd (rd_eqNil rfl rfl) rfl ?_
      refine o_nil ?_
      refine n_K ?_
      refine s_cond rfl (fun c38 => ?_) (fun c38 => ?_)
      · skip
        try (exfalso; (cases c38); done)
        all_goals
          refine s_seq ?_
          refine s_region0 (fun ops => ?_)
          refine o_rd (rd_assign rfl) rfl ?_
          refine o_nil ?_
          refine n_K ?_
          refine s_ret ?_
          refine r_K ?_
          exact leaf_r (rets1 Tryz.results3 (rv_tmp rfl)) (by rfl) (by repeat (first | exact Split.nil | (apply Split.cons; next => repeat (first | exact Pick.here | apply Pick.there | apply Pick.app)) | (apply Split.chunk; next => repeat (first | exact PickL.here | exact PickL.last | apply PickL.there | apply PickL.app)) | (apply Split.lst; repeat (first | exact PickL.here | exact PickL.last | apply PickL.there | apply PickL.app))))
      · skip
        try (exfalso; (cases c38); done)
        all_goals
          have hn := okNew_in ok
          have hbad := okNew_bad ok
          obtain ⟨m, hm⟩ : ∃ m : Nat, n = m := ⟨n.toNat, by omega⟩
          subst hm
          have hm2 : 16 ≤ m ∧ m ≤ 40 := (by omega)
          rw [Int.toNat_natCast]
          refine s_skip ?_
          refine n_K ?_
          refine s_seq ?_
          refine s_region0 (fun ops => ?_)
          refine o_rd (rd_move rfl) rfl ?_
          refine c_ex rfl (formatJ_fn (pp := p31) (aC := aC) (aB := aB) (bad := s.list) hm2) (by repeat (first | exact Split.nil | (apply Split.cons; next => repeat (first | exact Pick.here | apply Pick.there | apply Pick.app)) | (apply Split.chunk; next => repeat (first | exact PickL.here | exact PickL.last | apply PickL.there | apply PickL.app)) | (apply Split.lst; repeat (first | exact PickL.here | exact PickL.last | apply PickL.there | apply PickL.app)))) rfl (fun v41 Y41 h41 => ?_)
          rcases h41 with ⟨hX, t, c', rfl, rfl, a1, a2, a3⟩ | ⟨hX, rfl, rfl⟩
          all_goals
            refine so_ap (by repeat (first | exact Ap.nil | apply Ap.cons | apply Ap.app | exact Ap.one)) ?_
            refine o_rd (rd_move rfl) rfl ?_
            refine o_rd (rd_extract rfl rfl) rfl ?_
            refine o_rd (rd_extract rfl rfl) rfl ?_
            refine o_rd (rd_assign rfl) rfl ?_
            refine o_rd (rd_assign rfl) rfl ?_
            refine o_nil ?_
            refine n_K ?_
            refine s_seq ?_
            refine s_region0 (fun ops => ?_)
            refine o_rd (rd_move rfl) rfl ?_
            refine o_rd (rd_move rfl) rfl ?_
            refine c_ex rfl (bads_fn (n := (m : Int)) (s := s) (by omega) hbad) (by repeat (first | exact Split.nil | (apply Split.cons; next => repeat (first | exact Pick.here | apply Pick.there | apply Pick.app)) | (apply Split.chunk; next => repeat (first | exact PickL.here | exact PickL.last | apply PickL.there | apply PickL.app)) | (apply Split.lst; repeat (first | exact PickL.here | exact PickL.last | apply PickL.there | apply PickL.app)))) rfl (fun v46 Y46 h46 => ?_)
            obtain ⟨bl, rfl, rfl, hbl, hob⟩ := h46
            refine so_ap (by repeat (first | exact Ap.nil | apply Ap.cons | apply Ap.app | exact Ap.one)) ?_
            refine c_ex rfl (rformat_fn (s := bl) (by rw [hbl, Int.toNat_natCast, badL_len]; omega)) (by repeat (first | exact Split.nil | (apply Split.cons; next => repeat (first | exact Pick.here | apply Pick.there | apply Pick.app)) | (apply Split.chunk; next => repeat (first | exact PickL.here | exact PickL.last | apply PickL.there | apply PickL.app)) | (apply Split.lst; repeat (first | exact PickL.here | exact PickL.last | apply PickL.there | apply PickL.app)))) rfl (fun v47 Y47 h47 => ?_)
            rcases h47 with ⟨hx, r, rfl, rfl, hru, hrl, hou, hol⟩ | ⟨hx, rfl, rfl⟩
            all_goals
              refine so_ap (by repeat (first | exact Ap.nil | apply Ap.cons | apply Ap.app | exact Ap.one)) ?_
              refine o_rd (rd_assign rfl) rfl ?_
              refine o_nil ?_
              refine n_K ?_
              refine s_seq ?_
              refine s_seq ?_
              refine s_region [(5, 53), (12, 60)] rfl (fun ops y => ?_)
              refine o_rd (rd_move rfl) rfl ?_
              refine o_rd (rd_eqNil rfl rfl) rfl ?_
              refine o_rd (rd_move rfl) rfl ?_
              refine o_rd (rd_eqNil rfl rfl) rfl ?_
              refine o_rd (rd_neB rfl rfl) rfl ?_
              refine o_rd (rd_move rfl) rfl ?_
              refine' o_or (j := 5) (k := 5) y rfl rfl rfl rfl rfl rfl rfl (fun hg53 => ?_) ?_
              rotate_left
              · try (simp at hg53; show _)
                refine o_g y rfl rfl ?_
                refine o_rd (rd_move rfl) rfl ?_
                refine o_g y rfl rfl ?_
                refine o_rd (rd_bin rfl rfl rfl) rfl ?_
                refine o_g y rfl rfl ?_
                refine o_rd (rd_move rfl) rfl ?_
                refine o_g y rfl rfl ?_
                refine o_rd (rd_neNil rfl rfl) rfl ?_
                refine o_g y rfl rfl ?_
                refine o_rd (rd_neB rfl rfl) rfl ?_
                exact o_nil ⟨rfl, rfl, ⟨_, (by repeat (first | exact Split.nil | (apply Split.cons; next => repeat (first | exact Pick.here | apply Pick.there | apply Pick.app)) | (apply Split.chunk; next => repeat (first | exact PickL.here | exact PickL.last | apply PickL.there | apply PickL.app)) | (apply Split.lst; repeat (first | exact PickL.here | exact PickL.last | apply PickL.there | apply PickL.app))))⟩⟩
              refine o_rd (rd_move rfl) rfl ?_
              refine' o_or (j := 12) (k := 2) y rfl rfl rfl rfl rfl rfl rfl (fun hg60 => ?_) ?_
              rotate_left
              · try (simp at hg60; show _)
                refine o_g y rfl rfl ?_
                refine o_rd (rd_move rfl) rfl ?_
                refine o_g y rfl rfl ?_
                refine o_rd (rd_eqNil rfl rfl) rfl ?_
                exact o_nil ⟨rfl, rfl, ⟨_, (by repeat (first | exact Split.nil | (apply Split.cons; next => repeat (first | exact Pick.here | apply Pick.there | apply Pick.app)) | (apply Split.chunk; next => repeat (first | exact PickL.here | exact PickL.last | apply PickL.there | apply PickL.app)) | (apply Split.lst; repeat (first | exact PickL.here | exact PickL.last | apply PickL.there | apply PickL.app))))⟩⟩
              refine o_nil ?_
              refine n_K ?_
              refine s_cond rfl (fun c63 => ?_) (fun c63 => ?_)
              · skip
                try (exfalso; (first | (rw [hbl, Int.toNat_natCast, hX] at hx; cases hx; done) | (cases c63; done)); done)
                all_goals
                  refine s_seq ?_
                  refine s_region [(2, 66), (6, 70)] rfl (fun ops y => ?_)
                  refine o_rd (rd_move rfl) rfl ?_
                  refine o_rd (rd_eqNil rfl rfl) rfl ?_
                  refine o_rd (rd_move rfl) rfl ?_
                  refine' o_and (j := 2) (k := 2) y rfl rfl rfl rfl rfl rfl rfl (fun hg66 => ?_) ?_
                  rotate_left
                  · try (simp at hg66; show _)
                    refine o_g y rfl rfl ?_
                    refine o_rd (rd_move rfl) rfl ?_
                    refine o_g y rfl rfl ?_
                    refine o_rd (rd_eqNil rfl rfl) rfl ?_
                    exact o_nil ⟨rfl, rfl, ⟨_, (by repeat (first | exact Split.nil | (apply Split.cons; next => repeat (first | exact Pick.here | apply Pick.there | apply Pick.app)) | (apply Split.chunk; next => repeat (first | exact PickL.here | exact PickL.last | apply PickL.there | apply PickL.app)) | (apply Split.lst; repeat (first | exact PickL.here | exact PickL.last | apply PickL.there | apply PickL.app))))⟩⟩
                  refine o_rd (rd_move rfl) rfl ?_
                  refine' o_and (j := 6) (k := 2) y rfl rfl rfl rfl rfl rfl rfl (fun hg70 => ?_) ?_
                  rotate_left
                  · try (simp at hg70; show _)
                    refine o_g y rfl rfl ?_
                    refine o_rd (rd_move rfl) rfl ?_
                    refine o_g y rfl rfl ?_
                    refine o_rd (rd_bin rfl rfl rfl) rfl ?_
                    exact o_nil ⟨rfl, rfl, ⟨_, (by repeat (first | exact Split.nil | (apply Split.cons; next => repeat (first | exact Pick.here | apply Pick.there | apply Pick.app)) | (apply Split.chunk; next => repeat (first | exact PickL.here | exact PickL.last | apply PickL.there | apply PickL.app)) | (apply Split.lst; repeat (first | exact PickL.here | exact PickL.last | apply PickL.there | apply PickL.app))))⟩⟩
                  refine o_rd (rd_assign rfl) rfl ?_
                  refine o_nil ?_
                  refine n_K ?_
                  refine s_ret ?_
                  refine r_K ?_
                  exact leaf_r (rets1 Tryz.results3 (rv_tmp rfl)) (by rfl) (by repeat (first | exact Split.nil | (apply Split.cons; next => repeat (first | exact Pick.here | apply Pick.there | apply Pick.app)) | (apply Split.chunk; next => repeat (first | exact PickL.here | exact PickL.last | apply PickL.there | apply PickL.app)) | (apply Split.lst; repeat (first | exact PickL.here | exact PickL.last | apply PickL.there | apply PickL.app))))
              · skip
                try (exfalso; (first | (rw [hbl, Int.toNat_natCast, hX] at hx; cases hx; done) | (cases c63; done)); done)
                all_goals
                  rw [hbl, Int.toNat_natCast] at hru hrl
                  rw [badL_len] at hru
                  refine s_skip ?_
                  refine n_K ?_
                  refine s_seq ?_
                  refine s_seq ?_
                  refine s_region0 (fun ops => ?_)
                  refine o_rd (rd_move rfl) rfl ?_
                  refine o_rd (rd_lenS rfl) rfl ?_
                  refine o_rd (rd_move rfl) rfl ?_
                  refine o_nil ?_
                  refine n_K ?_
                  refine s_block ?_
                  refine s_loop2 [7, 74, 75] (by repeat' first | exact Keep2.nil | apply Keep2.cons rfl) (fun (st : Nat × Tab × Chip × RTab) => [(76, .int .i64 st.1), (9, ptr st.2.1.b), (11, ptr st.2.2.2.b)]) (fun (st : Nat × Tab × Chip × RTab) => tabH aC st.2.1 ++ (chH st.2.2.1 ++ (refH st.2.2.2 ++ (s.hp tI ++ (sc.hp tOp ++ []))))) (fun (st : Nat × Tab × Chip × RTab) => st.1 ≤ sc.list.length ∧ st.2.2.1.aC = aC ∧ JI st.2.2.1 st.2.1.ts st.2.2.2.u.list st.2.2.2.l.list m st.1) (fun (st : Nat × Tab × Chip × RTab) => sc.list.length - st.1) ((0, t, c', r)) ⟨Nat.zero_le _, a1, by rw [hru, hrl]; exact a3⟩ (by repeat' first | exact Keep.nil | refine Keep.cons rfl ?_) (by repeat (first | exact Split.nil | (apply Split.cons; next => repeat (first | exact Pick.here | apply Pick.there | apply Pick.app)) | (apply Split.chunk; next => repeat (first | exact PickL.here | exact PickL.last | apply PickL.there | apply PickL.app)) | (apply Split.lst; repeat (first | exact PickL.here | exact PickL.last | apply PickL.there | apply PickL.app)))) ?_
                  rintro ⟨i, t1, c1, r1⟩ ⟨g0, g1, g2⟩
                  simp only at g0 g1 g2
                  refine s_seq ?_
                  refine s_region0 (fun ops => ?_)
                  refine o_rd (rd_bin rfl rfl rfl) rfl ?_
                  refine o_nil ?_
                  refine n_K ?_
                  refine s_seq ?_
                  refine s_cond rfl (fun c77 => ?_) (fun c77 => ?_)
                  · simp only [decide_eq_true_eq, decide_eq_false_iff_not] at c77
                    obtain ⟨z, hg⟩ : ∃ z, sc.list[i]? = some z := ⟨_, List.getElem?_eq_getElem (by omega)⟩
                    refine s_skip ?_
                    refine n_K ?_
                    refine s_seq ?_
                    refine s_block ?_
                    refine s_seq ?_
                    refine s_region0 (fun ops => ?_)
                    refine o_rd (rd_ixSl rfl rfl (by omega)) rfl ?_
                    refine o_rd (rd_ldSlA (o := 0) rfl (by repeat (first | exact PickL.here | exact PickL.last | apply PickL.there | apply PickL.app)) hg rfl rfl) rfl ?_
                    refine o_alloc rfl (fun b13 => ?_)
                    refine o_store rfl rfl (by repeat' first | exact Upd.here | apply Upd.there | apply Upd.app) rfl rfl rfl ?_
                    refine o_nil ?_
                    refine n_K ?_
                    refine s_seq ?_
                    refine s_region0 (fun ops => ?_)
                    refine o_rd (rd_move rfl) rfl ?_
                    refine o_rd (rd_ldA rfl (by repeat' first | exact List.Mem.head _ | apply List.Mem.tail | apply List.mem_append_right) rfl) rfl ?_
                    refine c_ex rfl (step_fn (r := r1) (o := z) (g2.refS).1 (g2.refS).2.1 (g2.refS).2.2) (by repeat (first | exact Split.nil | (apply Split.cons; next => repeat (first | exact Pick.here | apply Pick.there | apply Pick.app)) | (apply Split.chunk; next => repeat (first | exact PickL.here | exact PickL.last | apply PickL.there | apply PickL.app)) | (apply Split.lst; repeat (first | exact PickL.here | exact PickL.last | apply PickL.there | apply PickL.app)))) rfl (fun v83 Y83 h83 => ?_)
                    obtain ⟨q, ok1, rfl, rfl, hq1, hq2, hst⟩ := h83
                    refine so_ap (by repeat (first | exact Ap.nil | apply Ap.cons | apply Ap.app | exact Ap.one)) ?_
                    refine o_rd (rd_move rfl) rfl ?_
                    refine o_rd (rd_extract rfl rfl) rfl ?_
                    refine o_rd (rd_extract rfl rfl) rfl ?_
                    refine o_rd (rd_extract rfl rfl) rfl ?_
                    refine o_rd (rd_assign rfl) rfl ?_
                    refine o_rd (rd_assign rfl) rfl ?_
                    refine o_rd (rd_assign rfl) rfl ?_
                    refine o_nil ?_
                    refine n_K ?_
                    refine s_seq ?_
                    refine s_region0 (fun ops => ?_)
                    refine o_rd (rd_move rfl) rfl ?_
                    refine o_rd (rd_ldA rfl (by repeat' first | exact List.Mem.head _ | apply List.Mem.tail | apply List.mem_append_right) rfl) rfl ?_
                    refine o_rd (rd_move rfl) rfl ?_
                    refine c_ex rfl (doJ_fn (t := t1) (c := c1) (o := z) g1 g2 (by omega) hst) (by repeat (first | exact Split.nil | (apply Split.cons; next => repeat (first | exact Pick.here | apply Pick.there | apply Pick.app)) | (apply Split.chunk; next => repeat (first | exact PickL.here | exact PickL.last | apply PickL.there | apply PickL.app)) | (apply Split.lst; repeat (first | exact PickL.here | exact PickL.last | apply PickL.there | apply PickL.app)))) rfl (fun v90 Y90 h90 => ?_)
                    rcases h90 with ⟨rfl, rfl, t', c2, hb', rfl, ha', hJ⟩ | ⟨rfl, rfl, t', c2, hb', rfl, ha', hJ⟩
                    all_goals
                      refine so_ap (by repeat (first | exact Ap.nil | apply Ap.cons | apply Ap.app | exact Ap.one)) ?_
                      refine o_rd (rd_assign rfl) rfl ?_
                      refine o_nil ?_
                      refine n_K ?_
                      refine s_seq ?_
                      refine s_seq ?_
                      refine s_region [(4, 95), (7, 98)] rfl (fun ops y => ?_)
                      refine o_rd (rd_move rfl) rfl ?_
                      refine o_rd (rd_move rfl) rfl ?_
                      refine o_rd (rd_bin rfl rfl rfl) rfl ?_
                      refine o_rd (rd_neB rfl rfl) rfl ?_
                      refine o_rd (rd_move rfl) rfl ?_
                      refine' o_or (j := 4) (k := 6) y rfl rfl rfl rfl rfl rfl rfl (fun hg95 => ?_) ?_
                      rotate_left
                      · try (simp at hg95; show _)
                        refine o_g y rfl rfl ?_
                        refine o_rd (rd_move rfl) rfl ?_
                        refine o_g y rfl rfl ?_
                        refine o_rd (rd_not rfl) rfl ?_
                        refine o_g y rfl rfl ?_
                        refine o_rd (rd_move rfl) rfl ?_
                        refine' o_and (j := 7) (k := 2) y rfl rfl rfl rfl rfl rfl rfl (fun hg98 => ?_) ?_
                        rotate_left
                        · try (simp at hg98; show _)
                          refine o_g y rfl rfl ?_
                          refine o_rd (rd_move rfl) rfl ?_
                          refine o_g y rfl rfl ?_
                          refine o_rd (rd_bin rfl rfl rfl) rfl ?_
                          exact o_nil ⟨rfl, rfl, ⟨_, (by repeat (first | exact Split.nil | (apply Split.cons; next => repeat (first | exact Pick.here | apply Pick.there | apply Pick.app)) | (apply Split.chunk; next => repeat (first | exact PickL.here | exact PickL.last | apply PickL.there | apply PickL.app)) | (apply Split.lst; repeat (first | exact PickL.here | exact PickL.last | apply PickL.there | apply PickL.app))))⟩⟩
                        exact o_nil ⟨rfl, rfl, ⟨_, (by repeat (first | exact Split.nil | (apply Split.cons; next => repeat (first | exact Pick.here | apply Pick.there | apply Pick.app)) | (apply Split.chunk; next => repeat (first | exact PickL.here | exact PickL.last | apply PickL.there | apply PickL.app)) | (apply Split.lst; repeat (first | exact PickL.here | exact PickL.last | apply PickL.there | apply PickL.app))))⟩⟩
                      refine o_nil ?_
                      refine n_K ?_
                      refine s_cond rfl (fun c102 => ?_) (fun c102 => ?_)
                      · skip
                        try (exfalso; (cases c102); done)
                        all_goals
                          refine s_seq ?_
                          refine s_region0 (fun ops => ?_)
                          refine o_rd (rd_assign rfl) rfl ?_
                          refine o_nil ?_
                          refine n_K ?_
                          refine s_ret ?_
                          refine r_K ?_
                          refine r_blk ?_
                          refine r_K ?_
                          refine r_K ?_
                          refine r_blk ?_
                          refine r_K ?_
                          exact leaf_r (rets1 Tryz.results3 (rv_tmp rfl)) (by rfl) (by repeat (first | exact Split.nil | (apply Split.cons; next => repeat (first | exact Pick.here | apply Pick.there | apply Pick.app)) | (apply Split.chunk; next => repeat (first | exact PickL.here | exact PickL.last | apply PickL.there | apply PickL.app)) | (apply Split.lst; repeat (first | exact PickL.here | exact PickL.last | apply PickL.there | apply PickL.app))))
                      · skip
                        rw [← hb']
                        obtain ⟨t3, ho3, hJ3⟩ := hJ.open
                        refine s_skip ?_
                        refine n_K ?_
                        refine s_seq ?_
                        refine s_seq ?_
                        refine s_region0 (fun ops => ?_)
                        refine o_rd (rd_move rfl) rfl ?_
                        refine o_nil ?_
                        refine n_K ?_
                        refine s_cond rfl (fun c103 => ?_) (fun c103 => ?_)
                        · skip
                          try (exfalso; (cases c103); done)
                          all_goals
                            refine s_region0 (fun ops => ?_)
                            refine o_rd (rd_move rfl) rfl ?_
                            refine o_rd (rd_assign rfl) rfl ?_
                            refine o_nil ?_
                            refine n_K ?_
                            refine s_seq ?_
                            refine s_seq ?_
                            refine s_region0 (fun ops => ?_)
                            refine o_rd (rd_move rfl) rfl ?_
                            refine o_rd (rd_move rfl) rfl ?_
                            refine c_is rfl (sameJ_fn ha' hJ) (by repeat (first | exact Split.nil | (apply Split.cons; next => repeat (first | exact Pick.here | apply Pick.there | apply Pick.app)) | (apply Split.chunk; next => repeat (first | exact PickL.here | exact PickL.last | apply PickL.there | apply PickL.app)) | (apply Split.lst; repeat (first | exact PickL.here | exact PickL.last | apply PickL.there | apply PickL.app)))) rfl (by repeat (first | exact Ap.nil | apply Ap.cons | apply Ap.app | exact Ap.one)) ?_
                            refine o_rd (rd_not rfl) rfl ?_
                            refine o_nil ?_
                            refine n_K ?_
                            refine s_condF rfl ?_
                            refine s_skip ?_
                            refine n_K ?_
                            refine s_seq ?_
                            refine s_region0 (fun ops => ?_)
                            refine o_rd (rd_move rfl) rfl ?_
                            refine c_ex rfl (open_b ha' (by have := hJ.len; omega) ho3) (by repeat (first | exact Split.nil | (apply Split.cons; next => repeat (first | exact Pick.here | apply Pick.there | apply Pick.app)) | (apply Split.chunk; next => repeat (first | exact PickL.here | exact PickL.last | apply PickL.there | apply PickL.app)) | (apply Split.lst; repeat (first | exact PickL.here | exact PickL.last | apply PickL.there | apply PickL.app)))) rfl (fun v111 Y111 h111 => ?_)
                            obtain ⟨tb, rfl, rfl, htb⟩ := h111
                            refine so_ap (by repeat (first | exact Ap.nil | apply Ap.cons | apply Ap.app | exact Ap.one)) ?_
                            refine o_rd (rd_move rfl) rfl ?_
                            refine o_rd (rd_extract rfl rfl) rfl ?_
                            refine o_rd (rd_extract rfl rfl) rfl ?_
                            refine o_rd (rd_assign rfl) rfl ?_
                            refine o_rd (rd_assign rfl) rfl ?_
                            refine o_nil ?_
                            refine n_K ?_
                            refine s_seq ?_
                            refine s_seq ?_
                            refine s_region [(2, 116), (6, 120)] rfl (fun ops y => ?_)
                            refine o_rd (rd_move rfl) rfl ?_
                            refine o_rd (rd_eqNil rfl rfl) rfl ?_
                            refine o_rd (rd_move rfl) rfl ?_
                            refine' o_or (j := 2) (k := 2) y rfl rfl rfl rfl rfl rfl rfl (fun hg116 => ?_) ?_
                            rotate_left
                            · try (simp at hg116; show _)
                              refine o_g y rfl rfl ?_
                              refine o_rd (rd_move rfl) rfl ?_
                              refine o_g y rfl rfl ?_
                              refine o_rd (rd_bin rfl rfl rfl) rfl ?_
                              exact o_nil ⟨rfl, rfl, ⟨_, (by repeat (first | exact Split.nil | (apply Split.cons; next => repeat (first | exact Pick.here | apply Pick.there | apply Pick.app)) | (apply Split.chunk; next => repeat (first | exact PickL.here | exact PickL.last | apply PickL.there | apply PickL.app)) | (apply Split.lst; repeat (first | exact PickL.here | exact PickL.last | apply PickL.there | apply PickL.app))))⟩⟩
                            refine o_rd (rd_move rfl) rfl ?_
                            refine' o_or (j := 6) (k := 4) y rfl rfl rfl rfl rfl rfl rfl (fun hg120 => ?_) ?_
                            rotate_left
                            · try (simp at hg120; show _)
                              refine o_g y rfl rfl ?_
                              refine o_rd (rd_move rfl) rfl ?_
                              refine o_g y rfl rfl ?_
                              refine o_rd (rd_move rfl) rfl ?_
                              refine o_g y rfl rfl ?_
                              refine c_is rfl (sameJ_fn (t := tb) ha' (by rw [htb]; exact hJ3)) (by repeat (first | exact Split.nil | (apply Split.cons; next => repeat (first | exact Pick.here | apply Pick.there | apply Pick.app)) | (apply Split.chunk; next => repeat (first | exact PickL.here | exact PickL.last | apply PickL.there | apply PickL.app)) | (apply Split.lst; repeat (first | exact PickL.here | exact PickL.last | apply PickL.there | apply PickL.app)))) rfl (by repeat (first | exact Ap.nil | apply Ap.cons | apply Ap.app | exact Ap.one)) ?_
                              refine o_g y rfl rfl ?_
                              refine o_rd (rd_not rfl) rfl ?_
                              exact o_nil ⟨rfl, rfl, ⟨_, (by repeat (first | exact Split.nil | (apply Split.cons; next => repeat (first | exact Pick.here | apply Pick.there | apply Pick.app)) | (apply Split.chunk; next => repeat (first | exact PickL.here | exact PickL.last | apply PickL.there | apply PickL.app)) | (apply Split.lst; repeat (first | exact PickL.here | exact PickL.last | apply PickL.there | apply PickL.app))))⟩⟩
                            refine o_nil ?_
                            refine n_K ?_
                            refine s_condF rfl ?_
                            refine s_skip ?_
                            refine n_K ?_
                            refine s_region0 (fun ops => ?_)
                            refine o_rd (rd_move rfl) rfl ?_
                            refine o_rd (rd_assign rfl) rfl ?_
                            refine o_nil ?_
                            refine n_blk ?_
                            refine n_K ?_
                            refine s_region0 (fun ops => ?_)
                            refine o_rd (rd_add64 rfl rfl (by omega)) rfl ?_
                            refine o_rd (rd_move rfl) rfl ?_
                            refine o_nil ?_
                            refine n_K ?_
                            first | exact ⟨(i + 1, tb, c2, q), ⟨by simp only; omega, ha', by rw [htb]; exact hJ3⟩, by simp only; omega, (by repeat' first | exact Keep.nil | refine Keep.cons rfl ?_), (by repeat' first | exact Keep.nil | refine Keep.cons rfl ?_), _, (by repeat (first | exact Split.nil | (apply Split.cons; next => repeat (first | exact Pick.here | apply Pick.there | apply Pick.app)) | (apply Split.chunk; next => repeat (first | exact PickL.here | exact PickL.last | apply PickL.there | apply PickL.app)) | (apply Split.lst; repeat (first | exact PickL.here | exact PickL.last | apply PickL.there | apply PickL.app))))⟩ | exact ⟨(i + 1, tb, c2, r1), ⟨by simp only; omega, ha', by rw [htb]; exact hJ3⟩, by simp only; omega, (by repeat' first | exact Keep.nil | refine Keep.cons rfl ?_), (by repeat' first | exact Keep.nil | refine Keep.cons rfl ?_), _, (by repeat (first | exact Split.nil | (apply Split.cons; next => repeat (first | exact Pick.here | apply Pick.there | apply Pick.app)) | (apply Split.chunk; next => repeat (first | exact PickL.here | exact PickL.last | apply PickL.there | apply PickL.app)) | (apply Split.lst; repeat (first | exact PickL.here | exact PickL.last | apply PickL.there | apply PickL.app))))⟩
                        · skip
                          try (exfalso; (cases c103); done)
                          all_goals
                            refine s_skip ?_
                            refine n_K ?_
                            refine s_seq ?_
                            refine s_seq ?_
                            refine s_region0 (fun ops => ?_)
                            refine o_rd (rd_move rfl) rfl ?_
                            refine o_rd (rd_move rfl) rfl ?_
                            refine c_is rfl (sameJ_fn ha' hJ) (by repeat (first | exact Split.nil | (apply Split.cons; next => repeat (first | exact Pick.here | apply Pick.there | apply Pick.app)) | (apply Split.chunk; next => repeat (first | exact PickL.here | exact PickL.last | apply PickL.there | apply PickL.app)) | (apply Split.lst; repeat (first | exact PickL.here | exact PickL.last | apply PickL.there | apply PickL.app)))) rfl (by repeat (first | exact Ap.nil | apply Ap.cons | apply Ap.app | exact Ap.one)) ?_
                            refine o_rd (rd_not rfl) rfl ?_
                            refine o_nil ?_
                            refine n_K ?_
                            refine s_condF rfl ?_
                            refine s_skip ?_
                            refine n_K ?_
                            refine s_seq ?_
                            refine s_region0 (fun ops => ?_)
                            refine o_rd (rd_move rfl) rfl ?_
                            refine c_ex rfl (open_b ha' (by have := hJ.len; omega) ho3) (by repeat (first | exact Split.nil | (apply Split.cons; next => repeat (first | exact Pick.here | apply Pick.there | apply Pick.app)) | (apply Split.chunk; next => repeat (first | exact PickL.here | exact PickL.last | apply PickL.there | apply PickL.app)) | (apply Split.lst; repeat (first | exact PickL.here | exact PickL.last | apply PickL.there | apply PickL.app)))) rfl (fun v111 Y111 h111 => ?_)
                            obtain ⟨tb, rfl, rfl, htb⟩ := h111
                            refine so_ap (by repeat (first | exact Ap.nil | apply Ap.cons | apply Ap.app | exact Ap.one)) ?_
                            refine o_rd (rd_move rfl) rfl ?_
                            refine o_rd (rd_extract rfl rfl) rfl ?_
                            refine o_rd (rd_extract rfl rfl) rfl ?_
                            refine o_rd (rd_assign rfl) rfl ?_
                            refine o_rd (rd_assign rfl) rfl ?_
                            refine o_nil ?_
                            refine n_K ?_
                            refine s_seq ?_
                            refine s_seq ?_
                            refine s_region [(2, 116), (6, 120)] rfl (fun ops y => ?_)
                            refine o_rd (rd_move rfl) rfl ?_
                            refine o_rd (rd_eqNil rfl rfl) rfl ?_
                            refine o_rd (rd_move rfl) rfl ?_
                            refine' o_or (j := 2) (k := 2) y rfl rfl rfl rfl rfl rfl rfl (fun hg116 => ?_) ?_
                            rotate_left
                            · try (simp at hg116; show _)
                              refine o_g y rfl rfl ?_
                              refine o_rd (rd_move rfl) rfl ?_
                              refine o_g y rfl rfl ?_
                              refine o_rd (rd_bin rfl rfl rfl) rfl ?_
                              exact o_nil ⟨rfl, rfl, ⟨_, (by repeat (first | exact Split.nil | (apply Split.cons; next => repeat (first | exact Pick.here | apply Pick.there | apply Pick.app)) | (apply Split.chunk; next => repeat (first | exact PickL.here | exact PickL.last | apply PickL.there | apply PickL.app)) | (apply Split.lst; repeat (first | exact PickL.here | exact PickL.last | apply PickL.there | apply PickL.app))))⟩⟩
                            refine o_rd (rd_move rfl) rfl ?_
                            refine' o_or (j := 6) (k := 4) y rfl rfl rfl rfl rfl rfl rfl (fun hg120 => ?_) ?_
                            rotate_left
                            · try (simp at hg120; show _)
                              refine o_g y rfl rfl ?_
                              refine o_rd (rd_move rfl) rfl ?_
                              refine o_g y rfl rfl ?_
                              refine o_rd (rd_move rfl) rfl ?_
                              refine o_g y rfl rfl ?_
                              refine c_is rfl (sameJ_fn (t := tb) ha' (by rw [htb]; exact hJ3)) (by repeat (first | exact Split.nil | (apply Split.cons; next => repeat (first | exact Pick.here | apply Pick.there | apply Pick.app)) | (apply Split.chunk; next => repeat (first | exact PickL.here | exact PickL.last | apply PickL.there | apply PickL.app)) | (apply Split.lst; repeat (first | exact PickL.here | exact PickL.last | apply PickL.there | apply PickL.app)))) rfl (by repeat (first | exact Ap.nil | apply Ap.cons | apply Ap.app | exact Ap.one)) ?_
                              refine o_g y rfl rfl ?_
                              refine o_rd (rd_not rfl) rfl ?_
                              exact o_nil ⟨rfl, rfl, ⟨_, (by repeat (first | exact Split.nil | (apply Split.cons; next => repeat (first | exact Pick.here | apply Pick.there | apply Pick.app)) | (apply Split.chunk; next => repeat (first | exact PickL.here | exact PickL.last | apply PickL.there | apply PickL.app)) | (apply Split.lst; repeat (first | exact PickL.here | exact PickL.last | apply PickL.there | apply PickL.app))))⟩⟩
                            refine o_nil ?_
                            refine n_K ?_
                            refine s_condF rfl ?_
                            refine s_skip ?_
                            refine n_K ?_
                            refine s_region0 (fun ops => ?_)
                            refine o_rd (rd_move rfl) rfl ?_
                            refine o_rd (rd_assign rfl) rfl ?_
                            refine o_nil ?_
                            refine n_blk ?_
                            refine n_K ?_
                            refine s_region0 (fun ops => ?_)
                            refine o_rd (rd_add64 rfl rfl (by omega)) rfl ?_
                            refine o_rd (rd_move rfl) rfl ?_
                            refine o_nil ?_
                            refine n_K ?_
                            first | exact ⟨(i + 1, tb, c2, q), ⟨by simp only; omega, ha', by rw [htb]; exact hJ3⟩, by simp only; omega, (by repeat' first | exact Keep.nil | refine Keep.cons rfl ?_), (by repeat' first | exact Keep.nil | refine Keep.cons rfl ?_), _, (by repeat (first | exact Split.nil | (apply Split.cons; next => repeat (first | exact Pick.here | apply Pick.there | apply Pick.app)) | (apply Split.chunk; next => repeat (first | exact PickL.here | exact PickL.last | apply PickL.there | apply PickL.app)) | (apply Split.lst; repeat (first | exact PickL.here | exact PickL.last | apply PickL.there | apply PickL.app))))⟩ | exact ⟨(i + 1, tb, c2, r1), ⟨by simp only; omega, ha', by rw [htb]; exact hJ3⟩, by simp only; omega, (by repeat' first | exact Keep.nil | refine Keep.cons rfl ?_), (by repeat' first | exact Keep.nil | refine Keep.cons rfl ?_), _, (by repeat (first | exact Split.nil | (apply Split.cons; next => repeat (first | exact Pick.here | apply Pick.there | apply Pick.app)) | (apply Split.chunk; next => repeat (first | exact PickL.here | exact PickL.last | apply PickL.there | apply PickL.app)) | (apply Split.lst; repeat (first | exact PickL.here | exact PickL.last | apply PickL.there | apply PickL.app))))⟩
                  · simp only [decide_eq_true_eq, decide_eq_false_iff_not] at c77
                    refine s_exit ?_
                    refine x_K ?_
                    refine x_K ?_
                    refine x_blk ?_
                    refine n_K ?_
                    refine s_seq ?_
                    refine s_region0 (fun ops => ?_)
                    refine o_rd (rd_assign rfl) rfl ?_
                    refine o_nil ?_
                    refine n_K ?_
                    refine s_ret ?_
                    exact leaf_r (rets1 Tryz.results3 (rv_tmp rfl)) (by rfl) (by repeat (first | exact Split.nil | (apply Split.cons; next => repeat (first | exact Pick.here | apply Pick.there | apply Pick.app)) | (apply Split.chunk; next => repeat (first | exact PickL.here | exact PickL.last | apply PickL.there | apply PickL.app)) | (apply Split.lst; repeat (first | exact PickL.here | exact PickL.last | apply PickL.there | apply PickL.app))))
end Go.Proofs.YtdfidkhbldedlaaGreat
