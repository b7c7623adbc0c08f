/- Walks of the laws of tables. -/
import Derived.Test.YtdfidkhbldedlaaT5
import Derived.Test.YtdfidkhbldedlaaL0
namespace Go.Proofs.Ytdfidkhbldedlaa
open Go.K
set_option linter.unusedVariables false
set_option linter.unusedSimpArgs false
instance und30 : Und Try.prog 30 (.pointer 67) := ⟨Try.underlying30⟩
instance agg30 : Agg Try.prog 30 false := ⟨⟨_, Try.underlying30, rfl⟩⟩
instance siz30 : Siz Try.prog 30 1 := ⟨by kernel_rfl⟩
instance ent3 : Ent Try.prog 3 := ⟨fun _ _ => by kernel_rfl⟩
instance ent5 : Ent Try.prog 5 := ⟨fun _ _ => by kernel_rfl⟩

theorem new2_fn {pp : Nat} {n : Int} {s : Sl Int} {T : TypeId} : Does Try.prog 7 [ptr pp, .int .i64 n, s.val] ((pp, true, C [.bool false, .int .i64 (-1), .int .i64 0] tPw) :: (s.hp T ++ []))
    (fun v H => (∃ aC aB, v = .tuple #[ptr aC, .int .i64 0] ∧ H = chH (newG (-1) 0 pp aC aB n.toNat s.list) ++ (s.hp T ++ []) ∧ okNew n s.list = true) ∨ (v = .tuple #[.pointer none, .int .i64 1] ∧ H = (s.hp T ++ []) ∧ okNew n s.list = false)) :=
  (new_fn (off := false) (after := -1) (keep := 0)).mono fun v H h => by
    unfold NewR at h
    split at h
    · rename_i h0; obtain ⟨aC, aB, h1, h2⟩ := h; exact .inl ⟨aC, aB, h1, h2, h0⟩
    · rename_i h0; exact .inr ⟨h.1, h.2, by simpa using h0⟩
theorem new3_fn {pp b : Nat} : Does Try.prog 7 [ptr pp, .int .i64 16, .slice (some ⟨b, 0, none⟩) 1 1] [(pp, true, C [.bool false, .int .i64 (-1), .int .i64 0] tPw), (b, true, C [.int .i64 3] tI)]
    (fun v H => ∃ aC aB, v = .tuple #[ptr aC, .int .i64 0] ∧ H = chH (newG (-1) 0 pp aC aB 16 [3]) ++ [(b, true, C [.int .i64 3] tI)]) := by
  have h := new2_fn (pp := pp) (n := 16) (s := .own b [3] 1 [] ⟨by simp, Nat.le_refl _, by simp⟩) (T := tI)
  rw [Sl.hp_own] at h
  refine h.mono fun v H hh => ?_
  rcases hh with ⟨aC, aB, h1, h2, _⟩ | ⟨_, _, h3⟩
  · exact ⟨aC, aB, h1, h2⟩
  · exact absurd h3 (show ¬ okNew 16 [3] = false by decide)
theorem format_ok {c c' : Chip} {t : TS} (hb : 2 ≤ c.blocks.length ∧ c.blocks.length ≤ 1000) (hf : formatC c = (0, t, c')) : Does Try.prog 12 [ptr c.aC] (chH c) (fun v H => ∃ tb : Tab, v = .tuple #[ptr tb.b, .int .i64 0] ∧ H = tabH c.aC tb ++ (chH c' ++ []) ∧ tb.ts = t) :=
  (format_fn hb).mono fun v H h => by
    unfold FormatR at h
    rw [hf] at h
    rcases h with ⟨tb, h1, h2, h3, _⟩ | ⟨_, _, h3⟩
    · exact ⟨tb, h1, h2, h3⟩
    · exact absurd rfl h3
theorem at_ok {a : Nat} {t : Tab} {i : Int} : Does Try.prog 17 [ptr t.b, .int .i64 i] (tabH a t) (Is (.tuple #[.int .i64 (atT t.ts i).1, .bool (atT t.ts i).2]) (tabH a t)) := at_fn
theorem speaks_fn : Does Try.prog 5 [] [] (Is (.bool true) []) := by
  refine fn_enter (n := 65) Try.func5 Try.ntmps5 rfl (Nat.le_of_ble_eq_true rfl) ?_
  refine s_seq ?_
  refine s_region0 (fun ops => ?_)
  refine o_rd (rd_assign rfl) rfl ?_
  refine o_nil ?_
  refine n_K ?_
  refine s_seq ?_
  refine s_region0 (fun ops => ?_)
  refine c_ex rfl (newPower_fn) (by repeat (first | exact Split.nil | (apply Split.cons; next => repeat (first | exact Pick.here | apply Pick.there | apply Pick.app)) | (apply Split.chunk; next => repeat (first | exact PickL.here | exact PickL.last | apply PickL.there | apply PickL.app)) | (apply Split.lst; repeat (first | exact PickL.here | exact PickL.last | apply PickL.there | apply PickL.app)))) rfl (fun v12 Y12 h12 => ?_)
  obtain ⟨p12, rfl, rfl⟩ := h12
  refine so_ap (by repeat (first | exact Ap.nil | apply Ap.cons | apply Ap.app | exact Ap.one)) ?_
  refine o_bslice_k rfl rfl rfl rfl (fun b13 => ?_)
  refine c_ex rfl (new3_fn) (by repeat (first | exact Split.nil | (apply Split.cons; next => repeat (first | exact Pick.here | apply Pick.there | apply Pick.app)) | (apply Split.chunk; next => repeat (first | exact PickL.here | exact PickL.last | apply PickL.there | apply PickL.app)) | (apply Split.lst; repeat (first | exact PickL.here | exact PickL.last | apply PickL.there | apply PickL.app)))) rfl (fun v14 Y14 h14 => ?_)
  obtain ⟨aC, aB, rfl, rfl⟩ := h14
  refine so_ap (by repeat (first | exact Ap.nil | apply Ap.cons | apply Ap.app | exact Ap.one)) ?_
  refine o_rd (rd_move rfl) rfl ?_
  refine o_rd (rd_extract rfl rfl) rfl ?_
  refine o_rd (rd_extract rfl rfl) rfl ?_
  refine o_rd (rd_assign rfl) rfl ?_
  refine o_rd (rd_assign rfl) rfl ?_
  refine o_nil ?_
  refine n_K ?_
  refine s_seq ?_
  refine s_seq ?_
  refine s_region0 (fun ops => ?_)
  refine o_rd (rd_move rfl) rfl ?_
  refine o_rd (rd_eqNil rfl rfl) rfl ?_
  refine o_nil ?_
  refine n_K ?_
  refine s_condF rfl ?_
  refine s_skip ?_
  refine n_K ?_
  refine s_seq ?_
  refine s_region0 (fun ops => ?_)
  refine o_rd (rd_move rfl) rfl ?_
  obtain ⟨c', hc'⟩ := ex_format (aP := p12) (aC := aC) (aB := aB)
  refine c_ex rfl (format_ok (c := newG (-1) 0 p12 aC aB 16 [3]) (by rw [new_len]; decide) hc') (by repeat (first | exact Split.nil | (apply Split.cons; next => repeat (first | exact Pick.here | apply Pick.there | apply Pick.app)) | (apply Split.chunk; next => repeat (first | exact PickL.here | exact PickL.last | apply PickL.there | apply PickL.app)) | (apply Split.lst; repeat (first | exact PickL.here | exact PickL.last | apply PickL.there | apply PickL.app)))) rfl (fun v21 Y21 h21 => ?_)
  obtain ⟨t, rfl, rfl, ht⟩ := h21
  refine so_ap (by repeat (first | exact Ap.nil | apply Ap.cons | apply Ap.app | exact Ap.one)) ?_
  refine o_rd (rd_move rfl) rfl ?_
  refine o_rd (rd_extract rfl rfl) rfl ?_
  refine o_rd (rd_extract rfl rfl) rfl ?_
  refine o_rd (rd_assign rfl) rfl ?_
  refine o_rd (rd_assign rfl) rfl ?_
  refine o_nil ?_
  refine n_K ?_
  refine s_seq ?_
  refine s_seq ?_
  refine s_region [(2, 26)] rfl (fun ops y => ?_)
  refine o_rd (rd_move rfl) rfl ?_
  refine o_rd (rd_eqNil rfl rfl) rfl ?_
  refine o_rd (rd_move rfl) rfl ?_
  refine' o_or (j := 2) (k := 2) y rfl rfl rfl rfl rfl rfl rfl (fun hg26 => ?_) ?_
  rotate_left
  · try simp at hg26
    refine o_g y rfl rfl ?_
    refine o_rd (rd_move rfl) rfl ?_
    refine o_g y rfl rfl ?_
    refine o_rd (rd_bin rfl rfl rfl) rfl ?_
    exact o_nil ⟨rfl, rfl, ⟨_, (by repeat (first | exact Split.nil | (apply Split.cons; next => repeat (first | exact Pick.here | apply Pick.there | apply Pick.app)) | (apply Split.chunk; next => repeat (first | exact PickL.here | exact PickL.last | apply PickL.there | apply PickL.app)) | (apply Split.lst; repeat (first | exact PickL.here | exact PickL.last | apply PickL.there | apply PickL.app))))⟩⟩
  refine o_nil ?_
  refine n_K ?_
  refine s_condF rfl ?_
  refine s_skip ?_
  refine n_K ?_
  refine s_seq ?_
  refine s_region0 (fun ops => ?_)
  refine o_rd (rd_move rfl) rfl ?_
  refine c_is rfl ((at_fn (a := aC) (t := t) (i := 0)).to (by rw [ht]) rfl) (by repeat (first | exact Split.nil | (apply Split.cons; next => repeat (first | exact Pick.here | apply Pick.there | apply Pick.app)) | (apply Split.chunk; next => repeat (first | exact PickL.here | exact PickL.last | apply PickL.there | apply PickL.app)) | (apply Split.lst; repeat (first | exact PickL.here | exact PickL.last | apply PickL.there | apply PickL.app)))) rfl (by repeat (first | exact Ap.nil | apply Ap.cons | apply Ap.app | exact Ap.one)) ?_
  refine o_rd (rd_move rfl) rfl ?_
  refine o_rd (rd_extract rfl rfl) rfl ?_
  refine o_rd (rd_extract rfl rfl) rfl ?_
  refine o_rd (rd_assign rfl) rfl ?_
  refine o_rd (rd_assign rfl) rfl ?_
  refine o_nil ?_
  refine n_K ?_
  refine s_seq ?_
  refine s_region0 (fun ops => ?_)
  refine o_rd (rd_move rfl) rfl ?_
  refine c_is rfl ((at_fn (a := aC) (t := t) (i := 1)).to (by rw [ht]) rfl) (by repeat (first | exact Split.nil | (apply Split.cons; next => repeat (first | exact Pick.here | apply Pick.there | apply Pick.app)) | (apply Split.chunk; next => repeat (first | exact PickL.here | exact PickL.last | apply PickL.there | apply PickL.app)) | (apply Split.lst; repeat (first | exact PickL.here | exact PickL.last | apply PickL.there | apply PickL.app)))) rfl (by repeat (first | exact Ap.nil | apply Ap.cons | apply Ap.app | exact Ap.one)) ?_
  refine o_rd (rd_move rfl) rfl ?_
  refine o_rd (rd_extract rfl rfl) rfl ?_
  refine o_rd (rd_extract rfl rfl) rfl ?_
  refine o_rd (rd_assign rfl) rfl ?_
  refine o_rd (rd_assign rfl) rfl ?_
  refine o_nil ?_
  refine n_K ?_
  refine s_seq ?_
  refine s_region0 (fun ops => ?_)
  refine o_rd (rd_move rfl) rfl ?_
  refine c_is rfl ((at_fn (a := aC) (t := t) (i := 2)).to (by rw [ht]) rfl) (by repeat (first | exact Split.nil | (apply Split.cons; next => repeat (first | exact Pick.here | apply Pick.there | apply Pick.app)) | (apply Split.chunk; next => repeat (first | exact PickL.here | exact PickL.last | apply PickL.there | apply PickL.app)) | (apply Split.lst; repeat (first | exact PickL.here | exact PickL.last | apply PickL.there | apply PickL.app)))) rfl (by repeat (first | exact Ap.nil | apply Ap.cons | apply Ap.app | exact Ap.one)) ?_
  refine o_rd (rd_move rfl) rfl ?_
  refine o_rd (rd_extract rfl rfl) rfl ?_
  refine o_rd (rd_extract rfl rfl) rfl ?_
  refine o_rd (rd_assign rfl) rfl ?_
  refine o_rd (rd_assign rfl) rfl ?_
  refine o_nil ?_
  refine n_K ?_
  refine s_seq ?_
  refine s_region [(3, 48), (7, 52), (11, 56), (15, 60)] rfl (fun ops y => ?_)
  refine o_rd (rd_move rfl) rfl ?_
  refine c_is rfl ((tlen_fn (a := aC) (t := t)).to (by rw [show t.u.list = t.ts.uses from rfl, ht]) rfl) (by repeat (first | exact Split.nil | (apply Split.cons; next => repeat (first | exact Pick.here | apply Pick.there | apply Pick.app)) | (apply Split.chunk; next => repeat (first | exact PickL.here | exact PickL.last | apply PickL.there | apply PickL.app)) | (apply Split.lst; repeat (first | exact PickL.here | exact PickL.last | apply PickL.there | apply PickL.app)))) rfl (by repeat (first | exact Ap.nil | apply Ap.cons | apply Ap.app | exact Ap.one)) ?_
  refine o_rd (rd_bin rfl rfl rfl) rfl ?_
  refine o_rd (rd_move rfl) rfl ?_
  refine' o_and (j := 3) (k := 2) y rfl rfl rfl rfl rfl rfl rfl (fun hg48 => ?_) ?_
  rotate_left
  · try simp at hg48
    refine o_g y rfl rfl ?_
    refine o_rd (rd_move rfl) rfl ?_
    refine o_g y rfl rfl ?_
    refine o_rd (rd_bin rfl rfl rfl) rfl ?_
    exact o_nil ⟨rfl, rfl, ⟨_, (by repeat (first | exact Split.nil | (apply Split.cons; next => repeat (first | exact Pick.here | apply Pick.there | apply Pick.app)) | (apply Split.chunk; next => repeat (first | exact PickL.here | exact PickL.last | apply PickL.there | apply PickL.app)) | (apply Split.lst; repeat (first | exact PickL.here | exact PickL.last | apply PickL.there | apply PickL.app))))⟩⟩
  refine o_rd (rd_move rfl) rfl ?_
  refine' o_and (j := 7) (k := 2) y rfl rfl rfl rfl rfl rfl rfl (fun hg52 => ?_) ?_
  rotate_left
  · try simp at hg52
    refine o_g y rfl rfl ?_
    refine o_rd (rd_move rfl) rfl ?_
    refine o_g y rfl rfl ?_
    refine o_rd (rd_bin rfl rfl rfl) rfl ?_
    exact o_nil ⟨rfl, rfl, ⟨_, (by repeat (first | exact Split.nil | (apply Split.cons; next => repeat (first | exact Pick.here | apply Pick.there | apply Pick.app)) | (apply Split.chunk; next => repeat (first | exact PickL.here | exact PickL.last | apply PickL.there | apply PickL.app)) | (apply Split.lst; repeat (first | exact PickL.here | exact PickL.last | apply PickL.there | apply PickL.app))))⟩⟩
  refine o_rd (rd_move rfl) rfl ?_
  refine' o_and (j := 11) (k := 2) y rfl rfl rfl rfl rfl rfl rfl (fun hg56 => ?_) ?_
  rotate_left
  · try simp at hg56
    refine o_g y rfl rfl ?_
    refine o_rd (rd_move rfl) rfl ?_
    refine o_g y rfl rfl ?_
    refine o_rd (rd_bin rfl rfl rfl) rfl ?_
    exact o_nil ⟨rfl, rfl, ⟨_, (by repeat (first | exact Split.nil | (apply Split.cons; next => repeat (first | exact Pick.here | apply Pick.there | apply Pick.app)) | (apply Split.chunk; next => repeat (first | exact PickL.here | exact PickL.last | apply PickL.there | apply PickL.app)) | (apply Split.lst; repeat (first | exact PickL.here | exact PickL.last | apply PickL.there | apply PickL.app))))⟩⟩
  refine o_rd (rd_move rfl) rfl ?_
  refine' o_and (j := 15) (k := 3) y rfl rfl rfl rfl rfl rfl rfl (fun hg60 => ?_) ?_
  rotate_left
  · try simp at hg60
    refine o_g y rfl rfl ?_
    refine o_rd (rd_move rfl) rfl ?_
    refine o_g y rfl rfl ?_
    refine c_is rfl ((tlost_fn (a := aC) (t := t)).to (by rw [show t.l.list = t.ts.lost from rfl, ht]) rfl) (by repeat (first | exact Split.nil | (apply Split.cons; next => repeat (first | exact Pick.here | apply Pick.there | apply Pick.app)) | (apply Split.chunk; next => repeat (first | exact PickL.here | exact PickL.last | apply PickL.there | apply PickL.app)) | (apply Split.lst; repeat (first | exact PickL.here | exact PickL.last | apply PickL.there | apply PickL.app)))) rfl (by repeat (first | exact Ap.nil | apply Ap.cons | apply Ap.app | exact Ap.one)) ?_
    refine o_g y rfl rfl ?_
    refine o_rd (rd_bin rfl rfl rfl) rfl ?_
    exact o_nil ⟨rfl, rfl, ⟨_, (by repeat (first | exact Split.nil | (apply Split.cons; next => repeat (first | exact Pick.here | apply Pick.there | apply Pick.app)) | (apply Split.chunk; next => repeat (first | exact PickL.here | exact PickL.last | apply PickL.there | apply PickL.app)) | (apply Split.lst; repeat (first | exact PickL.here | exact PickL.last | apply PickL.there | apply PickL.app))))⟩⟩
  refine o_rd (rd_assign rfl) rfl ?_
  refine o_nil ?_
  refine n_K ?_
  refine s_ret ?_
  refine leaf_is (rets1 Try.results5 (rv_tmp rfl)) ?_ (by repeat (first | exact Split.nil | (apply Split.cons; next => repeat (first | exact Pick.here | apply Pick.there | apply Pick.app)) | (apply Split.chunk; next => repeat (first | exact PickL.here | exact PickL.last | apply PickL.there | apply PickL.app)) | (apply Split.lst; repeat (first | exact PickL.here | exact PickL.last | apply PickL.there | apply PickL.app))))
  rfl
section
variable {c : Chip} {a : Nat} {e : Int}
theorem open_errA (ha : c.aC = a) (hb : 2 ≤ c.blocks.length ∧ c.blocks.length ≤ 1000) (ho : openC c = (e, ts0)) (he : e ≠ 0) : Does Try.prog 8 [ptr a] (chH c) (Is (.tuple #[.pointer none, .int .i64 e]) (chH c ++ [])) := by
  subst ha
  refine (open_fn hb).mono fun v H h => ?_
  unfold OpenR at h
  rw [ho, if_neg he] at h
  exact h
theorem format_errA (ha : c.aC = a) (hb : 2 ≤ c.blocks.length ∧ c.blocks.length ≤ 1000) (hm : mayE c 0 0 = e) (he : e ≠ 0) : Does Try.prog 12 [ptr a] (chH c) (Is (.tuple #[.pointer none, .int .i64 e]) (chH c ++ [])) := by
  subst ha
  refine (format_fn hb).mono fun v H h => ?_
  unfold FormatR at h
  rw [formatC_err hm he] at h
  rcases h with ⟨_, _, _, _, h⟩ | ⟨h1, h2, _⟩
  · exact absurd h he
  · exact ⟨h1, h2⟩
end
theorem none_fn {n : Int} {s : Sl Int} {d : Bool} : Does Try.prog 3 [.int .i64 n, s.val, .bool d] (s.hp tI ++ []) (fun v H => v = .bool true) := by
  refine fn_enter (n := 76) Try.func3 Try.ntmps3 rfl (Nat.le_of_ble_eq_true rfl) ?_
  refine s_seq ?_
  refine s_region0 (fun ops => ?_)
  refine o_rd (rd_assign rfl) rfl ?_
  refine o_nil ?_
  refine n_K ?_
  refine s_seq ?_
  refine s_seq ?_
  refine s_region0 (fun ops => ?_)
  refine c_is rfl (speaks_fn) (by repeat (first | exact Split.nil | (apply Split.cons; next => repeat (first | exact Pick.here | apply Pick.there | apply Pick.app)) | (apply Split.chunk; next => repeat (first | exact PickL.here | exact PickL.last | apply PickL.there | apply PickL.app)) | (apply Split.lst; repeat (first | exact PickL.here | exact PickL.last | apply PickL.there | apply PickL.app)))) rfl (by repeat (first | exact Ap.nil | apply Ap.cons | apply Ap.app | exact Ap.one)) ?_
  refine o_rd (rd_not rfl) rfl ?_
  refine o_nil ?_
  refine n_K ?_
  refine s_condF rfl ?_
  refine s_skip ?_
  refine n_K ?_
  refine s_seq ?_
  refine s_seq ?_
  refine s_region0 (fun ops => ?_)
  refine o_rd (rd_move rfl) rfl ?_
  refine o_rd (rd_lenS rfl) rfl ?_
  refine o_rd (rd_bin rfl rfl rfl) rfl ?_
  refine o_nil ?_
  refine n_K ?_
  refine s_cond rfl (fun c21 => ?_) (fun c21 => ?_)
  · try simp at c21
    refine s_seq ?_
    refine s_region0 (fun ops => ?_)
    refine o_rd (rd_assign rfl) rfl ?_
    refine o_nil ?_
    refine n_K ?_
    refine s_ret ?_
    refine r_K ?_
    exact leaf_r (rets1 Try.results3 (rv_tmp rfl)) (by rfl) (by repeat (first | exact Split.nil | (apply Split.cons; next => repeat (first | exact Pick.here | apply Pick.there | apply Pick.app)) | (apply Split.chunk; next => repeat (first | exact PickL.here | exact PickL.last | apply PickL.there | apply PickL.app)) | (apply Split.lst; repeat (first | exact PickL.here | exact PickL.last | apply PickL.there | apply PickL.app))))
  · try simp at c21
    refine s_skip ?_
    refine n_K ?_
    refine s_seq ?_
    refine s_region0 (fun ops => ?_)
    refine c_ex rfl (newPower_fn) (by repeat (first | exact Split.nil | (apply Split.cons; next => repeat (first | exact Pick.here | apply Pick.there | apply Pick.app)) | (apply Split.chunk; next => repeat (first | exact PickL.here | exact PickL.last | apply PickL.there | apply PickL.app)) | (apply Split.lst; repeat (first | exact PickL.here | exact PickL.last | apply PickL.there | apply PickL.app)))) rfl (fun v22 Y22 h22 => ?_)
    obtain ⟨p22, rfl, rfl⟩ := h22
    refine so_ap (by repeat (first | exact Ap.nil | apply Ap.cons | apply Ap.app | exact Ap.one)) ?_
    refine o_rd (rd_assign rfl) rfl ?_
    refine o_nil ?_
    refine n_K ?_
    refine s_seq ?_
    refine s_region0 (fun ops => ?_)
    refine o_rd (rd_move rfl) rfl ?_
    refine o_rd (rd_move rfl) rfl ?_
    refine o_rd (rd_move rfl) rfl ?_
    refine c_ex rfl (new2_fn (n := n) (s := s) (T := tI)) (by repeat (first | exact Split.nil | (apply Split.cons; next => repeat (first | exact Pick.here | apply Pick.there | apply Pick.app)) | (apply Split.chunk; next => repeat (first | exact PickL.here | exact PickL.last | apply PickL.there | apply PickL.app)) | (apply Split.lst; repeat (first | exact PickL.here | exact PickL.last | apply PickL.there | apply PickL.app)))) rfl (fun v27 Y27 h27 => ?_)
    rcases h27 with ⟨aC, aB, rfl, rfl, ok⟩ | ⟨rfl, rfl, ok⟩
    all_goals
      refine so_ap (by repeat (first | exact Ap.nil | apply Ap.cons | apply Ap.app | exact Ap.one)) ?_
      refine o_rd (rd_move rfl) rfl ?_
      refine o_rd (rd_extract rfl rfl) rfl ?_
      refine o_rd (rd_extract rfl rfl) rfl ?_
      refine o_rd (rd_assign rfl) rfl ?_
      refine o_rd (rd_assign rfl) rfl ?_
      refine o_nil ?_
      refine n_K ?_
      refine s_seq ?_
      refine s_seq ?_
      refine s_region0 (fun ops => ?_)
      refine o_rd (rd_move rfl) rfl ?_
      refine o_rd (rd_eqNil rfl rfl) rfl ?_
      refine o_nil ?_
      refine n_K ?_
      refine s_cond rfl (fun c31 => ?_) (fun c31 => ?_)
      · skip
        try (exfalso; (cases c31); done)
        all_goals
          refine s_seq ?_
          refine s_region0 (fun ops => ?_)
          refine o_rd (rd_assign rfl) rfl ?_
          refine o_nil ?_
          refine n_K ?_
          refine s_ret ?_
          refine r_K ?_
          exact leaf_r (rets1 Try.results3 (rv_tmp rfl)) (by rfl) (by repeat (first | exact Split.nil | (apply Split.cons; next => repeat (first | exact Pick.here | apply Pick.there | apply Pick.app)) | (apply Split.chunk; next => repeat (first | exact PickL.here | exact PickL.last | apply PickL.there | apply PickL.app)) | (apply Split.lst; repeat (first | exact PickL.here | exact PickL.last | apply PickL.there | apply PickL.app))))
      · skip
        try (exfalso; (cases c31); done)
        all_goals
          have hin := okNew_in ok
          have hlen : (newG (-1) 0 p22 aC aB n.toNat s.list).blocks.length = n.toNat := new_len
          have hm0 : mayE (newG (-1) 0 p22 aC aB n.toNat s.list) 2 0 = 0 := new_may (by omega) (by omega)
          refine s_skip ?_
          refine n_K ?_
          refine s_seq ?_
          refine s_region0 (fun ops => ?_)
          refine o_rd (rd_move rfl) rfl ?_
          refine c_is rfl (open_errA (c := newG (-1) 0 p22 aC aB n.toNat s.list) (a := aC) (e := 35) rfl (by rw [hlen]; omega) (new_open (by omega)) (by decide)) (by repeat (first | exact Split.nil | (apply Split.cons; next => repeat (first | exact Pick.here | apply Pick.there | apply Pick.app)) | (apply Split.chunk; next => repeat (first | exact PickL.here | exact PickL.last | apply PickL.there | apply PickL.app)) | (apply Split.lst; repeat (first | exact PickL.here | exact PickL.last | apply PickL.there | apply PickL.app)))) rfl (by repeat (first | exact Ap.nil | apply Ap.cons | apply Ap.app | exact Ap.one)) ?_
          refine o_rd (rd_move rfl) rfl ?_
          refine o_rd (rd_extract rfl rfl) rfl ?_
          refine o_rd (rd_extract rfl rfl) rfl ?_
          refine o_rd (rd_assign rfl) rfl ?_
          refine o_rd (rd_assign rfl) rfl ?_
          refine o_nil ?_
          refine n_K ?_
          refine s_seq ?_
          refine s_seq ?_
          refine s_region [(2, 39)] rfl (fun ops y => ?_)
          refine o_rd (rd_move rfl) rfl ?_
          refine o_rd (rd_neNil rfl rfl) rfl ?_
          refine o_rd (rd_move rfl) rfl ?_
          refine' o_or (j := 2) (k := 2) y rfl rfl rfl rfl rfl rfl rfl (fun hg39 => ?_) ?_
          rotate_left
          · try simp at hg39
            refine o_g y rfl rfl ?_
            refine o_rd (rd_move rfl) rfl ?_
            refine o_g y rfl rfl ?_
            refine o_rd (rd_bin rfl rfl rfl) rfl ?_
            exact o_nil ⟨rfl, rfl, ⟨_, (by repeat (first | exact Split.nil | (apply Split.cons; next => repeat (first | exact Pick.here | apply Pick.there | apply Pick.app)) | (apply Split.chunk; next => repeat (first | exact PickL.here | exact PickL.last | apply PickL.there | apply PickL.app)) | (apply Split.lst; repeat (first | exact PickL.here | exact PickL.last | apply PickL.there | apply PickL.app))))⟩⟩
          refine o_nil ?_
          refine n_K ?_
          refine s_condF rfl ?_
          refine s_skip ?_
          refine n_K ?_
          refine s_seq ?_
          refine s_region0 (fun ops => ?_)
          refine o_rd (rd_assign rfl) rfl ?_
          refine o_nil ?_
          refine n_K ?_
          refine s_seq ?_
          refine s_seq ?_
          refine s_region0 (fun ops => ?_)
          refine o_rd (rd_move rfl) rfl ?_
          refine o_nil ?_
          refine n_K ?_
          refine s_cond rfl (fun c43 => ?_) (fun c43 => ?_)
          · skip
            have hm1 : mayE { newG (-1) 0 p22 aC aB n.toNat s.list with dead := true } 0 0 = 31 := may_dead rfl rfl
            have hop := open_errA (c := { newG (-1) 0 p22 aC aB n.toNat s.list with dead := true }) (a := aC) rfl (by show 2 ≤ (newG (-1) 0 p22 aC aB n.toNat s.list).blocks.length ∧ (newG (-1) 0 p22 aC aB n.toNat s.list).blocks.length ≤ 1000; rw [hlen]; omega) (openC_err hm1 (by decide)) (by decide)
            have hfm := format_errA (c := { newG (-1) 0 p22 aC aB n.toNat s.list with dead := true }) (a := aC) rfl (by show 2 ≤ (newG (-1) 0 p22 aC aB n.toNat s.list).blocks.length ∧ (newG (-1) 0 p22 aC aB n.toNat s.list).blocks.length ≤ 1000; rw [hlen]; omega) hm1 (by decide)
            refine s_seq ?_
            refine s_region0 (fun ops => ?_)
            refine o_rd (rd_move rfl) rfl ?_
            refine c_is rfl (die_fn (c := newG (-1) 0 p22 aC aB n.toNat s.list)) (by repeat (first | exact Split.nil | (apply Split.cons; next => repeat (first | exact Pick.here | apply Pick.there | apply Pick.app)) | (apply Split.chunk; next => repeat (first | exact PickL.here | exact PickL.last | apply PickL.there | apply PickL.app)) | (apply Split.lst; repeat (first | exact PickL.here | exact PickL.last | apply PickL.there | apply PickL.app)))) rfl (by repeat (first | exact Ap.nil | apply Ap.cons | apply Ap.app | exact Ap.one)) ?_
            refine o_nil ?_
            refine n_K ?_
            refine s_region0 (fun ops => ?_)
            refine o_rd (rd_assign rfl) rfl ?_
            refine o_nil ?_
            refine n_K ?_
            refine s_seq ?_
            refine s_region0 (fun ops => ?_)
            refine o_rd (rd_move rfl) rfl ?_
            refine c_is rfl (hop) (by repeat (first | exact Split.nil | (apply Split.cons; next => repeat (first | exact Pick.here | apply Pick.there | apply Pick.app)) | (apply Split.chunk; next => repeat (first | exact PickL.here | exact PickL.last | apply PickL.there | apply PickL.app)) | (apply Split.lst; repeat (first | exact PickL.here | exact PickL.last | apply PickL.there | apply PickL.app)))) rfl (by repeat (first | exact Ap.nil | apply Ap.cons | apply Ap.app | exact Ap.one)) ?_
            refine o_rd (rd_move rfl) rfl ?_
            refine o_rd (rd_extract rfl rfl) rfl ?_
            refine o_rd (rd_extract rfl rfl) rfl ?_
            refine o_rd (rd_assign rfl) rfl ?_
            refine o_rd (rd_assign rfl) rfl ?_
            refine o_nil ?_
            refine n_K ?_
            refine s_seq ?_
            refine s_region0 (fun ops => ?_)
            refine o_rd (rd_move rfl) rfl ?_
            refine c_is rfl (hfm) (by repeat (first | exact Split.nil | (apply Split.cons; next => repeat (first | exact Pick.here | apply Pick.there | apply Pick.app)) | (apply Split.chunk; next => repeat (first | exact PickL.here | exact PickL.last | apply PickL.there | apply PickL.app)) | (apply Split.lst; repeat (first | exact PickL.here | exact PickL.last | apply PickL.there | apply PickL.app)))) rfl (by repeat (first | exact Ap.nil | apply Ap.cons | apply Ap.app | exact Ap.one)) ?_
            refine o_rd (rd_move rfl) rfl ?_
            refine o_rd (rd_extract rfl rfl) rfl ?_
            refine o_rd (rd_extract rfl rfl) rfl ?_
            refine o_rd (rd_assign rfl) rfl ?_
            refine o_rd (rd_assign rfl) rfl ?_
            refine o_nil ?_
            refine n_K ?_
            refine s_seq ?_
            refine s_region [(2, 62), (6, 66), (11, 71)] rfl (fun ops y => ?_)
            refine o_rd (rd_move rfl) rfl ?_
            refine o_rd (rd_eqNil rfl rfl) rfl ?_
            refine o_rd (rd_move rfl) rfl ?_
            refine' o_and (j := 2) (k := 2) y rfl rfl rfl rfl rfl rfl rfl (fun hg62 => ?_) ?_
            rotate_left
            · try simp at hg62
              refine o_g y rfl rfl ?_
              refine o_rd (rd_move rfl) rfl ?_
              refine o_g y rfl rfl ?_
              refine o_rd (rd_eqNil rfl rfl) rfl ?_
              exact o_nil ⟨rfl, rfl, ⟨_, (by repeat (first | exact Split.nil | (apply Split.cons; next => repeat (first | exact Pick.here | apply Pick.there | apply Pick.app)) | (apply Split.chunk; next => repeat (first | exact PickL.here | exact PickL.last | apply PickL.there | apply PickL.app)) | (apply Split.lst; repeat (first | exact PickL.here | exact PickL.last | apply PickL.there | apply PickL.app))))⟩⟩
            refine o_rd (rd_move rfl) rfl ?_
            refine' o_and (j := 6) (k := 3) y rfl rfl rfl rfl rfl rfl rfl (fun hg66 => ?_) ?_
            rotate_left
            · try simp at hg66
              refine o_g y rfl rfl ?_
              refine o_rd (rd_move rfl) rfl ?_
              refine o_g y rfl rfl ?_
              refine o_rd (rd_move rfl) rfl ?_
              refine o_g y rfl rfl ?_
              refine o_rd (rd_bin rfl rfl rfl) rfl ?_
              exact o_nil ⟨rfl, rfl, ⟨_, (by repeat (first | exact Split.nil | (apply Split.cons; next => repeat (first | exact Pick.here | apply Pick.there | apply Pick.app)) | (apply Split.chunk; next => repeat (first | exact PickL.here | exact PickL.last | apply PickL.there | apply PickL.app)) | (apply Split.lst; repeat (first | exact PickL.here | exact PickL.last | apply PickL.there | apply PickL.app))))⟩⟩
            refine o_rd (rd_move rfl) rfl ?_
            refine' o_and (j := 11) (k := 3) y rfl rfl rfl rfl rfl rfl rfl (fun hg71 => ?_) ?_
            rotate_left
            · try simp at hg71
              refine o_g y rfl rfl ?_
              refine o_rd (rd_move rfl) rfl ?_
              refine o_g y rfl rfl ?_
              refine o_rd (rd_move rfl) rfl ?_
              refine o_g y rfl rfl ?_
              refine o_rd (rd_bin rfl rfl rfl) rfl ?_
              exact o_nil ⟨rfl, rfl, ⟨_, (by repeat (first | exact Split.nil | (apply Split.cons; next => repeat (first | exact Pick.here | apply Pick.there | apply Pick.app)) | (apply Split.chunk; next => repeat (first | exact PickL.here | exact PickL.last | apply PickL.there | apply PickL.app)) | (apply Split.lst; repeat (first | exact PickL.here | exact PickL.last | apply PickL.there | apply PickL.app))))⟩⟩
            refine o_rd (rd_assign rfl) rfl ?_
            refine o_nil ?_
            refine n_K ?_
            refine s_ret ?_
            exact leaf_r (rets1 Try.results3 (rv_tmp rfl)) (by rfl) (by repeat (first | exact Split.nil | (apply Split.cons; next => repeat (first | exact Pick.here | apply Pick.there | apply Pick.app)) | (apply Split.chunk; next => repeat (first | exact PickL.here | exact PickL.last | apply PickL.there | apply PickL.app)) | (apply Split.lst; repeat (first | exact PickL.here | exact PickL.last | apply PickL.there | apply PickL.app))))
          · skip
            obtain ⟨he1, he2⟩ := erase_ends (c := { newG (-1) 0 p22 aC aB n.toNat s.list with after := max 0 (-1), keep := 0 }) (i := 2) hm0 rfl
            rw [show ({ newG (-1) 0 p22 aC aB n.toNat s.list with after := max 0 (-1), keep := 0 } : Chip).blocks.length = n.toNat from hlen] at he2
            have hac := erase_aC { newG (-1) 0 p22 aC aB n.toNat s.list with after := max 0 (-1), keep := 0 } 2
            have hm1 := may_off he1
            have hop := open_errA (a := aC) hac (by rw [he2]; omega) (openC_err hm1 (by decide)) (by decide)
            have hfm := format_errA (a := aC) hac (by rw [he2]; omega) hm1 (by decide)
            refine s_seq ?_
            refine s_region0 (fun ops => ?_)
            refine o_rd (rd_move rfl) rfl ?_
            refine c_is rfl (cut_fn (c := newG (-1) 0 p22 aC aB n.toNat s.list) (a := 0) (k := 0)) (by repeat (first | exact Split.nil | (apply Split.cons; next => repeat (first | exact Pick.here | apply Pick.there | apply Pick.app)) | (apply Split.chunk; next => repeat (first | exact PickL.here | exact PickL.last | apply PickL.there | apply PickL.app)) | (apply Split.lst; repeat (first | exact PickL.here | exact PickL.last | apply PickL.there | apply PickL.app)))) rfl (by repeat (first | exact Ap.nil | apply Ap.cons | apply Ap.app | exact Ap.one)) ?_
            refine o_nil ?_
            refine n_K ?_
            refine s_region0 (fun ops => ?_)
            refine o_rd (rd_move rfl) rfl ?_
            refine c_is rfl (erase_fn (c := { newG (-1) 0 p22 aC aB n.toNat s.list with after := max 0 (-1), keep := 0 })) (by repeat (first | exact Split.nil | (apply Split.cons; next => repeat (first | exact Pick.here | apply Pick.there | apply Pick.app)) | (apply Split.chunk; next => repeat (first | exact PickL.here | exact PickL.last | apply PickL.there | apply PickL.app)) | (apply Split.lst; repeat (first | exact PickL.here | exact PickL.last | apply PickL.there | apply PickL.app)))) rfl (by repeat (first | exact Ap.nil | apply Ap.cons | apply Ap.app | exact Ap.one)) ?_
            refine o_nil ?_
            refine n_K ?_
            refine s_seq ?_
            refine s_region0 (fun ops => ?_)
            refine o_rd (rd_move rfl) rfl ?_
            refine c_is rfl (hop) (by repeat (first | exact Split.nil | (apply Split.cons; next => repeat (first | exact Pick.here | apply Pick.there | apply Pick.app)) | (apply Split.chunk; next => repeat (first | exact PickL.here | exact PickL.last | apply PickL.there | apply PickL.app)) | (apply Split.lst; repeat (first | exact PickL.here | exact PickL.last | apply PickL.there | apply PickL.app)))) rfl (by repeat (first | exact Ap.nil | apply Ap.cons | apply Ap.app | exact Ap.one)) ?_
            refine o_rd (rd_move rfl) rfl ?_
            refine o_rd (rd_extract rfl rfl) rfl ?_
            refine o_rd (rd_extract rfl rfl) rfl ?_
            refine o_rd (rd_assign rfl) rfl ?_
            refine o_rd (rd_assign rfl) rfl ?_
            refine o_nil ?_
            refine n_K ?_
            refine s_seq ?_
            refine s_region0 (fun ops => ?_)
            refine o_rd (rd_move rfl) rfl ?_
            refine c_is rfl (hfm) (by repeat (first | exact Split.nil | (apply Split.cons; next => repeat (first | exact Pick.here | apply Pick.there | apply Pick.app)) | (apply Split.chunk; next => repeat (first | exact PickL.here | exact PickL.last | apply PickL.there | apply PickL.app)) | (apply Split.lst; repeat (first | exact PickL.here | exact PickL.last | apply PickL.there | apply PickL.app)))) rfl (by repeat (first | exact Ap.nil | apply Ap.cons | apply Ap.app | exact Ap.one)) ?_
            refine o_rd (rd_move rfl) rfl ?_
            refine o_rd (rd_extract rfl rfl) rfl ?_
            refine o_rd (rd_extract rfl rfl) rfl ?_
            refine o_rd (rd_assign rfl) rfl ?_
            refine o_rd (rd_assign rfl) rfl ?_
            refine o_nil ?_
            refine n_K ?_
            refine s_seq ?_
            refine s_region [(2, 62), (6, 66), (11, 71)] rfl (fun ops y => ?_)
            refine o_rd (rd_move rfl) rfl ?_
            refine o_rd (rd_eqNil rfl rfl) rfl ?_
            refine o_rd (rd_move rfl) rfl ?_
            refine' o_and (j := 2) (k := 2) y rfl rfl rfl rfl rfl rfl rfl (fun hg62 => ?_) ?_
            rotate_left
            · try simp at hg62
              refine o_g y rfl rfl ?_
              refine o_rd (rd_move rfl) rfl ?_
              refine o_g y rfl rfl ?_
              refine o_rd (rd_eqNil rfl rfl) rfl ?_
              exact o_nil ⟨rfl, rfl, ⟨_, (by repeat (first | exact Split.nil | (apply Split.cons; next => repeat (first | exact Pick.here | apply Pick.there | apply Pick.app)) | (apply Split.chunk; next => repeat (first | exact PickL.here | exact PickL.last | apply PickL.there | apply PickL.app)) | (apply Split.lst; repeat (first | exact PickL.here | exact PickL.last | apply PickL.there | apply PickL.app))))⟩⟩
            refine o_rd (rd_move rfl) rfl ?_
            refine' o_and (j := 6) (k := 3) y rfl rfl rfl rfl rfl rfl rfl (fun hg66 => ?_) ?_
            rotate_left
            · try simp at hg66
              refine o_g y rfl rfl ?_
              refine o_rd (rd_move rfl) rfl ?_
              refine o_g y rfl rfl ?_
              refine o_rd (rd_move rfl) rfl ?_
              refine o_g y rfl rfl ?_
              refine o_rd (rd_bin rfl rfl rfl) rfl ?_
              exact o_nil ⟨rfl, rfl, ⟨_, (by repeat (first | exact Split.nil | (apply Split.cons; next => repeat (first | exact Pick.here | apply Pick.there | apply Pick.app)) | (apply Split.chunk; next => repeat (first | exact PickL.here | exact PickL.last | apply PickL.there | apply PickL.app)) | (apply Split.lst; repeat (first | exact PickL.here | exact PickL.last | apply PickL.there | apply PickL.app))))⟩⟩
            refine o_rd (rd_move rfl) rfl ?_
            refine' o_and (j := 11) (k := 3) y rfl rfl rfl rfl rfl rfl rfl (fun hg71 => ?_) ?_
            rotate_left
            · try simp at hg71
              refine o_g y rfl rfl ?_
              refine o_rd (rd_move rfl) rfl ?_
              refine o_g y rfl rfl ?_
              refine o_rd (rd_move rfl) rfl ?_
              refine o_g y rfl rfl ?_
              refine o_rd (rd_bin rfl rfl rfl) rfl ?_
              exact o_nil ⟨rfl, rfl, ⟨_, (by repeat (first | exact Split.nil | (apply Split.cons; next => repeat (first | exact Pick.here | apply Pick.there | apply Pick.app)) | (apply Split.chunk; next => repeat (first | exact PickL.here | exact PickL.last | apply PickL.there | apply PickL.app)) | (apply Split.lst; repeat (first | exact PickL.here | exact PickL.last | apply PickL.there | apply PickL.app))))⟩⟩
            refine o_rd (rd_assign rfl) rfl ?_
            refine o_nil ?_
            refine n_K ?_
            refine s_ret ?_
            exact leaf_r (rets1 Try.results3 (rv_tmp rfl)) (by rfl) (by repeat (first | exact Split.nil | (apply Split.cons; next => repeat (first | exact Pick.here | apply Pick.there | apply Pick.app)) | (apply Split.chunk; next => repeat (first | exact PickL.here | exact PickL.last | apply PickL.there | apply PickL.app)) | (apply Split.lst; repeat (first | exact PickL.here | exact PickL.last | apply PickL.there | apply PickL.app))))
end Go.Proofs.Ytdfidkhbldedlaa
