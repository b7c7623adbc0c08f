/- Walks of the laws of tables. -/
import Derived.Test.YtdfidkhbldedlaaGreatT5
import Derived.Test.YtdfidkhbldedlaaGreatL0
namespace Go.Proofs.YtdfidkhbldedlaaGreat
open Go.K
set_option linter.unusedVariables false
set_option linter.unusedSimpArgs false
instance und31 : Und Tryz.prog 31 (.pointer 105) := ⟨Tryz.underlying31⟩
instance agg31 : Agg Tryz.prog 31 false := ⟨⟨_, Tryz.underlying31, rfl⟩⟩
instance siz31 : Siz Tryz.prog 31 1 := ⟨by kernel_rfl⟩
instance ent12 : Ent Tryz.prog 12 := ⟨fun _ _ => by kernel_rfl⟩

theorem new2_fn {pp : Nat} {n : Int} {s : Sl Int} {T : TypeId} : Does Tryz.prog 13 [ptr pp, .int .i64 n, s.val] ((pp, true, C [.bool false, .int .i64 (-1), .int .i64 0] tPw) :: (s.hp T ++ []))
    (fun v H => (∃ aC aB, v = .tuple #[ptr aC, .int .i64 0] ∧ H = chH (newG (-1) 0 pp aC aB n.toNat s.list) ++ (s.hp T ++ []) ∧ okNew n s.list = true) ∨ (v = .tuple #[.pointer none, .int .i64 1] ∧ H = (s.hp T ++ []) ∧ okNew n s.list = false)) :=
  (new_fn (off := false) (after := -1) (keep := 0)).mono fun v H h => by
    unfold NewR at h
    split at h
    · rename_i h0; obtain ⟨aC, aB, h1, h2⟩ := h; exact .inl ⟨aC, aB, h1, h2, h0⟩
    · rename_i h0; exact .inr ⟨h.1, h.2, by simpa using h0⟩
theorem new3_fn {pp b : Nat} : Does Tryz.prog 13 [ptr pp, .int .i64 16, .slice (some ⟨b, 0, none⟩) 1 1] [(pp, true, C [.bool false, .int .i64 (-1), .int .i64 0] tPw), (b, true, C [.int .i64 3] tI)]
    (fun v H => ∃ aC aB, v = .tuple #[ptr aC, .int .i64 0] ∧ H = chH (newG (-1) 0 pp aC aB 16 [3]) ++ [(b, true, C [.int .i64 3] tI)]) := by
  have h := new2_fn (pp := pp) (n := 16) (s := .own b [3] 1 [] ⟨by simp, Nat.le_refl _, by simp⟩) (T := tI)
  rw [Sl.hp_own] at h
  refine h.mono fun v H hh => ?_
  rcases hh with ⟨aC, aB, h1, h2, _⟩ | ⟨_, _, h3⟩
  · exact ⟨aC, aB, h1, h2⟩
  · exact absurd h3 (show ¬ okNew 16 [3] = false by decide)
theorem format_ok {c c' : Chip} {t : TS} (hb : 2 ≤ c.blocks.length ∧ c.blocks.length ≤ 1000) (hf : formatC c = (0, t, c')) : Does Tryz.prog 15 [ptr c.aC] (chH c) (fun v H => ∃ tb : Tab, v = .tuple #[ptr tb.b, .int .i64 0] ∧ H = tabH c.aC tb ++ (chH c' ++ []) ∧ tb.ts = t) :=
  (format_fn hb).mono fun v H h => by
    unfold FormatR at h
    rw [hf] at h
    rcases h with ⟨tb, h1, h2, h3, _⟩ | ⟨_, _, h3⟩
    · exact ⟨tb, h1, h2, h3⟩
    · exact absurd rfl h3
theorem at_ok {a : Nat} {t : Tab} {i : Int} : Does Tryz.prog 40 [ptr t.b, .int .i64 i] (tabH a t) (Is (.tuple #[.int .i64 (atT t.ts i).1, .bool (atT t.ts i).2]) (tabH a t)) := at_fn
theorem speaks_fn : Does Tryz.prog 12 [] [] (Is (.bool true) []) := by
  refine fn_enter (n := 65) Tryz.func12 Tryz.ntmps12 rfl (Nat.le_of_ble_eq_true rfl) ?_
  refine s_seq ?_
  refine s_region0 (fun ops => ?_)
  refine o_rd (rd_assign rfl) rfl ?_
  refine o_nil ?_
  refine n_K ?_
  refine s_seq ?_
  refine s_region0 (fun ops => ?_)
  refine c_ex rfl (newPower_fn) (by repeat (first | exact Split.nil | (apply Split.cons; next => repeat (first | exact Pick.here | apply Pick.there | apply Pick.app)) | (apply Split.chunk; next => repeat (first | exact PickL.here | exact PickL.last | apply PickL.there | apply PickL.app)) | (apply Split.lst; repeat (first | exact PickL.here | exact PickL.last | apply PickL.there | apply PickL.app)))) rfl (fun v12 Y12 h12 => ?_)
  obtain ⟨p12, rfl, rfl⟩ := h12
  refine so_ap (by repeat (first | exact Ap.nil | apply Ap.cons | apply Ap.app | exact Ap.one)) ?_
  refine o_bslice_k rfl rfl rfl rfl (fun b13 => ?_)
  refine c_ex rfl (new3_fn) (by repeat (first | exact Split.nil | (apply Split.cons; next => repeat (first | exact Pick.here | apply Pick.there | apply Pick.app)) | (apply Split.chunk; next => repeat (first | exact PickL.here | exact PickL.last | apply PickL.there | apply PickL.app)) | (apply Split.lst; repeat (first | exact PickL.here | exact PickL.last | apply PickL.there | apply PickL.app)))) rfl (fun v14 Y14 h14 => ?_)
  obtain ⟨aC, aB, rfl, rfl⟩ := h14
  refine so_ap (by repeat (first | exact Ap.nil | apply Ap.cons | apply Ap.app | exact Ap.one)) ?_
  refine o_rd (rd_move rfl) rfl ?_
  refine o_rd (rd_extract rfl rfl) rfl ?_
  refine o_rd (rd_extract rfl rfl) rfl ?_
  refine o_rd (rd_assign rfl) rfl ?_
  refine o_rd (rd_assign rfl) rfl ?_
  refine o_nil ?_
  refine n_K ?_
  refine s_seq ?_
  refine s_seq ?_
  refine s_region0 (fun ops => ?_)
  refine o_rd (rd_move rfl) rfl ?_
  refine o_rd (rd_eqNil rfl rfl) rfl ?_
  refine o_nil ?_
  refine n_K ?_
  refine s_condF rfl ?_
  refine s_skip ?_
  refine n_K ?_
  refine s_seq ?_
  refine s_region0 (fun ops => ?_)
  refine o_rd (rd_move rfl) rfl ?_
  obtain ⟨c', hc'⟩ := ex_format (aP := p12) (aC := aC) (aB := aB)
  refine c_ex rfl (format_ok (c := newG (-1) 0 p12 aC aB 16 [3]) (by rw [new_len]; decide) hc') (by repeat (first | exact Split.nil | (apply Split.cons; next => repeat (first | exact Pick.here | apply Pick.there | apply Pick.app)) | (apply Split.chunk; next => repeat (first | exact PickL.here | exact PickL.last | apply PickL.there | apply PickL.app)) | (apply Split.lst; repeat (first | exact PickL.here | exact PickL.last | apply PickL.there | apply PickL.app)))) rfl (fun v21 Y21 h21 => ?_)
  obtain ⟨t, rfl, rfl, ht⟩ := h21
  refine so_ap (by repeat (first | exact Ap.nil | apply Ap.cons | apply Ap.app | exact Ap.one)) ?_
  refine o_rd (rd_move rfl) rfl ?_
  refine o_rd (rd_extract rfl rfl) rfl ?_
  refine o_rd (rd_extract rfl rfl) rfl ?_
  refine o_rd (rd_assign rfl) rfl ?_
  refine o_rd (rd_assign rfl) rfl ?_
  refine o_nil ?_
  refine n_K ?_
  refine s_seq ?_
  refine s_seq ?_
  refine s_region [(2, 26)] rfl (fun ops y => ?_)
  refine o_rd (rd_move rfl) rfl ?_
  refine o_rd (rd_eqNil rfl rfl) rfl ?_
  refine o_rd (rd_move rfl) rfl ?_
  refine' o_or (j := 2) (k := 2) y rfl rfl rfl rfl rfl rfl rfl (fun hg26 => ?_) ?_
  rotate_left
  · try simp at hg26
    refine o_g y rfl rfl ?_
    refine o_rd (rd_move rfl) rfl ?_
    refine o_g y rfl rfl ?_
    refine o_rd (rd_bin rfl rfl rfl) rfl ?_
    exact o_nil ⟨rfl, rfl, ⟨_, (by repeat (first | exact Split.nil | (apply Split.cons; next => repeat (first | exact Pick.here | apply Pick.there | apply Pick.app)) | (apply Split.chunk; next => repeat (first | exact PickL.here | exact PickL.last | apply PickL.there | apply PickL.app)) | (apply Split.lst; repeat (first | exact PickL.here | exact PickL.last | apply PickL.there | apply PickL.app))))⟩⟩
  refine o_nil ?_
  refine n_K ?_
  refine s_condF rfl ?_
  refine s_skip ?_
  refine n_K ?_
  refine s_seq ?_
  refine s_region0 (fun ops => ?_)
  refine o_rd (rd_move rfl) rfl ?_
  refine c_is rfl ((at_fn (a := aC) (t := t) (i := 0)).to (by rw [ht]) rfl) (by repeat (first | exact Split.nil | (apply Split.cons; next => repeat (first | exact Pick.here | apply Pick.there | apply Pick.app)) | (apply Split.chunk; next => repeat (first | exact PickL.here | exact PickL.last | apply PickL.there | apply PickL.app)) | (apply Split.lst; repeat (first | exact PickL.here | exact PickL.last | apply PickL.there | apply PickL.app)))) rfl (by repeat (first | exact Ap.nil | apply Ap.cons | apply Ap.app | exact Ap.one)) ?_
  refine o_rd (rd_move rfl) rfl ?_
  refine o_rd (rd_extract rfl rfl) rfl ?_
  refine o_rd (rd_extract rfl rfl) rfl ?_
  refine o_rd (rd_assign rfl) rfl ?_
  refine o_rd (rd_assign rfl) rfl ?_
  refine o_nil ?_
  refine n_K ?_
  refine s_seq ?_
  refine s_region0 (fun ops => ?_)
  refine o_rd (rd_move rfl) rfl ?_
  refine c_is rfl ((at_fn (a := aC) (t := t) (i := 1)).to (by rw [ht]) rfl) (by repeat (first | exact Split.nil | (apply Split.cons; next => repeat (first | exact Pick.here | apply Pick.there | apply Pick.app)) | (apply Split.chunk; next => repeat (first | exact PickL.here | exact PickL.last | apply PickL.there | apply PickL.app)) | (apply Split.lst; repeat (first | exact PickL.here | exact PickL.last | apply PickL.there | apply PickL.app)))) rfl (by repeat (first | exact Ap.nil | apply Ap.cons | apply Ap.app | exact Ap.one)) ?_
  refine o_rd (rd_move rfl) rfl ?_
  refine o_rd (rd_extract rfl rfl) rfl ?_
  refine o_rd (rd_extract rfl rfl) rfl ?_
  refine o_rd (rd_assign rfl) rfl ?_
  refine o_rd (rd_assign rfl) rfl ?_
  refine o_nil ?_
  refine n_K ?_
  refine s_seq ?_
  refine s_region0 (fun ops => ?_)
  refine o_rd (rd_move rfl) rfl ?_
  refine c_is rfl ((at_fn (a := aC) (t := t) (i := 2)).to (by rw [ht]) rfl) (by repeat (first | exact Split.nil | (apply Split.cons; next => repeat (first | exact Pick.here | apply Pick.there | apply Pick.app)) | (apply Split.chunk; next => repeat (first | exact PickL.here | exact PickL.last | apply PickL.there | apply PickL.app)) | (apply Split.lst; repeat (first | exact PickL.here | exact PickL.last | apply PickL.there | apply PickL.app)))) rfl (by repeat (first | exact Ap.nil | apply Ap.cons | apply Ap.app | exact Ap.one)) ?_
  refine o_rd (rd_move rfl) rfl ?_
  refine o_rd (rd_extract rfl rfl) rfl ?_
  refine o_rd (rd_extract rfl rfl) rfl ?_
  refine o_rd (rd_assign rfl) rfl ?_
  refine o_rd (rd_assign rfl) rfl ?_
  refine o_nil ?_
  refine n_K ?_
  refine s_seq ?_
  refine s_region [(3, 48), (7, 52), (11, 56), (15, 60)] rfl (fun ops y => ?_)
  refine o_rd (rd_move rfl) rfl ?_
  refine c_is rfl ((tlen_fn (a := aC) (t := t)).to (by rw [show t.u.list = t.ts.uses from rfl, ht]) rfl) (by repeat (first | exact Split.nil | (apply Split.cons; next => repeat (first | exact Pick.here | apply Pick.there | apply Pick.app)) | (apply Split.chunk; next => repeat (first | exact PickL.here | exact PickL.last | apply PickL.there | apply PickL.app)) | (apply Split.lst; repeat (first | exact PickL.here | exact PickL.last | apply PickL.there | apply PickL.app)))) rfl (by repeat (first | exact Ap.nil | apply Ap.cons | apply Ap.app | exact Ap.one)) ?_
  refine o_rd (rd_bin rfl rfl rfl) rfl ?_
  refine o_rd (rd_move rfl) rfl ?_
  refine' o_and (j := 3) (k := 2) y rfl rfl rfl rfl rfl rfl rfl (fun hg48 => ?_) ?_
  rotate_left
  · try simp at hg48
    refine o_g y rfl rfl ?_
    refine o_rd (rd_move rfl) rfl ?_
    refine o_g y rfl rfl ?_
    refine o_rd (rd_bin rfl rfl rfl) rfl ?_
    exact o_nil ⟨rfl, rfl, ⟨_, (by repeat (first | exact Split.nil | (apply Split.cons; next => repeat (first | exact Pick.here | apply Pick.there | apply Pick.app)) | (apply Split.chunk; next => repeat (first | exact PickL.here | exact PickL.last | apply PickL.there | apply PickL.app)) | (apply Split.lst; repeat (first | exact PickL.here | exact PickL.last | apply PickL.there | apply PickL.app))))⟩⟩
  refine o_rd (rd_move rfl) rfl ?_
  refine' o_and (j := 7) (k := 2) y rfl rfl rfl rfl rfl rfl rfl (fun hg52 => ?_) ?_
  rotate_left
  · try simp at hg52
    refine o_g y rfl rfl ?_
    refine o_rd (rd_move rfl) rfl ?_
    refine o_g y rfl rfl ?_
    refine o_rd (rd_bin rfl rfl rfl) rfl ?_
    exact o_nil ⟨rfl, rfl, ⟨_, (by repeat (first | exact Split.nil | (apply Split.cons; next => repeat (first | exact Pick.here | apply Pick.there | apply Pick.app)) | (apply Split.chunk; next => repeat (first | exact PickL.here | exact PickL.last | apply PickL.there | apply PickL.app)) | (apply Split.lst; repeat (first | exact PickL.here | exact PickL.last | apply PickL.there | apply PickL.app))))⟩⟩
  refine o_rd (rd_move rfl) rfl ?_
  refine' o_and (j := 11) (k := 2) y rfl rfl rfl rfl rfl rfl rfl (fun hg56 => ?_) ?_
  rotate_left
  · try simp at hg56
    refine o_g y rfl rfl ?_
    refine o_rd (rd_move rfl) rfl ?_
    refine o_g y rfl rfl ?_
    refine o_rd (rd_bin rfl rfl rfl) rfl ?_
    exact o_nil ⟨rfl, rfl, ⟨_, (by repeat (first | exact Split.nil | (apply Split.cons; next => repeat (first | exact Pick.here | apply Pick.there | apply Pick.app)) | (apply Split.chunk; next => repeat (first | exact PickL.here | exact PickL.last | apply PickL.there | apply PickL.app)) | (apply Split.lst; repeat (first | exact PickL.here | exact PickL.last | apply PickL.there | apply PickL.app))))⟩⟩
  refine o_rd (rd_move rfl) rfl ?_
  refine' o_and (j := 15) (k := 3) y rfl rfl rfl rfl rfl rfl rfl (fun hg60 => ?_) ?_
  rotate_left
  · try simp at hg60
    refine o_g y rfl rfl ?_
    refine o_rd (rd_move rfl) rfl ?_
    refine o_g y rfl rfl ?_
    refine c_is rfl ((tlost_fn (a := aC) (t := t)).to (by rw [show t.l.list = t.ts.lost from rfl, ht]) rfl) (by repeat (first | exact Split.nil | (apply Split.cons; next => repeat (first | exact Pick.here | apply Pick.there | apply Pick.app)) | (apply Split.chunk; next => repeat (first | exact PickL.here | exact PickL.last | apply PickL.there | apply PickL.app)) | (apply Split.lst; repeat (first | exact PickL.here | exact PickL.last | apply PickL.there | apply PickL.app)))) rfl (by repeat (first | exact Ap.nil | apply Ap.cons | apply Ap.app | exact Ap.one)) ?_
    refine o_g y rfl rfl ?_
    refine o_rd (rd_bin rfl rfl rfl) rfl ?_
    exact o_nil ⟨rfl, rfl, ⟨_, (by repeat (first | exact Split.nil | (apply Split.cons; next => repeat (first | exact Pick.here | apply Pick.there | apply Pick.app)) | (apply Split.chunk; next => repeat (first | exact PickL.here | exact PickL.last | apply PickL.there | apply PickL.app)) | (apply Split.lst; repeat (first | exact PickL.here | exact PickL.last | apply PickL.there | apply PickL.app))))⟩⟩
  refine o_rd (rd_assign rfl) rfl ?_
  refine o_nil ?_
  refine n_K ?_
  refine s_ret ?_
  refine leaf_is (rets1 Tryz.results12 (rv_tmp rfl)) ?_ (by repeat (first | exact Split.nil | (apply Split.cons; next => repeat (first | exact Pick.here | apply Pick.there | apply Pick.app)) | (apply Split.chunk; next => repeat (first | exact PickL.here | exact PickL.last | apply PickL.there | apply PickL.app)) | (apply Split.lst; repeat (first | exact PickL.here | exact PickL.last | apply PickL.there | apply PickL.app))))
  rfl
end Go.Proofs.YtdfidkhbldedlaaGreat
