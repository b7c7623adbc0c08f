/- Walks: a call of a law's script. -/
import Derived.Test.YtdfidkhbldedlaaGreatT5
import Derived.Test.YtdfidkhbldedlaaGreatM0
namespace Go.Proofs.YtdfidkhbldedlaaGreat
open Go.K
set_option linter.unusedVariables false
set_option linter.unusedSimpArgs false
instance agg39 : Agg Tryz.prog 39 true := ⟨⟨_, Tryz.underlying39, rfl⟩⟩
instance siz39 : Siz Tryz.prog 39 5 := ⟨by kernel_rfl⟩
instance fld39_0 : Fld Tryz.prog 39 0 0 := ⟨⟨_, _, 0, Tryz.underlying39, rfl, by kernel_rfl, rfl⟩⟩
instance fld39_1 : Fld Tryz.prog 39 1 1 := ⟨⟨_, _, 0, Tryz.underlying39, rfl, by kernel_rfl, rfl⟩⟩
instance ent19 : Ent Tryz.prog 19 := ⟨fun _ _ => by kernel_rfl⟩
abbrev tOp : TypeId := 39

/-- Losing a block: the error, the table, the chip. -/
def LoseD (t : TS) (c : Chip) (b : Int) (r : Int × TS × Chip) : Prop :=
  (spareB t c.blocks.length b = true → ∃ l, l.Perm (t.lost ++ [b]) ∧ r = keepC t t.uses l c) ∧ (spareB t c.blocks.length b = false → r = (1, t, c))
def SwapD (t : TS) (c : Chip) (i b : Int) (r : Int × TS × Chip) : Prop :=
  (((atT t i).2 && spareB t c.blocks.length b) = true → ∃ l, l.Perm (t.lost ++ [at0 t.uses i]) ∧ r = keepC t (t.uses.set i.toNat b) l c) ∧ (((atT t i).2 && spareB t c.blocks.length b) = false → r = (1, t, c))
def evn (k : Int) : Bool := decide (ibits .and .i64 k 1 = 0)
def DoD (t : TS) (c : Chip) (o : OpV) (b : Int) (r : Int × TS × Chip) : Prop := (evn o.kind = true → LoseD t c b r) ∧ (evn o.kind = false → SwapD t c o.logical b r)
/-- What a table's method gives. -/
def TabR (a : Nat) (t : Tab) (D : Int × TS × Chip → Prop) (v : Value) (H : Hp) : Prop :=
  ∃ (t' : Tab) (e : Int) (c' : Chip), t'.b = t.b ∧ v = .int .i64 e ∧ H = tabH a t' ++ (chH c' ++ []) ∧ c'.aC = a ∧ D (e, t'.ts, c')
theorem tab_same {a : Nat} {t : Tab} {c : Chip} {D : Int × TS × Chip → Prop} (ha : c.aC = a) (h : D (1, t.ts, c)) : TabR a t D (.int .i64 1) (tabH a t ++ (chH c ++ [])) := ⟨t, 1, c, rfl, rfl, rfl, ha, h⟩
theorem tab_kept {a : Nat} {t : Tab} {c : Chip} {u l : List Int} {D : Int × TS × Chip → Prop} {v : Value} {H : Hp} (ha : c.aC = a) (h : KeptR a t c u l v H) (hD : ∀ l', l'.Perm l → D (keepC t.ts u l' c)) : TabR a t D v H := by
  obtain ⟨t', l', h1, h2, rfl, rfl, h3⟩ := h
  refine ⟨t', _, _, h1, rfl, rfl, (keepC_aC _ _ _ _).trans ha, ?_⟩
  rw [h3]
  exact hD l' h2
section
variable {c : Chip} {a : Nat} {t : Tab}
theorem loseD_fn (ha : c.aC = a) {b : Int} (hu : t.u.list.length ≤ 1000) (hl : t.l.list.length ≤ 11) (hn : 0 ≤ t.next) (har : 0 ≤ t.area ∧ t.area ≤ 1) : Does Tryz.prog 55 [ptr t.b, .int .i64 b] (tabH a t ++ (chH c ++ [])) (TabR a t (LoseD t.ts c b)) :=
  (loseM_fn ha hu hl hn har).mono fun v H h => by
    split at h
    · rename_i hs
      exact tab_kept ha h (fun l' hp => ⟨fun _ => ⟨l', hp, rfl⟩, fun h2 => by rw [hs] at h2; cases h2⟩)
    · rename_i hs
      obtain ⟨rfl, rfl⟩ := h
      exact tab_same ha ⟨fun h2 => absurd h2 hs, fun _ => rfl⟩
theorem swapD_fn (ha : c.aC = a) {i b : Int} (hu : t.u.list.length ≤ 1000) (hl : t.l.list.length ≤ 11) (hn : 0 ≤ t.next) (har : 0 ≤ t.area ∧ t.area ≤ 1) : Does Tryz.prog 56 [ptr t.b, .int .i64 i, .int .i64 b] (tabH a t ++ (chH c ++ [])) (TabR a t (SwapD t.ts c i b)) :=
  (swap_fn ha hu hl hn har).mono fun v H h => by
    split at h
    · rename_i hs
      exact tab_kept ha h (fun l' hp => ⟨fun _ => ⟨l', hp, rfl⟩, fun h2 => by rw [hs] at h2; cases h2⟩)
    · rename_i hs
      obtain ⟨rfl, rfl⟩ := h
      exact tab_same ha ⟨fun h2 => absurd h2 hs, fun _ => rfl⟩
theorem TabR.op {o : OpV} {b : Int} {v : Value} {H : Hp} (D : Int × TS × Chip → Prop) (hD : ∀ r, D r → DoD t.ts c o b r) (h : TabR a t D v H) : TabR a t (DoD t.ts c o b) v H := by
  obtain ⟨t', e, c', h1, h2, h3, h4, h5⟩ := h
  exact ⟨t', e, c', h1, h2, h3, h4, hD _ h5⟩
theorem do_fn (ha : c.aC = a) {o : OpV} {b : Int} (hu : t.u.list.length ≤ 1000) (hl : t.l.list.length ≤ 11) (hn : 0 ≤ t.next) (har : 0 ≤ t.area ∧ t.area ≤ 1) : Does Tryz.prog 19 [ptr t.b, .agg (opC o).toArray, .int .i64 b] (tabH a t ++ (chH c ++ [])) (TabR a t (DoD t.ts c o b)) := by
  refine fn_enter (n := 19) Tryz.func19 Tryz.ntmps19 rfl (Nat.le_of_ble_eq_true rfl) ?_
  refine s_seq ?_
  refine s_region0 (fun ops => ?_)
  refine o_box rfl rfl (fun b4 => ?_)
  refine o_rd (rd_assign rfl) rfl ?_
  refine o_nil ?_
  refine n_K ?_
  refine s_seq ?_
  refine s_seq ?_
  refine s_region0 (fun ops => ?_)
  refine o_rd (rd_field rfl) rfl ?_
  refine o_rd (rd_ld rfl (by repeat' first | exact List.Mem.head _ | apply List.Mem.tail | apply List.mem_append_right) rfl) rfl ?_
  refine o_rd (rd_bin rfl rfl rfl) rfl ?_
  refine o_rd (rd_bin rfl rfl rfl) rfl ?_
  refine o_nil ?_
  refine n_K ?_
  refine s_cond rfl (fun c10 => ?_) (fun c10 => ?_)
  · skip
    have hk : evn o.kind = true := c10
    refine s_seq ?_
    refine s_region0 (fun ops => ?_)
    refine o_rd (rd_move rfl) rfl ?_
    refine o_rd (rd_move rfl) rfl ?_
    refine c_ex rfl (loseD_fn (t := t) ha hu hl hn har) (by repeat (first | exact Split.nil | (apply Split.cons; next => repeat (first | exact Pick.here | apply Pick.there | apply Pick.app)) | (apply Split.chunk; next => repeat (first | exact PickL.here | exact PickL.last | apply PickL.there | apply PickL.app)) | (apply Split.lst; repeat (first | exact PickL.here | exact PickL.last | apply PickL.there | apply PickL.app)))) rfl (fun v13 Y13 h13 => ?_)
    obtain ⟨t', e, c', hb', rfl, rfl, ha', hd⟩ := h13
    refine so_ap (by repeat (first | exact Ap.nil | apply Ap.cons | apply Ap.app | exact Ap.one)) ?_
    refine o_rd (rd_assign rfl) rfl ?_
    refine o_nil ?_
    refine n_K ?_
    refine s_ret ?_
    refine r_K ?_
    exact leaf_r (rets1 Tryz.results19 (rv_tmp rfl)) (by exact ⟨t', e, c', hb', rfl, rfl, ha', ⟨fun _ => hd, fun h => by rw [hk] at h; cases h⟩⟩) (by repeat (first | exact Split.nil | (apply Split.cons; next => repeat (first | exact Pick.here | apply Pick.there | apply Pick.app)) | (apply Split.chunk; next => repeat (first | exact PickL.here | exact PickL.last | apply PickL.there | apply PickL.app)) | (apply Split.lst; repeat (first | exact PickL.here | exact PickL.last | apply PickL.there | apply PickL.app))))
  · skip
    have hk : evn o.kind = false := c10
    refine s_skip ?_
    refine n_K ?_
    refine s_seq ?_
    refine s_region0 (fun ops => ?_)
    refine o_rd (rd_move rfl) rfl ?_
    refine o_rd (rd_field rfl) rfl ?_
    refine o_rd (rd_ld rfl (by repeat' first | exact List.Mem.head _ | apply List.Mem.tail | apply List.mem_append_right) rfl) rfl ?_
    refine o_rd (rd_move rfl) rfl ?_
    refine c_ex rfl (swapD_fn (t := t) ha hu hl hn har) (by repeat (first | exact Split.nil | (apply Split.cons; next => repeat (first | exact Pick.here | apply Pick.there | apply Pick.app)) | (apply Split.chunk; next => repeat (first | exact PickL.here | exact PickL.last | apply PickL.there | apply PickL.app)) | (apply Split.lst; repeat (first | exact PickL.here | exact PickL.last | apply PickL.there | apply PickL.app)))) rfl (fun v18 Y18 h18 => ?_)
    obtain ⟨t', e, c', hb', rfl, rfl, ha', hd⟩ := h18
    refine so_ap (by repeat (first | exact Ap.nil | apply Ap.cons | apply Ap.app | exact Ap.one)) ?_
    refine o_rd (rd_assign rfl) rfl ?_
    refine o_nil ?_
    refine n_K ?_
    refine s_ret ?_
    exact leaf_r (rets1 Tryz.results19 (rv_tmp rfl)) (by exact ⟨t', e, c', hb', rfl, rfl, ha', ⟨fun h => (by rw [hk] at h; cases h), fun _ => hd⟩⟩) (by repeat (first | exact Split.nil | (apply Split.cons; next => repeat (first | exact Pick.here | apply Pick.there | apply Pick.app)) | (apply Split.chunk; next => repeat (first | exact PickL.here | exact PickL.last | apply PickL.there | apply PickL.app)) | (apply Split.lst; repeat (first | exact PickL.here | exact PickL.last | apply PickL.there | apply PickL.app))))
end
end Go.Proofs.YtdfidkhbldedlaaGreat
