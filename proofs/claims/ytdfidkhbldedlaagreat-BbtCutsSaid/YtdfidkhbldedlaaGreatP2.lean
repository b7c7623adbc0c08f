/- Walks of bytes.Join, of package crc. -/
import Derived.Test.YtdfidkhbldedlaaGreatP1
namespace Go.Proofs.YtdfidkhbldedlaaGreat
open Go.K
set_option linter.unusedVariables false
set_option linter.unusedSimpArgs false
instance und139 : Und Tryz.prog 139 (.slice 118) := ⟨Tryz.underlying139⟩
instance agg139 : Agg Tryz.prog 139 false := ⟨⟨_, Tryz.underlying139, rfl⟩⟩
instance siz139 : Siz Tryz.prog 139 1 := ⟨by kernel_rfl⟩
instance und144 : Und Tryz.prog 144 (.int .u32) := ⟨Tryz.underlying144⟩
instance agg144 : Agg Tryz.prog 144 false := ⟨⟨_, Tryz.underlying144, rfl⟩⟩
instance siz144 : Siz Tryz.prog 144 1 := ⟨by kernel_rfl⟩
instance ent94 : Ent Tryz.prog 94 := ⟨fun _ _ => by kernel_rfl⟩
instance ent96 : Ent Tryz.prog 96 := ⟨fun _ _ => by kernel_rfl⟩
instance ent110 : Ent Tryz.prog 110 := ⟨fun _ _ => by kernel_rfl⟩
instance ent111 : Ent Tryz.prog 111 := ⟨fun _ _ => by kernel_rfl⟩

/-- The pieces of slices of bytes, one behind the other. -/
@[irreducible] def partsH (l : List (Sl By)) : Hp := l.flatMap (·.hp tU8)
theorem partsH_nil : partsH [] = [] := by unfold partsH; rfl
theorem partsH_cons (s : Sl By) (l : List (Sl By)) : partsH (s :: l) = s.hp tU8 ++ partsH l := by unfold partsH; rfl
theorem parts_sub : ∀ {l : List (Sl By)} {i : Nat} {s : Sl By}, l[i]? = some s → Sub (s.hp tU8) (partsH l)
  | [], _, _, h => by simp at h
  | x :: l, 0, s, h => by
    simp at h; subst h
    rw [partsH_cons]; exact fun y hy => List.mem_append_left _ hy
  | x :: l, i + 1, s, h => by
    have := parts_sub (l := l) (i := i) (s := s) (by simpa using h)
    rw [partsH_cons]; exact fun y hy => List.mem_append_right _ (this y hy)
theorem sub_mid {q : Hp} {l : List (Sl By)} {i : Nat} {s : Sl By} {A B : Hp} (h : l[i]? = some s) (hp : PickL (partsH l) A B) : Sub (s.hp tU8) A := (parts_sub h).trans hp.toSub
instance mnz : Mnz Tryz.prog 117 118 := ⟨_, #[3], Tryz.func117, by kernel_rfl, rfl, by kernel_rfl, by kernel_rfl⟩
theorem sliceBuf {P : Program} {E : Env} {H : Hp} {t e : TypeId} {x lo : Operand} {b l i : Nat} [ht : Und P t (.slice e)] [hz : Siz P e 1] (hx : ev E x = some (.slice (some ⟨b, 0, none⟩) l l)) (hlo : ev E lo = some (.int .i64 (i : Int))) (hb : i ≤ l) :
    Rd P E H (.slice t x (some lo) none none) (.slice (some ⟨b, if l = i then 0 else i, none⟩) (l - i) (l - i)) := by
  have := rd_sliceLo (P := P) (H := H) (t := t) (e := e) (sz := 1) hx hlo (by omega)
  by_cases h : l = i
  · simpa [h] using this
  · simpa [h, add_none] using this
theorem rd_addz {P : Program} {E : Env} {H : Hp} {t u : TypeId} {x y : Operand} {i : Int} (hx : ev E x = some (.int .i64 i)) (hy : ev E y = some (.int .i64 ((0 : Nat) : Int))) (hb : -9223372036854775808 ≤ i ∧ i ≤ 9223372036854775807) : Rd P E H (.binOp .add t x y u) (.int .i64 i) := by
  have := rd_add64 (P := P) (H := H) (t := t) (u := u) hx hy (by omega)
  rwa [show i + ((0 : Nat) : Int) = i by omega] at this
theorem join_leaf {b : Nat} {cs : List Value} {xs : List By} {L : Hp} {q : List (Sl By)} (hx : xs = joinB q) (hn : (joinB q).length ≤ cs.length) (hb : (joinB q).length ≤ 70000000000000) :
    ∃ s : Sl By, Value.slice (some ⟨b, 0, none⟩) (joinB q).length (joinB q).length = s.val ∧ ((b, true, C (bufC cs xs) tU8) :: L) = s.hp tU8 ++ L ∧ s.list = joinB q ∧ s.isOwn = true := by
  subst hx
  refine ⟨.own b (joinB q) (joinB q).length (cs.drop (joinB q).length) ⟨by simp, Nat.le_refl _, by omega⟩, rfl, ?_, rfl, rfl⟩
  rw [Sl.hp_own]
  rfl
theorem join_fn {q : Sl (Sl By)} (hl : (joinB q.list).length ≤ 70000000000000) : Does Tryz.prog 110 [q.val, .slice none 0 0] (q.hp tSB ++ (partsH q.list ++ [])) (fun v H => ∃ s : Sl By, v = s.val ∧ H = s.hp tU8 ++ (q.hp tSB ++ (partsH q.list ++ [])) ∧ s.list = joinB q.list ∧ s.isOwn = true) := by
  have hsm := q.small
  refine fn_enter (n := 92) Tryz.func110 Tryz.ntmps110 rfl (Nat.le_of_ble_eq_true rfl) ?_
  refine s_seq ?_
  refine s_region0 (fun ops => ?_)
  refine o_rd (rd_assign rfl) rfl ?_
  refine o_nil ?_
  refine n_K ?_
  refine s_seq ?_
  refine s_seq ?_
  refine s_region0 (fun ops => ?_)
  refine o_rd (rd_move rfl) rfl ?_
  refine o_rd (rd_lenS rfl) rfl ?_
  refine o_rd (rd_bin rfl rfl rfl) rfl ?_
  refine o_nil ?_
  refine n_K ?_
  refine s_cond rfl (fun c14 => ?_) (fun c14 => ?_)
  · simp only [decide_eq_true_eq, decide_eq_false_iff_not] at c14
    refine s_seq ?_
    refine s_region0 (fun ops => ?_)
    refine o_bslice_k rfl rfl rfl rfl (fun b15 => ?_)
    refine so_eq (own0 (α := By) (b := b15) (T := tU8)) ?_
    refine o_rd (rd_assign rfl) rfl ?_
    refine o_nil ?_
    refine n_K ?_
    refine s_ret ?_
    refine r_K ?_
    exact leaf_r (rets1 Tryz.results110 (rv_tmp rfl)) (by refine ⟨mt By b15, rfl, rfl, ?_, rfl⟩; rw [List.length_eq_zero_iff.1 (show q.list.length = 0 by omega)]; rfl) (by repeat (first | exact Split.nil | (apply Split.cons; next => repeat (first | exact Pick.here | apply Pick.there | apply Pick.app)) | (apply Split.chunk; next => repeat (first | exact PickL.here | exact PickL.last | apply PickL.there | apply PickL.app)) | (apply Split.lst; repeat (first | exact PickL.here | exact PickL.last | apply PickL.there | apply PickL.app))))
  · simp only [decide_eq_true_eq, decide_eq_false_iff_not] at c14
    refine s_skip ?_
    refine n_K ?_
    refine s_seq ?_
    refine s_seq ?_
    refine s_region0 (fun ops => ?_)
    refine o_rd (rd_move rfl) rfl ?_
    refine o_rd (rd_lenS rfl) rfl ?_
    refine o_rd (rd_bin rfl rfl rfl) rfl ?_
    refine o_nil ?_
    refine n_K ?_
    refine s_cond rfl (fun c18 => ?_) (fun c18 => ?_)
    · simp only [decide_eq_true_eq, decide_eq_false_iff_not] at c18
      obtain ⟨s, hs⟩ : ∃ s, q.list = [s] := List.length_eq_one_iff.1 (by omega)
      have hg : q.list[0]? = some s := by (rw [hs]; rfl)
      have hjl : joinB q.list = s.list := by (rw [hs]; simp [joinB])
      refine s_seq ?_
      refine s_region0 (fun ops => ?_)
      refine o_rd (rd_move rfl) rfl ?_
      refine o_rd (rd_ixSl rfl rfl (by omega)) rfl ?_
      refine o_rd (rd_ldSl (o := 0) (i := 0) (v := s.val) rfl (by repeat (first | exact PickL.here | exact PickL.last | apply PickL.there | apply PickL.app)) hg rfl rfl) rfl ?_
      refine so_eq (nil_hp (α := By) (T := tU8)) ?_
      refine o_append_sl (s := (Sl.nil : Sl By)) (new := s.list) (m := s.list.length) rfl rfl (by repeat (first | exact PickL.here | exact PickL.last | apply PickL.there | apply PickL.app)) rfl (src_sub (sub_mid (q := []) hg (by repeat (first | exact PickL.here | exact PickL.last | apply PickL.there | apply PickL.app)))) rfl rfl rfl rfl (by rw [show (Sl.nil : Sl By).list.length = 0 from rfl, ← hjl]; omega) rfl (fun s' hs1 hs2 => ?_)
      refine o_rd (rd_assign rfl) rfl ?_
      refine o_nil ?_
      refine n_K ?_
      refine s_ret ?_
      refine r_K ?_
      exact leaf_r (rets1 Tryz.results110 (rv_tmp rfl)) (by refine ⟨s', rfl, rfl, ?_, hs2⟩; rw [hs1, hjl]; rfl) (by repeat (first | exact Split.nil | (apply Split.cons; next => repeat (first | exact Pick.here | apply Pick.there | apply Pick.app)) | (apply Split.chunk; next => repeat (first | exact PickL.here | exact PickL.last | apply PickL.there | apply PickL.app)) | (apply Split.lst; repeat (first | exact PickL.here | exact PickL.last | apply PickL.there | apply PickL.app))))
    · simp only [decide_eq_true_eq, decide_eq_false_iff_not] at c18
      have hne : 0 < q.list.length := by omega
      refine s_skip ?_
      refine n_K ?_
      refine s_seq ?_
      refine s_region0 (fun ops => ?_)
      refine o_rd (rd_assign rfl) rfl ?_
      refine o_nil ?_
      refine n_K ?_
      refine s_seq ?_
      refine s_seq ?_
      refine s_region0 (fun ops => ?_)
      refine o_rd (rd_move rfl) rfl ?_
      refine o_rd (rd_lenS rfl) rfl ?_
      refine o_rd (rd_bin rfl rfl rfl) rfl ?_
      refine o_nil ?_
      refine n_K ?_
      refine s_condF rfl ?_
      refine s_skip ?_
      refine n_K ?_
      refine s_seq ?_
      refine s_seq ?_
      refine s_region0 (fun ops => ?_)
      refine o_rd (rd_move rfl) rfl ?_
      refine o_rd (rd_lenS rfl) rfl ?_
      refine o_rd (rd_move rfl) rfl ?_
      refine o_nil ?_
      refine n_K ?_
      refine s_block ?_
      refine s_loop2E [0, 1, 42, 43] (by repeat' first | exact Keep2.nil | apply Keep2.cons rfl) (fun (i : Nat) => [(44, .int .i64 i), (5, .int .i64 (joinB (q.list.take i)).length)]) (fun (i : Nat) => i ≤ q.list.length) (fun (i : Nat) => q.list.length - i) ((0 : Nat)) (Nat.zero_le _) (by repeat' first | exact Keep.nil | refine Keep.cons rfl ?_) ?_
      rintro i h0
      have hle := joinB_le q.list i
      refine s_seq ?_
      refine s_region0 (fun ops => ?_)
      refine o_rd (rd_bin rfl rfl rfl) rfl ?_
      refine o_nil ?_
      refine n_K ?_
      refine s_seq ?_
      refine s_cond rfl (fun c45 => ?_) (fun c45 => ?_)
      · simp at c45
        obtain ⟨s, hg⟩ : ∃ s, q.list[i]? = some s := ⟨_, List.getElem?_eq_getElem c45⟩
        have hst := joinB_take hg
        have hle2 := joinB_le q.list (i + 1)
        rw [hst, List.length_append] at hle2
        refine s_skip ?_
        refine n_K ?_
        refine s_seq ?_
        refine s_block ?_
        refine s_seq ?_
        refine s_region0 (fun ops => ?_)
        refine o_rd (rd_ixSl rfl rfl (by omega)) rfl ?_
        refine o_rd (rd_ldSl (o := 0) (v := s.val) rfl (by repeat (first | exact PickL.here | exact PickL.last | apply PickL.there | apply PickL.app)) hg rfl rfl) rfl ?_
        refine o_rd (rd_assign rfl) rfl ?_
        refine o_nil ?_
        refine n_K ?_
        refine s_seq ?_
        refine s_seq ?_
        refine s_region0 (fun ops => ?_)
        refine o_rd (rd_move rfl) rfl ?_
        refine o_rd (rd_lenS rfl) rfl ?_
        refine o_rd (rd_move rfl) rfl ?_
        refine o_rd (rd_sub64 rfl rfl (by omega)) rfl ?_
        refine o_rd (rd_bin rfl rfl rfl) rfl ?_
        refine o_nil ?_
        refine n_K ?_
        refine s_cond rfl (fun c52 => ?_) (fun c52 => ?_)
        · simp at c52
          omega
        · simp at c52
          refine s_skip ?_
          refine n_K ?_
          refine s_region0 (fun ops => ?_)
          refine o_rd (rd_move rfl) rfl ?_
          refine o_rd (rd_move rfl) rfl ?_
          refine o_rd (rd_lenS rfl) rfl ?_
          refine o_rd (show Rd _ _ _ _ (.int .i64 (joinB (q.list.take (i + 1))).length) from by (rw [hst, List.length_append]; push_cast; exact rd_add64 rfl rfl (by omega))) rfl ?_
          refine o_rd (rd_assign rfl) rfl ?_
          refine o_nil ?_
          refine n_blk ?_
          refine n_K ?_
          refine s_region0 (fun ops => ?_)
          refine o_rd (rd_add64 rfl rfl (by omega)) rfl ?_
          refine o_rd (rd_move rfl) rfl ?_
          refine o_nil ?_
          refine n_K ?_
          exact ⟨i + 1, (by first | omega | trivial | (refine ⟨?_, ?_⟩ <;> omega)), (by omega), (by repeat' first | exact Keep.nil | refine Keep.cons rfl ?_), (by repeat' first | exact Keep.nil | refine Keep.cons rfl ?_), _, (by repeat (first | exact Split.nil | (apply Split.cons; next => repeat (first | exact Pick.here | apply Pick.there | apply Pick.app)) | (apply Split.chunk; next => repeat (first | exact PickL.here | exact PickL.last | apply PickL.there | apply PickL.app)) | (apply Split.lst; repeat (first | exact PickL.here | exact PickL.last | apply PickL.there | apply PickL.app))))⟩
      · simp at c45
        have hall : joinB (q.list.take i) = joinB q.list := by rw [List.take_of_length_le (by omega)]
        rw [hall]
        refine s_exit ?_
        refine x_K ?_
        refine x_K ?_
        refine x_blk ?_
        refine n_K ?_
        refine s_seq ?_
        refine s_region0 (fun ops => ?_)
        refine o_rd (rd_move rfl) rfl ?_
        refine o_mnz (m := (joinB q.list).length) rfl (by omega) rfl (fun b60 cs hcs => ?_)
        refine o_rd (rd_move rfl) rfl ?_
        refine o_rd (rd_move rfl) rfl ?_
        refine o_rd (rd_slice3 rfl rfl rfl (by omega)) rfl ?_
        refine o_rd (rd_assign rfl) rfl ?_
        refine o_nil ?_
        refine n_K ?_
        refine s_seq ?_
        refine s_region0 (fun ops => ?_)
        refine o_rd (rd_move rfl) rfl ?_
        refine o_rd (rd_move rfl) rfl ?_
        refine o_rd (rd_ixSl rfl rfl (by omega)) rfl ?_
        refine o_rd (rd_ldSl (o := 0) (i := 0) (v := (q.list[0]'hne).val) rfl (by repeat (first | exact PickL.here | exact PickL.last | apply PickL.there | apply PickL.app)) (List.getElem?_eq_getElem hne) rfl rfl) rfl ?_
        have hb0 : bufC cs [] = cs := (by simp [bufC, cells])
        have hg0 : q.list[0]? = some (q.list[0]'hne) := List.getElem?_eq_getElem hne
        have hst0 := joinB_take hg0
        rw [show joinB (q.list.take 0) = [] from rfl, List.nil_append] at hst0
        have hle0 := joinB_le q.list (0 + 1)
        rw [hst0] at hle0
        have hsp0 := buf_step (cs := cs) (xs := []) (ys := (q.list[0]'hne).list) (o := 0) (by rw [List.length_nil, Nat.zero_add]; omega) (.inr rfl)
        rw [hb0, List.nil_append] at hsp0
        refine o_copySrc rfl rfl (src_sub (sub_mid (q := []) hg0 (by repeat (first | exact PickL.here | exact PickL.last | apply PickL.there | apply PickL.app)))) (by omega) (by repeat' first | exact Upd.here | apply Upd.there | apply Upd.app) hsp0 (cells_one _) rfl ?_
        refine o_rd (rd_assign rfl) rfl ?_
        refine o_nil ?_
        refine n_K ?_
        refine s_seq ?_
        refine s_seq ?_
        refine s_region0 (fun ops => ?_)
        refine o_rd (rd_move rfl) rfl ?_
        refine o_rd (show Rd _ _ _ _ (q.drop 1 tSB).val from rd_dropSl (i := 1) tSB rfl rfl (by omega) rfl) rfl ?_
        refine o_rd (rd_lenS rfl) rfl ?_
        refine o_rd (rd_move rfl) rfl ?_
        refine o_nil ?_
        refine n_K ?_
        refine s_block ?_
        have hdl : (q.drop 1 tSB).list.length = q.list.length - 1 := by rw [Sl.drop_list, List.length_drop]
        rw [← hst0]
        refine s_loop2 [1, 8, 70, 71] (by repeat' first | exact Keep2.nil | apply Keep2.cons rfl) (fun (j : Nat) => [(72, .int .i64 j), (9, .int .i64 (joinB (q.list.take (j + 1))).length)]) (fun (j : Nat) => (b60, true, C (bufC cs (joinB (q.list.take (j + 1)))) tU8) :: (q.hp tSB ++ (partsH q.list ++ []))) (fun (j : Nat) => j + 1 ≤ q.list.length) (fun (j : Nat) => q.list.length - j) ((0 : Nat)) (by omega) (by repeat' first | exact Keep.nil | refine Keep.cons rfl ?_) (by repeat (first | exact Split.nil | (apply Split.cons; next => repeat (first | exact Pick.here | apply Pick.there | apply Pick.app)) | (apply Split.chunk; next => repeat (first | exact PickL.here | exact PickL.last | apply PickL.there | apply PickL.app)) | (apply Split.lst; repeat (first | exact PickL.here | exact PickL.last | apply PickL.there | apply PickL.app)))) ?_
        rintro j h1
        refine s_seq ?_
        refine s_region0 (fun ops => ?_)
        refine o_rd (rd_bin rfl rfl rfl) rfl ?_
        refine o_nil ?_
        refine n_K ?_
        refine s_seq ?_
        refine s_cond rfl (fun c73 => ?_) (fun c73 => ?_)
        · simp only [decide_eq_true_eq, decide_eq_false_iff_not] at c73
          have hj : j + 1 < q.list.length := by omega
          obtain ⟨s, hg⟩ : ∃ s, q.list[j + 1]? = some s := ⟨_, List.getElem?_eq_getElem hj⟩
          have hg' : (q.drop 1 tSB).list[j]? = some s := (by rw [Sl.drop_list, List.getElem?_drop, Nat.add_comm 1 j]; exact hg)
          have hst := joinB_take hg
          have hle1 := joinB_le q.list (j + 1 + 1)
          rw [hst, List.length_append] at hle1
          have hb1 := buf_step (cs := cs) (xs := joinB (q.list.take (j + 1))) (ys := s.list) (o := if (joinB q.list).length = (joinB (q.list.take (j + 1))).length then 0 else (joinB (q.list.take (j + 1))).length) (by omega) (by split; (left; exact ⟨List.length_eq_zero_iff.1 (by omega), rfl⟩); (right; rfl))
          rw [← hst] at hb1
          refine s_skip ?_
          refine n_K ?_
          refine s_seq ?_
          refine s_block ?_
          refine s_seq ?_
          refine s_region0 (fun ops => ?_)
          refine o_rd (rd_ixSl rfl rfl (by omega)) rfl ?_
          refine o_rd (rd_ldSub (o := 0) (v := s.val) rfl (by rw [Sl.drop_hp]; exact PickL.toSub (by repeat (first | exact PickL.here | exact PickL.last | apply PickL.there | apply PickL.app))) hg' rfl rfl) rfl ?_
          refine o_rd (rd_assign rfl) rfl ?_
          refine o_nil ?_
          refine n_K ?_
          refine s_seq ?_
          refine s_region0 (fun ops => ?_)
          refine o_rd (rd_move rfl) rfl ?_
          refine o_rd (rd_move rfl) rfl ?_
          refine o_rd (rd_move rfl) rfl ?_
          refine o_rd (rd_sliceLo rfl rfl (by omega)) rfl ?_
          refine o_rd (rd_move rfl) rfl ?_
          refine o_copy_nil rfl rfl rfl ?_
          refine o_rd (show Rd _ _ _ _ (.int .i64 (joinB (q.list.take (j + 1))).length) from rd_addz rfl rfl (by omega)) rfl ?_
          refine o_rd (rd_assign rfl) rfl ?_
          refine o_nil ?_
          refine n_K ?_
          refine s_region0 (fun ops => ?_)
          refine o_rd (rd_move rfl) rfl ?_
          refine o_rd (rd_move rfl) rfl ?_
          refine o_rd (rd_move rfl) rfl ?_
          refine o_rd (show Rd _ _ _ _ (.slice (some ⟨b60, if (joinB q.list).length = (joinB (q.list.take (j + 1))).length then 0 else (joinB (q.list.take (j + 1))).length, none⟩) ((joinB q.list).length - (joinB (q.list.take (j + 1))).length) ((joinB q.list).length - (joinB (q.list.take (j + 1))).length)) from sliceBuf rfl rfl (by omega)) rfl ?_
          refine o_rd (rd_move rfl) rfl ?_
          refine o_copySrc rfl rfl (src_sub (sub_mid (q := []) hg (by repeat (first | exact PickL.here | exact PickL.last | apply PickL.there | apply PickL.app)))) (by omega) (by repeat' first | exact Upd.here | apply Upd.there | apply Upd.app) hb1 (cells_one _) rfl ?_
          refine o_rd (show Rd _ _ _ _ (.int .i64 (joinB (q.list.take (j + 1 + 1))).length) from by (rw [hst, List.length_append]; push_cast; exact rd_add64 rfl rfl (by omega))) rfl ?_
          refine o_rd (rd_assign rfl) rfl ?_
          refine o_nil ?_
          refine n_blk ?_
          refine n_K ?_
          refine s_region0 (fun ops => ?_)
          refine o_rd (rd_add64 rfl rfl (by omega)) rfl ?_
          refine o_rd (rd_move rfl) rfl ?_
          refine o_nil ?_
          refine n_K ?_
          exact ⟨j + 1, (by first | omega | trivial | (refine ⟨?_, ?_⟩ <;> omega)), (by omega), (by repeat' first | exact Keep.nil | refine Keep.cons rfl ?_), (by repeat' first | exact Keep.nil | refine Keep.cons rfl ?_), _, (by repeat (first | exact Split.nil | (apply Split.cons; next => repeat (first | exact Pick.here | apply Pick.there | apply Pick.app)) | (apply Split.chunk; next => repeat (first | exact PickL.here | exact PickL.last | apply PickL.there | apply PickL.app)) | (apply Split.lst; repeat (first | exact PickL.here | exact PickL.last | apply PickL.there | apply PickL.app))))⟩
        · simp only [decide_eq_true_eq, decide_eq_false_iff_not] at c73
          refine s_exit ?_
          refine x_K ?_
          refine x_K ?_
          refine x_blk ?_
          refine n_K ?_
          refine s_seq ?_
          refine s_region0 (fun ops => ?_)
          refine o_rd (rd_move rfl) rfl ?_
          refine o_rd (rd_assign rfl) rfl ?_
          refine o_nil ?_
          refine n_K ?_
          refine s_ret ?_
          exact leaf_r (rets1 Tryz.results110 (rv_tmp rfl)) (by exact join_leaf (q := q.list) (cs := cs) (b := b60) (show joinB (q.list.take (j + 1)) = _ from by rw [List.take_of_length_le (by omega)]) hcs hl) (by repeat (first | exact Split.nil | (apply Split.cons; next => repeat (first | exact Pick.here | apply Pick.there | apply Pick.app)) | (apply Split.chunk; next => repeat (first | exact PickL.here | exact PickL.last | apply PickL.there | apply PickL.app)) | (apply Split.lst; repeat (first | exact PickL.here | exact PickL.last | apply PickL.there | apply PickL.app))))
theorem pjoin_fn {q : Sl (Sl By)} (hl : (joinB q.list).length ≤ 70000000000000) : Does Tryz.prog 94 [q.val] (q.hp tSB ++ (partsH q.list ++ [])) (fun v H => ∃ s : Sl By, v = s.val ∧ H = s.hp tU8 ++ (q.hp tSB ++ (partsH q.list ++ [])) ∧ s.list = joinB q.list ∧ s.isOwn = true) := by
  refine fn_enter (n := 5) Tryz.func94 Tryz.ntmps94 rfl (Nat.le_of_ble_eq_true rfl) ?_
  refine s_seq ?_
  refine s_region0 (fun ops => ?_)
  refine o_rd (rd_assign rfl) rfl ?_
  refine o_nil ?_
  refine n_K ?_
  refine s_seq ?_
  refine s_region0 (fun ops => ?_)
  refine o_rd (rd_move rfl) rfl ?_
  refine c_ex rfl (join_fn hl) (by repeat (first | exact Split.nil | (apply Split.cons; next => repeat (first | exact Pick.here | apply Pick.there | apply Pick.app)) | (apply Split.chunk; next => repeat (first | exact PickL.here | exact PickL.last | apply PickL.there | apply PickL.app)) | (apply Split.lst; repeat (first | exact PickL.here | exact PickL.last | apply PickL.there | apply PickL.app)))) rfl (fun v4 Y4 h4 => ?_)
  obtain ⟨s4, rfl, rfl, hs4, ho4⟩ := h4
  refine so_ap (by repeat (first | exact Ap.nil | apply Ap.cons | apply Ap.app | exact Ap.one)) ?_
  refine o_rd (rd_assign rfl) rfl ?_
  refine o_nil ?_
  refine n_K ?_
  refine s_ret ?_
  exact leaf_r (rets1 Tryz.results94 (rv_tmp rfl)) (by exact ⟨s4, rfl, rfl, hs4, ho4⟩) (by repeat (first | exact Split.nil | (apply Split.cons; next => repeat (first | exact Pick.here | apply Pick.there | apply Pick.app)) | (apply Split.chunk; next => repeat (first | exact PickL.here | exact PickL.last | apply PickL.there | apply PickL.app)) | (apply Split.lst; repeat (first | exact PickL.here | exact PickL.last | apply PickL.there | apply PickL.app))))
theorem on_fn {c : BitVec 32} {q : Sl (Sl By)} : Does Tryz.prog 111 [uv c, q.val] (q.hp tSB ++ (partsH q.list ++ [])) (Is (uv (crcOn c (q.list.map (·.list)))) (q.hp tSB ++ (partsH q.list ++ []))) := by
  have hsm := q.small
  refine fn_enter (n := 42) Tryz.func111 Tryz.ntmps111 rfl (Nat.le_of_ble_eq_true rfl) ?_
  refine s_seq ?_
  refine s_region0 (fun ops => ?_)
  refine o_rd (rd_assign rfl) rfl ?_
  refine o_nil ?_
  refine n_K ?_
  refine s_seq ?_
  refine s_region0 (fun ops => ?_)
  refine o_rd (rd_move rfl) rfl ?_
  refine o_rd (rd_compl32 rfl) rfl ?_
  refine o_rd (rd_assign rfl) rfl ?_
  refine o_nil ?_
  refine n_K ?_
  refine s_seq ?_
  refine s_seq ?_
  refine s_region0 (fun ops => ?_)
  refine o_rd (rd_move rfl) rfl ?_
  refine o_rd (rd_lenS rfl) rfl ?_
  refine o_rd (rd_move rfl) rfl ?_
  refine o_nil ?_
  refine n_K ?_
  refine s_block ?_
  refine s_loop2E [12, 13] (by repeat' first | exact Keep2.nil | apply Keep2.cons rfl) (fun (i : Nat) => [(14, .int .i64 i), (5, uv (((q.list.take i).map (·.list)).foldl crcL (~~~c)))]) (fun (i : Nat) => i ≤ q.list.length) (fun (i : Nat) => q.list.length - i) ((0 : Nat)) (Nat.zero_le _) (by repeat' first | exact Keep.nil | refine Keep.cons rfl ?_) ?_
  rintro i h0
  refine s_seq ?_
  refine s_region0 (fun ops => ?_)
  refine o_rd (rd_bin rfl rfl rfl) rfl ?_
  refine o_nil ?_
  refine n_K ?_
  refine s_seq ?_
  refine s_cond rfl (fun c15 => ?_) (fun c15 => ?_)
  · simp only [decide_eq_true_eq, decide_eq_false_iff_not] at c15
    obtain ⟨s, hg⟩ : ∃ s, q.list[i]? = some s := ⟨_, List.getElem?_eq_getElem (by omega)⟩
    have hst : ((q.list.take (i + 1)).map (·.list)).foldl crcL (~~~c) = crcL (((q.list.take i).map (·.list)).foldl crcL (~~~c)) s.list := (by rw [List.map_take, List.map_take]; exact foldl_take (by rw [List.getElem?_map, hg]; rfl))
    have hss := s.small
    generalize ha : ((q.list.take i).map (·.list)).foldl crcL (~~~c) = a at hst ⊢
    refine s_skip ?_
    refine n_K ?_
    refine s_seq ?_
    refine s_block ?_
    refine s_seq ?_
    refine s_region0 (fun ops => ?_)
    refine o_rd (rd_ixSl rfl rfl (by omega)) rfl ?_
    refine o_rd (rd_ldSl (o := 0) (v := s.val) rfl (by repeat (first | exact PickL.here | exact PickL.last | apply PickL.there | apply PickL.app)) hg rfl rfl) rfl ?_
    refine o_rd (rd_assign rfl) rfl ?_
    refine o_nil ?_
    refine n_K ?_
    refine s_seq ?_
    refine s_region0 (fun ops => ?_)
    refine o_rd (rd_move rfl) rfl ?_
    refine o_rd (rd_lenS rfl) rfl ?_
    refine o_rd (rd_move rfl) rfl ?_
    refine o_nil ?_
    refine n_K ?_
    refine s_block ?_
    refine s_loop2E [12, 13, 14, 18, 19] (by repeat' first | exact Keep2.nil | apply Keep2.cons rfl) (fun (j : Nat) => [(20, .int .i64 j), (5, uv (crcL a (s.list.take j)))]) (fun (j : Nat) => j ≤ s.list.length) (fun (j : Nat) => s.list.length - j) ((0 : Nat)) (Nat.zero_le _) (by repeat' first | exact Keep.nil | refine Keep.cons rfl ?_) ?_
    rintro j h1
    refine s_seq ?_
    refine s_region0 (fun ops => ?_)
    refine o_rd (rd_bin rfl rfl rfl) rfl ?_
    refine o_nil ?_
    refine n_K ?_
    refine s_seq ?_
    refine s_cond rfl (fun c21 => ?_) (fun c21 => ?_)
    · simp only [decide_eq_true_eq, decide_eq_false_iff_not] at c21
      obtain ⟨y, hy⟩ : ∃ y, s.list[j]? = some y := ⟨_, List.getElem?_eq_getElem (by omega)⟩
      have hst2 := crcL_take (c := a) hy
      generalize he : crcL a (s.list.take j) = e at hst2 ⊢
      refine s_skip ?_
      refine n_K ?_
      refine s_seq ?_
      refine s_block ?_
      refine s_seq ?_
      refine s_region0 (fun ops => ?_)
      refine o_rd (rd_ixSl rfl rfl (by omega)) rfl ?_
      refine o_rd (rd_ldSub (o := 0) (v := bv y) rfl (sub_mid (q := []) hg (by repeat (first | exact PickL.here | exact PickL.last | apply PickL.there | apply PickL.app))) hy rfl rfl) rfl ?_
      refine o_rd (rd_assign rfl) rfl ?_
      refine o_nil ?_
      refine n_K ?_
      refine s_seq ?_
      refine s_region0 (fun ops => ?_)
      refine o_rd (rd_move rfl) rfl ?_
      refine o_rd (rd_move rfl) rfl ?_
      refine o_rd (rd_by32 rfl) rfl ?_
      refine o_rd (rd_xor32 rfl rfl) rfl ?_
      refine o_rd (rd_assign rfl) rfl ?_
      refine o_nil ?_
      refine n_K ?_
      refine s_seq ?_
      refine s_region0 (fun ops => ?_)
      refine o_rd (rd_move rfl) rfl ?_
      refine o_nil ?_
      refine n_K ?_
      refine s_block ?_
      refine s_loop2E [12, 13, 14, 18, 19, 20] (by repeat' first | exact Keep2.nil | apply Keep2.cons rfl) (fun (k : Nat) => [(28, .int .i64 k), (5, uv (crcK (e ^^^ y.setWidth 32) k))]) (fun (k : Nat) => k ≤ 8) (fun (k : Nat) => 8 - k) ((0 : Nat)) (Nat.zero_le _) (by repeat' first | exact Keep.nil | refine Keep.cons rfl ?_) ?_
      rintro k h2
      have hck : crcK (e ^^^ y.setWidth 32) (k + 1) = crc1 (crcK (e ^^^ y.setWidth 32) k) := rfl
      have hk8 : crcB e y = crcK (e ^^^ y.setWidth 32) 8 := rfl
      generalize hz : crcK (e ^^^ y.setWidth 32) k = z at hck ⊢
      refine s_seq ?_
      refine s_region0 (fun ops => ?_)
      refine o_rd (rd_bin rfl rfl rfl) rfl ?_
      refine o_nil ?_
      refine n_K ?_
      refine s_seq ?_
      refine s_cond rfl (fun c29 => ?_) (fun c29 => ?_)
      · simp only [decide_eq_true_eq, decide_eq_false_iff_not] at c29
        refine s_skip ?_
        refine n_K ?_
        refine s_seq ?_
        refine s_block ?_
        refine s_region0 (fun ops => ?_)
        refine o_rd (rd_move rfl) rfl ?_
        refine o_rd (rd_shr32u rfl rfl) rfl ?_
        refine o_rd (rd_move rfl) rfl ?_
        refine o_rd (rd_and32 (b := 1) rfl rfl) rfl ?_
        refine o_rd (rd_neg32 rfl) rfl ?_
        refine o_rd (rd_and32 (a := polyV) rfl rfl) rfl ?_
        refine o_rd (show Rd _ _ _ _ (uv (crcK (e ^^^ y.setWidth 32) (k + 1))) from by (rw [hck]; exact rd_xor32 rfl rfl)) rfl ?_
        refine o_rd (rd_assign rfl) rfl ?_
        refine o_nil ?_
        refine n_blk ?_
        refine n_K ?_
        refine s_region0 (fun ops => ?_)
        refine o_rd (rd_add64 rfl rfl (by omega)) rfl ?_
        refine o_rd (rd_move rfl) rfl ?_
        refine o_nil ?_
        refine n_K ?_
        exact ⟨k + 1, (by first | omega | trivial | (refine ⟨?_, ?_⟩ <;> omega)), (by omega), (by repeat' first | exact Keep.nil | refine Keep.cons rfl ?_), (by repeat' first | exact Keep.nil | refine Keep.cons rfl ?_), _, (by repeat (first | exact Split.nil | (apply Split.cons; next => repeat (first | exact Pick.here | apply Pick.there | apply Pick.app)) | (apply Split.chunk; next => repeat (first | exact PickL.here | exact PickL.last | apply PickL.there | apply PickL.app)) | (apply Split.lst; repeat (first | exact PickL.here | exact PickL.last | apply PickL.there | apply PickL.app))))⟩
      · simp only [decide_eq_true_eq, decide_eq_false_iff_not] at c29
        refine s_exit ?_
        refine x_K ?_
        refine x_K ?_
        refine x_blk ?_
        refine n_blk ?_
        refine n_K ?_
        refine s_region0 (fun ops => ?_)
        refine o_rd (rd_add64 rfl rfl (by omega)) rfl ?_
        refine o_rd (rd_move rfl) rfl ?_
        refine o_nil ?_
        refine n_K ?_
        have hk : k = 8 := by omega
        subst hk
        rw [← hz, ← hk8, ← hst2]
        exact ⟨j + 1, (by first | omega | trivial | (refine ⟨?_, ?_⟩ <;> omega)), (by omega), (by repeat' first | exact Keep.nil | refine Keep.cons rfl ?_), (by repeat' first | exact Keep.nil | refine Keep.cons rfl ?_), _, (by repeat (first | exact Split.nil | (apply Split.cons; next => repeat (first | exact Pick.here | apply Pick.there | apply Pick.app)) | (apply Split.chunk; next => repeat (first | exact PickL.here | exact PickL.last | apply PickL.there | apply PickL.app)) | (apply Split.lst; repeat (first | exact PickL.here | exact PickL.last | apply PickL.there | apply PickL.app))))⟩
    · simp only [decide_eq_true_eq, decide_eq_false_iff_not] at c21
      refine s_exit ?_
      refine x_K ?_
      refine x_K ?_
      refine x_blk ?_
      refine n_blk ?_
      refine n_K ?_
      refine s_region0 (fun ops => ?_)
      refine o_rd (rd_add64 rfl rfl (by omega)) rfl ?_
      refine o_rd (rd_move rfl) rfl ?_
      refine o_nil ?_
      refine n_K ?_
      have hj : j = s.list.length := by omega
      rw [hj, List.take_length, ← hst]
      exact ⟨i + 1, (by first | omega | trivial | (refine ⟨?_, ?_⟩ <;> omega)), (by omega), (by repeat' first | exact Keep.nil | refine Keep.cons rfl ?_), (by repeat' first | exact Keep.nil | refine Keep.cons rfl ?_), _, (by repeat (first | exact Split.nil | (apply Split.cons; next => repeat (first | exact Pick.here | apply Pick.there | apply Pick.app)) | (apply Split.chunk; next => repeat (first | exact PickL.here | exact PickL.last | apply PickL.there | apply PickL.app)) | (apply Split.lst; repeat (first | exact PickL.here | exact PickL.last | apply PickL.there | apply PickL.app))))⟩
  · simp only [decide_eq_true_eq, decide_eq_false_iff_not] at c15
    refine s_exit ?_
    refine x_K ?_
    refine x_K ?_
    refine x_blk ?_
    refine n_K ?_
    refine s_seq ?_
    refine s_region0 (fun ops => ?_)
    refine o_rd (rd_move rfl) rfl ?_
    refine o_rd (show Rd _ _ _ _ (uv (crcOn c (q.list.map (·.list)))) from by (rw [crcOn, show q.list.map (·.list) = (q.list.take i).map (·.list) by rw [List.take_of_length_le (by omega)]]; exact rd_compl32 rfl)) rfl ?_
    refine o_rd (rd_assign rfl) rfl ?_
    refine o_nil ?_
    refine n_K ?_
    refine s_ret ?_
    refine leaf_is (rets1 Tryz.results111 (rv_tmp rfl)) ?_ (by repeat (first | exact Split.nil | (apply Split.cons; next => repeat (first | exact Pick.here | apply Pick.there | apply Pick.app)) | (apply Split.chunk; next => repeat (first | exact PickL.here | exact PickL.last | apply PickL.there | apply PickL.app)) | (apply Split.lst; repeat (first | exact PickL.here | exact PickL.last | apply PickL.there | apply PickL.app))))
    rfl
theorem sum_fn {q : Sl (Sl By)} : Does Tryz.prog 96 [q.val] (q.hp tSB ++ (partsH q.list ++ [])) (Is (uv (crcOn 0 (q.list.map (·.list)))) (q.hp tSB ++ (partsH q.list ++ []))) := by
  refine fn_enter (n := 5) Tryz.func96 Tryz.ntmps96 rfl (Nat.le_of_ble_eq_true rfl) ?_
  refine s_seq ?_
  refine s_region0 (fun ops => ?_)
  refine o_rd (rd_assign rfl) rfl ?_
  refine o_nil ?_
  refine n_K ?_
  refine s_seq ?_
  refine s_region0 (fun ops => ?_)
  refine o_rd (rd_move rfl) rfl ?_
  refine c_is rfl (on_fn (c := 0)) (by repeat (first | exact Split.nil | (apply Split.cons; next => repeat (first | exact Pick.here | apply Pick.there | apply Pick.app)) | (apply Split.chunk; next => repeat (first | exact PickL.here | exact PickL.last | apply PickL.there | apply PickL.app)) | (apply Split.lst; repeat (first | exact PickL.here | exact PickL.last | apply PickL.there | apply PickL.app)))) rfl (by repeat (first | exact Ap.nil | apply Ap.cons | apply Ap.app | exact Ap.one)) ?_
  refine o_rd (rd_assign rfl) rfl ?_
  refine o_nil ?_
  refine n_K ?_
  refine s_ret ?_
  refine leaf_is (rets1 Tryz.results96 (rv_tmp rfl)) ?_ (by repeat (first | exact Split.nil | (apply Split.cons; next => repeat (first | exact Pick.here | apply Pick.there | apply Pick.app)) | (apply Split.chunk; next => repeat (first | exact PickL.here | exact PickL.last | apply PickL.there | apply PickL.app)) | (apply Split.lst; repeat (first | exact PickL.here | exact PickL.last | apply PickL.there | apply PickL.app))))
  rfl
end Go.Proofs.YtdfidkhbldedlaaGreat
