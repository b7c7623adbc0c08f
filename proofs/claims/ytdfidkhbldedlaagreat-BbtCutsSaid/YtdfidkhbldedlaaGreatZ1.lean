/- Walks of the reference of tables, second part: new tables. -/
import Derived.Test.YtdfidkhbldedlaaGreatZ0
namespace Go.Proofs.YtdfidkhbldedlaaGreat
open Go.K
set_option linter.unusedVariables false
set_option linter.unusedSimpArgs false
instance zer4 : Zer Tryz.prog 4 ([.bool false]) := ⟨by kernel_rfl⟩
instance zer108 : Zer Tryz.prog 108 ([.slice none 0 0, .slice none 0 0]) := ⟨by kernel_rfl⟩
instance plc108 : Plc Tryz.prog 108 [(0, 1), (1, 1)] := ⟨⟨_, Tryz.underlying108, fun _ => by kernel_rfl⟩⟩
instance byt4 : Byt Tryz.prog 4 1 := ⟨by kernel_rfl⟩
instance ent16 : Ent Tryz.prog 16 := ⟨fun _ _ => by kernel_rfl⟩
instance ent17 : Ent Tryz.prog 17 := ⟨fun _ _ => by kernel_rfl⟩
instance ent51 : Ent Tryz.prog 51 := ⟨fun _ _ => by kernel_rfl⟩
instance ent53 : Ent Tryz.prog 53 := ⟨fun _ _ => by kernel_rfl⟩
instance ent54 : Ent Tryz.prog 54 := ⟨fun _ _ => by kernel_rfl⟩
theorem refH_mk {b : Nat} {u : Sl Int} {l : Sl Bool} {vu vl : Value} (hu : u.val = vu) (hl : l.val = vl) : refH ⟨b, u, l⟩ = (b, true, C [vu, vl] tRf) :: (u.hp tI ++ (l.hp tB ++ [])) := by
  subst hu hl; exact refH_eq _
/-- Which blocks are bad. -/
def badL (n : Nat) (l : List Int) : List Bool := (List.range n).map fun i => hasI l (i : Nat)
theorem badL_len (n : Nat) (l : List Int) : (badL n l).length = n := by simp [badL]
theorem zrep_false (n : Nat) : zrep n [Value.bool false] = cells (badL n []) := by
  unfold badL
  induction n with
  | zero => rfl
  | succ n ih =>
    have e : ∀ m : Nat, (List.range m).map (fun i => hasI [] ((i : Nat) : Int)) = List.replicate m false := fun m => by
      apply List.ext_getElem
      · simp
      · intro i h1 h2; simp [has_nil]
    rw [e] at ih ⊢
    rw [List.replicate_succ, zrep, ih]
    rfl
theorem has_snoc (l : List Int) (x y : Int) : hasI (l ++ [x]) y = (hasI l y || decide (x = y)) := by
  have e : ∀ l : List Int, hasI l y = l.any (· == y) := fun l => idxF_any l (· == y)
  rw [e, e, List.any_append]
  simp [BEq.beq]
theorem badL_step {n : Nat} {l : List Int} {x : Int} (h : 0 ≤ x ∧ x < n) : badL n (l ++ [x]) = (badL n l).set x.toNat true := by
  apply List.ext_getElem
  · simp [badL]
  · intro i h1 h2
    rw [List.getElem_set]
    have : (badL n (l ++ [x]))[i] = hasI (l ++ [x]) (i : Nat) := by simp [badL]
    rw [this, has_snoc]
    split
    · rename_i e; simp; right; omega
    · rename_i e
      have : ¬ x = (i : Int) := by omega
      simp [badL, this]
theorem bads_fn {n : Int} {s : Sl Int} (hn : 0 ≤ n ∧ n ≤ 1000) (hs : ∀ x ∈ s.list, 0 ≤ x ∧ x < n) : Does Tryz.prog 17 [.int .i64 n, s.val] (s.hp tI) (fun v H => ∃ r : Sl Bool, v = r.val ∧ H = r.hp tB ++ (s.hp tI ++ []) ∧ r.list = badL n.toNat s.list ∧ r.isOwn = true) := by
  refine fn_enter (n := 21) Tryz.func17 Tryz.ntmps17 rfl (Nat.le_of_ble_eq_true rfl) ?_
  refine s_seq ?_
  refine s_region0 (fun ops => ?_)
  refine o_rd (rd_assign rfl) rfl ?_
  refine o_nil ?_
  refine n_K ?_
  refine s_seq ?_
  refine s_region0 (fun ops => ?_)
  refine o_rd (rd_move rfl) rfl ?_
  refine o_make rfl rfl (by omega) rfl (fun b9 => ?_)
  refine o_rd (rd_assign rfl) rfl ?_
  refine o_nil ?_
  refine n_K ?_
  refine s_seq ?_
  refine s_seq ?_
  refine s_region0 (fun ops => ?_)
  refine o_rd (rd_move rfl) rfl ?_
  refine o_rd (rd_lenS rfl) rfl ?_
  refine o_rd (rd_move rfl) rfl ?_
  refine o_nil ?_
  refine n_K ?_
  refine s_block ?_
  refine sc_eq (G := (Sl.own b9 (badL n.toNat []) n.toNat [] ⟨by rw [badL_len]; simp, by rw [badL_len]; exact Nat.le_refl _, by rw [badL_len]; omega⟩ : Sl Bool).hp tB ++ (s.hp tI ++ [])) (by rw [Sl.hp_own, zrep_false]; simp) ?_
  have hsm := s.small
  refine s_loop2 [10, 11] (by repeat' first | exact Keep2.nil | apply Keep2.cons rfl) (fun (st : Nat × Sl Bool) => [(12, .int .i64 st.1), (5, st.2.val)]) (fun (st : Nat × Sl Bool) => st.2.hp tB ++ (s.hp tI ++ [])) (fun (st : Nat × Sl Bool) => st.1 ≤ s.list.length ∧ st.2.list = badL n.toNat (s.list.take st.1) ∧ st.2.isOwn = true) (fun (st : Nat × Sl Bool) => s.list.length - st.1) ((0, .own b9 (badL n.toNat []) n.toNat [] ⟨by rw [badL_len]; simp, by rw [badL_len]; exact Nat.le_refl _, by rw [badL_len]; omega⟩)) ⟨Nat.zero_le _, rfl, rfl⟩ (by have e : (Sl.own b9 (badL n.toNat []) n.toNat [] ⟨by rw [badL_len]; simp, by rw [badL_len]; exact Nat.le_refl _, by rw [badL_len]; omega⟩ : Sl Bool).val = .slice (some ⟨b9, 0, none⟩) n.toNat n.toNat := (by show Value.slice (some ⟨b9, 0, none⟩) (badL n.toNat []).length n.toNat = _; rw [badL_len]); rw [e]; exact (by repeat' first | exact Keep.nil | refine Keep.cons rfl ?_)) (by repeat (first | exact Split.nil | (apply Split.cons; next => repeat (first | exact Pick.here | apply Pick.there | apply Pick.app)) | (apply Split.chunk; next => repeat (first | exact PickL.here | exact PickL.last | apply PickL.there | apply PickL.app)) | (apply Split.lst; repeat (first | exact PickL.here | exact PickL.last | apply PickL.there | apply PickL.app)))) ?_
  rintro ⟨i, q⟩ ⟨h0, h1, h2⟩
  simp only at h0 h1 h2
  have hql : q.list.length = n.toNat := by rw [h1, badL_len]
  refine s_seq ?_
  refine s_region0 (fun ops => ?_)
  refine o_rd (rd_bin rfl rfl rfl) rfl ?_
  refine o_nil ?_
  refine n_K ?_
  refine s_seq ?_
  refine s_cond rfl (fun c13 => ?_) (fun c13 => ?_)
  · simp only [decide_eq_true_eq, decide_eq_false_iff_not] at c13
    obtain ⟨y, hg⟩ : ∃ y, s.list[i]? = some y := ⟨_, List.getElem?_eq_getElem (by omega)⟩
    have hy := hs y (List.mem_of_getElem? hg)
    refine s_skip ?_
    refine n_K ?_
    refine s_seq ?_
    refine s_block ?_
    refine s_seq ?_
    refine s_region0 (fun ops => ?_)
    refine o_rd (rd_ixSl rfl rfl (by omega)) rfl ?_
    refine o_rd (rd_ldSl (o := 0) rfl (by repeat (first | exact PickL.here | exact PickL.last | apply PickL.there | apply PickL.app)) hg rfl rfl) rfl ?_
    refine o_rd (rd_assign rfl) rfl ?_
    refine o_nil ?_
    refine n_K ?_
    refine s_region0 (fun ops => ?_)
    refine o_rd (rd_move rfl) rfl ?_
    refine o_rd (rd_move rfl) rfl ?_
    refine o_rd (rd_ixSl rfl rfl ⟨hy.1, by show y < (q.list.length : Int); omega⟩) rfl ?_
    obtain ⟨q', hq'⟩ : ∃ q', q' = q.set y.toNat true := ⟨_, rfl⟩; refine o_storeSl (s := q) (o := 0) (z' := true) rfl rfl (by repeat (first | exact UpdL.here | exact UpdL.last | apply UpdL.there | apply UpdL.app)) h2 (atB_get hy.1 (by omega)) rfl rfl rfl (by rw [off_own h2]; exact Nat.zero_add _) ?_; rw [← hq']; have hv' : q'.val = q.val := (by rw [hq', Sl.set_val])
    refine o_nil ?_
    refine n_blk ?_
    refine n_K ?_
    refine s_region0 (fun ops => ?_)
    refine o_rd (rd_add64 rfl rfl (by omega)) rfl ?_
    refine o_rd (rd_move rfl) rfl ?_
    refine o_nil ?_
    refine n_K ?_
    exact ⟨(i + 1, q'), ⟨by simp only; omega, by rw [hq', Sl.set_list _ _ _ h2, h1, List.take_add_one, hg]; exact (badL_step (by omega)).symm, by rw [hq']; exact Sl.set_isOwn _ _ _ h2⟩, (by simp only; omega), (by rw [hv']; exact (by repeat' first | exact Keep.nil | refine Keep.cons rfl ?_)), (by repeat' first | exact Keep.nil | refine Keep.cons rfl ?_), _, (by repeat (first | exact Split.nil | (apply Split.cons; next => repeat (first | exact Pick.here | apply Pick.there | apply Pick.app)) | (apply Split.chunk; next => repeat (first | exact PickL.here | exact PickL.last | apply PickL.there | apply PickL.app)) | (apply Split.lst; repeat (first | exact PickL.here | exact PickL.last | apply PickL.there | apply PickL.app))))⟩
  · simp only [decide_eq_true_eq, decide_eq_false_iff_not] at c13
    refine s_exit ?_
    refine x_K ?_
    refine x_K ?_
    refine x_blk ?_
    refine n_K ?_
    refine s_seq ?_
    refine s_region0 (fun ops => ?_)
    refine o_rd (rd_move rfl) rfl ?_
    refine o_rd (rd_assign rfl) rfl ?_
    refine o_nil ?_
    refine n_K ?_
    refine s_ret ?_
    exact leaf_r (rets1 Tryz.results17 (rv_tmp rfl)) (by exact ⟨q, rfl, rfl, by rw [h1, List.take_of_length_le (by omega)], h2⟩) (by repeat (first | exact Split.nil | (apply Split.cons; next => repeat (first | exact Pick.here | apply Pick.there | apply Pick.app)) | (apply Split.chunk; next => repeat (first | exact PickL.here | exact PickL.last | apply PickL.there | apply PickL.app)) | (apply Split.lst; repeat (first | exact PickL.here | exact PickL.last | apply PickL.there | apply PickL.app))))
/-- The blocks for use, of those ahead of i. -/
def fmtV (l : List Bool) (size : Int) : Nat → List Int
  | 0 => []
  | i + 1 => if atB l (i : Nat) = true then fmtV l size i else if (decide (2 ≤ (i : Int)) && decide (((fmtV l size i).length : Int) < size)) = true then fmtV l size i ++ [(i : Int)] else fmtV l size i
theorem fmtV_full {l : List Bool} {size : Int} {i : Nat} (h : ¬ ((fmtV l size i).length : Int) < size) : ∀ k, fmtV l size (i + k) = fmtV l size i
  | 0 => rfl
  | k + 1 => by
    have ih := fmtV_full h k
    have e : fmtV l size (i + (k + 1)) = if atB l ((i + k : Nat) : Int) = true then fmtV l size (i + k) else if (decide (2 ≤ ((i + k : Nat) : Int)) && decide (((fmtV l size (i + k)).length : Int) < size)) = true then fmtV l size (i + k) ++ [((i + k : Nat) : Int)] else fmtV l size (i + k) := rfl
    rw [e, ih]
    split
    · rfl
    · rw [if_neg (by simp only [Bool.and_eq_true, decide_eq_true_eq]; omega)]
theorem fmtV_two (l : List Bool) (size : Int) : fmtV l size 2 = [] := by
  have e1 : fmtV l size 1 = [] := by
    show (if _ then _ else _) = _
    split
    · rfl
    · rw [if_neg (by simp)]; rfl
  show (if _ then _ else _) = _
  rw [e1]
  split
  · rfl
  · rw [if_neg (by simp)]
theorem fmtV_len (l : List Bool) (size : Int) : ∀ i, (fmtV l size i).length ≤ i
  | 0 => Nat.le_refl _
  | i + 1 => by
    have ih := fmtV_len l size i
    show (if _ then _ else _ : List Int).length ≤ _
    split
    · omega
    · split
      · simp; omega
      · omega
def fmtX (l : List Bool) : Bool := (atB l 0 || atB l 1) || decide (((fmtV l ((l.length : Int) - 6) l.length).length : Int) < (l.length : Int) - 6)
theorem rformat_fn {s : Sl Bool} (hn : 2 ≤ s.list.length ∧ s.list.length ≤ 1000) : Does Tryz.prog 16 [s.val] (s.hp tB)
    (fun v H => (fmtX s.list = false ∧ ∃ r : RTab, v = ptr r.b ∧ H = refH r ++ (s.hp tB ++ []) ∧ r.u.list = fmtV s.list ((s.list.length : Int) - 6) s.list.length ∧ r.l.list = s.list ∧ r.u.isOwn = true ∧ r.l.isOwn = true) ∨ (fmtX s.list = true ∧ v = .pointer none ∧ H = s.hp tB ++ [])) := by
  refine fn_enter (n := 62) Tryz.func16 Tryz.ntmps16 rfl (Nat.le_of_ble_eq_true rfl) ?_
  refine s_seq ?_
  refine s_region0 (fun ops => ?_)
  refine o_rd (rd_assign rfl) rfl ?_
  refine o_nil ?_
  refine n_K ?_
  refine s_seq ?_
  refine s_region0 (fun ops => ?_)
  refine o_bslice_k rfl rfl rfl rfl (fun b5 => ?_)
  refine o_rd (rd_move rfl) rfl ?_
  refine o_append_sl (s := (.emp ⟨b5, 0, none⟩ : Sl Bool)) (new := s.list) (m := s.list.length) rfl rfl (by rw [Sl.hp_emp]; exact PickL.here (L := [])) rfl (src_sl (by repeat (first | exact PickL.here | exact PickL.last | apply PickL.there | apply PickL.app))) rfl rfl rfl rfl (by show (2 * (0 + s.list.length) + 1024) * _ ≤ 281474976710656; omega) rfl (fun s7 hs7 ho7 => ?_)
  refine o_rd (rd_build_s rfl rfl) rfl ?_
  refine o_box rfl rfl (fun b9 => ?_)
  refine o_rd (rd_assign rfl) rfl ?_
  refine o_nil ?_
  refine n_K ?_
  refine s_seq ?_
  refine s_seq ?_
  refine s_region0 (fun ops => ?_)
  refine o_rd (rd_assign rfl) rfl ?_
  refine o_nil ?_
  refine n_K ?_
  refine s_block ?_
  refine sc_eq (nil_hp (α := Int) (T := tI)) ?_
  have hl7 : s7.list = s.list := hs7
  refine s_loop2 [0, 3] (by repeat' first | exact Keep2.nil | apply Keep2.cons rfl) (fun (st : Nat × Sl Int) => [(4, .int .i64 st.1)]) (fun (st : Nat × Sl Int) => (b9, true, C [st.2.val, s7.val] tRf) :: (st.2.hp tI ++ (s7.hp tB ++ (s.hp tB ++ [])))) (fun (st : Nat × Sl Int) => 2 ≤ st.1 ∧ st.1 ≤ s.list.length ∧ st.2.list = fmtV s.list ((s.list.length : Int) - 6) st.1 ∧ st.2.isOwn = true) (fun (st : Nat × Sl Int) => s.list.length - st.1) ((2, .nil)) ⟨Nat.le_refl _, hn.1, (fmtV_two _ _).symm, rfl⟩ (by repeat' first | exact Keep.nil | refine Keep.cons rfl ?_) (by repeat (first | exact Split.nil | (apply Split.cons; next => repeat (first | exact Pick.here | apply Pick.there | apply Pick.app)) | (apply Split.chunk; next => repeat (first | exact PickL.here | exact PickL.last | apply PickL.there | apply PickL.app)) | (apply Split.lst; repeat (first | exact PickL.here | exact PickL.last | apply PickL.there | apply PickL.app)))) ?_
  rintro ⟨i, u⟩ ⟨h0, h1, h2, h3⟩
  simp only at h0 h1 h2 h3
  have hul : u.list.length ≤ i := by rw [h2]; exact fmtV_len _ _ _
  refine s_seq ?_
  refine s_seq ?_
  refine s_region [(4, 14)] rfl (fun ops y => ?_)
  refine o_rd (rd_move rfl) rfl ?_
  refine o_rd (rd_move rfl) rfl ?_
  refine o_rd (rd_lenS rfl) rfl ?_
  refine o_rd (rd_bin rfl rfl rfl) rfl ?_
  refine o_rd (rd_move rfl) rfl ?_
  refine' o_and (j := 4) (k := 9) y rfl rfl rfl rfl rfl rfl rfl (fun hg14 => ?_) ?_
  rotate_left
  · try (simp at hg14; show _)
    refine o_g y rfl rfl ?_
    refine o_rd (rd_move rfl) rfl ?_
    refine o_g y rfl rfl ?_
    refine o_rd (rd_nil rfl) rfl ?_
    refine o_g y rfl rfl ?_
    refine o_rd (rd_field rfl) rfl ?_
    refine o_g y rfl rfl ?_
    refine o_rd (rd_ld rfl (by repeat' first | exact List.Mem.head _ | apply List.Mem.tail | apply List.mem_append_right) rfl) rfl ?_
    refine o_g y rfl rfl ?_
    refine o_rd (rd_lenS rfl) rfl ?_
    refine o_g y rfl rfl ?_
    refine o_rd (rd_move rfl) rfl ?_
    refine o_g y rfl rfl ?_
    refine o_rd (rd_lenS rfl) rfl ?_
    refine o_g y rfl rfl ?_
    refine o_rd (rd_sub64 rfl rfl (by omega)) rfl ?_
    refine o_g y rfl rfl ?_
    refine o_rd (rd_bin rfl rfl rfl) rfl ?_
    exact o_nil ⟨rfl, rfl, ⟨_, (by repeat (first | exact Split.nil | (apply Split.cons; next => repeat (first | exact Pick.here | apply Pick.there | apply Pick.app)) | (apply Split.chunk; next => repeat (first | exact PickL.here | exact PickL.last | apply PickL.there | apply PickL.app)) | (apply Split.lst; repeat (first | exact PickL.here | exact PickL.last | apply PickL.there | apply PickL.app))))⟩⟩
  refine o_nil ?_
  refine n_K ?_
  refine s_cond rfl (fun c24 => ?_) (fun c24 => ?_)
  · skip
    have hc : (i : Int) < s.list.length ∧ (u.list.length : Int) < (s.list.length : Int) - 6 := (by simpa using c24)
    refine s_skip ?_
    refine n_K ?_
    refine s_seq ?_
    refine s_block ?_
    refine s_seq ?_
    refine s_region0 (fun ops => ?_)
    refine o_rd (rd_move rfl) rfl ?_
    refine o_rd (rd_move rfl) rfl ?_
    refine o_rd (rd_ixSl rfl rfl (by omega)) rfl ?_
    refine o_rd (rd_ldSl (o := 0) rfl (by repeat (first | exact PickL.here | exact PickL.last | apply PickL.there | apply PickL.app)) (atB_get (i := (i : Int)) (by omega) (by omega)) rfl rfl) rfl ?_
    refine o_rd (rd_not rfl) rfl ?_
    refine o_nil ?_
    refine n_K ?_
    refine s_cond rfl (fun c31 => ?_) (fun c31 => ?_)
    · skip
      have hf : fmtV s.list ((s.list.length : Int) - 6) (i + 1) = u.list ++ [(i : Int)] := (by show (if atB s.list (i : Nat) = true then _ else _) = _; rw [if_neg (by intro e; rw [e] at c31; cases c31), ← h2, if_pos (by simp; omega)])
      refine s_region0 (fun ops => ?_)
      refine o_rd (rd_move rfl) rfl ?_
      refine o_rd (rd_move rfl) rfl ?_
      refine o_rd (rd_nil rfl) rfl ?_
      refine o_rd (rd_field rfl) rfl ?_
      refine o_rd (rd_ld rfl (by repeat' first | exact List.Mem.head _ | apply List.Mem.tail | apply List.mem_append_right) rfl) rfl ?_
      refine o_rd (rd_move rfl) rfl ?_
      refine o_bslice_k rfl rfl rfl rfl (fun b38 => ?_)
      refine o_append_sl (s := u) (new := [(i : Int)]) (m := 1) rfl rfl (by repeat (first | exact PickL.here | exact PickL.last | apply PickL.there | apply PickL.app)) h3 (src_blk (r := true) (by repeat' first | exact List.Mem.head _ | apply List.Mem.tail | apply List.mem_append_right) rfl) rfl rfl rfl rfl (by omega) rfl (fun s39 hs1 hs2 => ?_)
      refine o_rd (rd_nil rfl) rfl ?_
      refine o_rd (rd_field rfl) rfl ?_
      refine o_store rfl rfl (by repeat' first | exact Upd.here | apply Upd.there | apply Upd.app) rfl rfl rfl ?_
      refine o_nil ?_
      refine n_blk ?_
      refine n_K ?_
      refine s_region0 (fun ops => ?_)
      refine o_rd (rd_move rfl) rfl ?_
      refine o_rd (rd_add64 rfl rfl (by omega)) rfl ?_
      refine o_rd (rd_assign rfl) rfl ?_
      refine o_nil ?_
      refine n_K ?_
      first | refine ⟨(i + 1, u), ⟨by simp only; omega, by simp only; omega, hf.symm, h3⟩, by simp only; omega, (by repeat' first | exact Keep.nil | refine Keep.cons rfl ?_), (by repeat' first | exact Keep.nil | refine Keep.cons rfl ?_), _, (by repeat (first | exact Split.nil | (apply Split.cons; next => repeat (first | exact Pick.here | apply Pick.there | apply Pick.app)) | (apply Split.chunk; next => repeat (first | exact PickL.here | exact PickL.last | apply PickL.there | apply PickL.app)) | (apply Split.lst; repeat (first | exact PickL.here | exact PickL.last | apply PickL.there | apply PickL.app))))⟩ | refine ⟨(i + 1, s39), ⟨by simp only; omega, by simp only; omega, hs1.trans hf.symm, hs2⟩, by simp only; omega, (by repeat' first | exact Keep.nil | refine Keep.cons rfl ?_), (by repeat' first | exact Keep.nil | refine Keep.cons rfl ?_), _, (by repeat (first | exact Split.nil | (apply Split.cons; next => repeat (first | exact Pick.here | apply Pick.there | apply Pick.app)) | (apply Split.chunk; next => repeat (first | exact PickL.here | exact PickL.last | apply PickL.there | apply PickL.app)) | (apply Split.lst; repeat (first | exact PickL.here | exact PickL.last | apply PickL.there | apply PickL.app))))⟩
    · skip
      have hf : fmtV s.list ((s.list.length : Int) - 6) (i + 1) = u.list := (by show (if atB s.list (i : Nat) = true then _ else _) = _; rw [if_pos (by simpa using c31), ← h2])
      refine s_skip ?_
      refine n_blk ?_
      refine n_K ?_
      refine s_region0 (fun ops => ?_)
      refine o_rd (rd_move rfl) rfl ?_
      refine o_rd (rd_add64 rfl rfl (by omega)) rfl ?_
      refine o_rd (rd_assign rfl) rfl ?_
      refine o_nil ?_
      refine n_K ?_
      first | refine ⟨(i + 1, u), ⟨by simp only; omega, by simp only; omega, hf.symm, h3⟩, by simp only; omega, (by repeat' first | exact Keep.nil | refine Keep.cons rfl ?_), (by repeat' first | exact Keep.nil | refine Keep.cons rfl ?_), _, (by repeat (first | exact Split.nil | (apply Split.cons; next => repeat (first | exact Pick.here | apply Pick.there | apply Pick.app)) | (apply Split.chunk; next => repeat (first | exact PickL.here | exact PickL.last | apply PickL.there | apply PickL.app)) | (apply Split.lst; repeat (first | exact PickL.here | exact PickL.last | apply PickL.there | apply PickL.app))))⟩ | refine ⟨(i + 1, s39), ⟨by simp only; omega, by simp only; omega, hs1.trans hf.symm, hs2⟩, by simp only; omega, (by repeat' first | exact Keep.nil | refine Keep.cons rfl ?_), (by repeat' first | exact Keep.nil | refine Keep.cons rfl ?_), _, (by repeat (first | exact Split.nil | (apply Split.cons; next => repeat (first | exact Pick.here | apply Pick.there | apply Pick.app)) | (apply Split.chunk; next => repeat (first | exact PickL.here | exact PickL.last | apply PickL.there | apply PickL.app)) | (apply Split.lst; repeat (first | exact PickL.here | exact PickL.last | apply PickL.there | apply PickL.app))))⟩
  · skip
    have hfin : u.list = fmtV s.list ((s.list.length : Int) - 6) s.list.length := (by rcases (show i = s.list.length ∨ ¬ (u.list.length : Int) < (s.list.length : Int) - 6 by (by_cases hx : (i : Int) < s.list.length; (simp [hx] at c24; omega); omega)) with hx | hx; (rw [h2, hx]); (rw [h2] at hx; have := fmtV_full hx (s.list.length - i); rw [show i + (s.list.length - i) = s.list.length by omega] at this; rw [this, h2]))
    refine s_exit ?_
    refine x_K ?_
    refine x_K ?_
    refine x_blk ?_
    refine n_K ?_
    refine s_seq ?_
    refine s_seq ?_
    refine s_region [(3, 45), (8, 50)] rfl (fun ops y => ?_)
    refine o_rd (rd_move rfl) rfl ?_
    refine o_rd (rd_ixSl rfl rfl (by omega)) rfl ?_
    refine o_rd (rd_ldSl (o := 0) rfl (by repeat (first | exact PickL.here | exact PickL.last | apply PickL.there | apply PickL.app)) (atB_get (i := 0) (by omega) (by omega)) rfl rfl) rfl ?_
    refine o_rd (rd_move rfl) rfl ?_
    refine' o_or (j := 3) (k := 3) y rfl rfl rfl rfl rfl rfl rfl (fun hg45 => ?_) ?_
    rotate_left
    · try (simp at hg45; show _)
      refine o_g y rfl rfl ?_
      refine o_rd (rd_move rfl) rfl ?_
      refine o_g y rfl rfl ?_
      refine o_rd (rd_ixSl rfl rfl (by omega)) rfl ?_
      refine o_g y rfl rfl ?_
      refine o_rd (rd_ldSl (o := 0) rfl (by repeat (first | exact PickL.here | exact PickL.last | apply PickL.there | apply PickL.app)) (atB_get (i := 1) (by omega) (by omega)) rfl rfl) rfl ?_
      exact o_nil ⟨rfl, rfl, ⟨_, (by repeat (first | exact Split.nil | (apply Split.cons; next => repeat (first | exact Pick.here | apply Pick.there | apply Pick.app)) | (apply Split.chunk; next => repeat (first | exact PickL.here | exact PickL.last | apply PickL.there | apply PickL.app)) | (apply Split.lst; repeat (first | exact PickL.here | exact PickL.last | apply PickL.there | apply PickL.app))))⟩⟩
    refine o_rd (rd_move rfl) rfl ?_
    refine' o_or (j := 8) (k := 9) y rfl rfl rfl rfl rfl rfl rfl (fun hg50 => ?_) ?_
    rotate_left
    · try (simp at hg50; show _)
      refine o_g y rfl rfl ?_
      refine o_rd (rd_move rfl) rfl ?_
      refine o_g y rfl rfl ?_
      refine o_rd (rd_nil rfl) rfl ?_
      refine o_g y rfl rfl ?_
      refine o_rd (rd_field rfl) rfl ?_
      refine o_g y rfl rfl ?_
      refine o_rd (rd_ld rfl (by repeat' first | exact List.Mem.head _ | apply List.Mem.tail | apply List.mem_append_right) rfl) rfl ?_
      refine o_g y rfl rfl ?_
      refine o_rd (rd_lenS rfl) rfl ?_
      refine o_g y rfl rfl ?_
      refine o_rd (rd_move rfl) rfl ?_
      refine o_g y rfl rfl ?_
      refine o_rd (rd_lenS rfl) rfl ?_
      refine o_g y rfl rfl ?_
      refine o_rd (rd_sub64 rfl rfl (by omega)) rfl ?_
      refine o_g y rfl rfl ?_
      refine o_rd (rd_bin rfl rfl rfl) rfl ?_
      exact o_nil ⟨rfl, rfl, ⟨_, (by repeat (first | exact Split.nil | (apply Split.cons; next => repeat (first | exact Pick.here | apply Pick.there | apply Pick.app)) | (apply Split.chunk; next => repeat (first | exact PickL.here | exact PickL.last | apply PickL.there | apply PickL.app)) | (apply Split.lst; repeat (first | exact PickL.here | exact PickL.last | apply PickL.there | apply PickL.app))))⟩⟩
    refine o_nil ?_
    refine n_K ?_
    refine s_cond rfl (fun c60 => ?_) (fun c60 => ?_)
    · skip
      have hx : fmtX s.list = true := (by unfold fmtX; rw [← hfin]; exact c60)
      refine s_seq ?_
      refine s_region0 (fun ops => ?_)
      refine o_rd (rd_assign rfl) rfl ?_
      refine o_nil ?_
      refine n_K ?_
      refine s_ret ?_
      refine r_K ?_
      exact leaf_r (rets1 Tryz.results16 (rv_tmp rfl)) (by exact .inr ⟨hx, rfl, rfl⟩) (by repeat (first | exact Split.nil | (apply Split.cons; next => repeat (first | exact Pick.here | apply Pick.there | apply Pick.app)) | (apply Split.chunk; next => repeat (first | exact PickL.here | exact PickL.last | apply PickL.there | apply PickL.app)) | (apply Split.lst; repeat (first | exact PickL.here | exact PickL.last | apply PickL.there | apply PickL.app))))
    · skip
      have hx : fmtX s.list = false := (by unfold fmtX; rw [← hfin]; exact c60)
      refine s_skip ?_
      refine n_K ?_
      refine s_seq ?_
      refine s_region0 (fun ops => ?_)
      refine o_rd (rd_move rfl) rfl ?_
      refine o_rd (rd_assign rfl) rfl ?_
      refine o_nil ?_
      refine n_K ?_
      refine s_ret ?_
      exact leaf_r (rets1 Tryz.results16 (rv_tmp rfl)) (by exact .inl ⟨hx, ⟨b9, u, s7⟩, rfl, rfl, hfin, hl7, h3, ho7⟩) (by rw [refH_eq]; simp only [List.cons_append, List.append_assoc, List.nil_append]; exact (by repeat (first | exact Split.nil | (apply Split.cons; next => repeat (first | exact Pick.here | apply Pick.there | apply Pick.app)) | (apply Split.chunk; next => repeat (first | exact PickL.here | exact PickL.last | apply PickL.there | apply PickL.app)) | (apply Split.lst; repeat (first | exact PickL.here | exact PickL.last | apply PickL.there | apply PickL.app)))))
section
variable {r : RTab}
theorem rcopy_fn (hu : r.u.list.length ≤ 1000) (hl : r.l.list.length ≤ 1000) : Does Tryz.prog 51 [ptr r.b] (refH r)
    (fun v H => ∃ q : RTab, v = ptr q.b ∧ H = refH q ++ (refH r ++ []) ∧ q.u.list = r.u.list ∧ q.l.list = r.l.list ∧ q.u.isOwn = true ∧ q.l.isOwn = true) := by
  rw [refH_eq r]
  refine fn_enter (n := 17) Tryz.func51 Tryz.ntmps51 rfl (Nat.le_of_ble_eq_true rfl) ?_
  refine s_seq ?_
  refine s_region0 (fun ops => ?_)
  refine o_rd (rd_assign rfl) rfl ?_
  refine o_nil ?_
  refine n_K ?_
  refine s_seq ?_
  refine s_drawT [] [(11, (.fork [(1, false), (2, false), (3, false), (4, false), (7, false), (8, false), (9, false), (10, false)] 0 (.fork [] 5 (.one [(6, true)]) 6 (.one [(5, true)])) 6 (.one [(0, true), (5, true)]))), (12, (.one [(11, true)])), (13, (.one [(12, false)])), (14, (.one [(13, true)])), (15, (.one [(14, false)]))] (by kernel_rfl) rfl (fun ops w0 H0 y => ?_)
  refine pt_all ?_
  refine t_fork ?_ rfl
  refine x_rd (rd_move rfl) rfl ?_
  refine x_rd (rd_nil rfl) rfl ?_
  refine x_rd (rd_field rfl) rfl ?_
  refine x_rd (rd_ld rfl (by repeat' first | exact List.Mem.head _ | apply List.Mem.tail | apply List.mem_append_right) rfl) rfl ?_
  refine x_rd (rd_move rfl) rfl ?_
  refine x_rd (rd_nil rfl) rfl ?_
  refine x_rd (rd_field rfl) rfl ?_
  refine x_rd (rd_ld rfl (by repeat' first | exact List.Mem.head _ | apply List.Mem.tail | apply List.mem_append_right) rfl) rfl ?_
  refine x_nil ⟨⟨_, (by repeat (first | exact Split.nil | (apply Split.cons; next => repeat (first | exact Pick.here | apply Pick.there | apply Pick.app)) | (apply Split.chunk; next => repeat (first | exact PickL.here | exact PickL.last | apply PickL.there | apply PickL.app)) | (apply Split.lst; repeat (first | exact PickL.here | exact PickL.last | apply PickL.there | apply PickL.app))))⟩, ?_, ?_⟩
  refine x_so ?_
  refine o_bslice_k rfl rfl rfl rfl (fun b3 => ?_)
  refine o_nil ⟨rfl, ⟨_, (by repeat (first | exact Split.nil | (apply Split.cons; next => repeat (first | exact Pick.here | apply Pick.there | apply Pick.app)) | (apply Split.chunk; next => repeat (first | exact PickL.here | exact PickL.last | apply PickL.there | apply PickL.app)) | (apply Split.lst; repeat (first | exact PickL.here | exact PickL.last | apply PickL.there | apply PickL.app))))⟩, ?_⟩
  refine x_nil ?_
  refine t_fork ?_ rfl
  refine x_nil ⟨⟨_, (by repeat (first | exact Split.nil | (apply Split.cons; next => repeat (first | exact Pick.here | apply Pick.there | apply Pick.app)) | (apply Split.chunk; next => repeat (first | exact PickL.here | exact PickL.last | apply PickL.there | apply PickL.app)) | (apply Split.lst; repeat (first | exact PickL.here | exact PickL.last | apply PickL.there | apply PickL.app))))⟩, ?_, ?_⟩
  refine x_so ?_
  refine o_append_sl (s := (.emp ⟨b3, 0, none⟩ : Sl Int)) (new := r.u.list) (m := r.u.list.length) rfl rfl (by rw [Sl.hp_emp]; exact PickL.here (L := [])) rfl (src_sl (by repeat (first | exact PickL.here | exact PickL.last | apply PickL.there | apply PickL.app))) rfl rfl rfl rfl (by show (2 * (0 + r.u.list.length) + 1024) * _ ≤ 281474976710656; omega) rfl (fun s8 hs8 ho8 => ?_)
  refine o_nil ⟨rfl, ⟨_, (by repeat (first | exact Split.nil | (apply Split.cons; next => repeat (first | exact Pick.here | apply Pick.there | apply Pick.app)) | (apply Split.chunk; next => repeat (first | exact PickL.here | exact PickL.last | apply PickL.there | apply PickL.app)) | (apply Split.lst; repeat (first | exact PickL.here | exact PickL.last | apply PickL.there | apply PickL.app))))⟩, ?_⟩
  refine x_nil ?_
  refine t_one ?_
  refine x_so ?_
  refine o_bslice_k rfl rfl rfl rfl (fun b9 => ?_)
  refine o_nil ⟨rfl, ⟨_, (by repeat (first | exact Split.nil | (apply Split.cons; next => repeat (first | exact Pick.here | apply Pick.there | apply Pick.app)) | (apply Split.chunk; next => repeat (first | exact PickL.here | exact PickL.last | apply PickL.there | apply PickL.app)) | (apply Split.lst; repeat (first | exact PickL.here | exact PickL.last | apply PickL.there | apply PickL.app))))⟩, ?_⟩
  refine x_nil ?_
  rotate_left
  refine x_so ?_
  refine o_bslice_k rfl rfl rfl rfl (fun b9 => ?_)
  refine o_nil ⟨rfl, ⟨_, (by repeat (first | exact Split.nil | (apply Split.cons; next => repeat (first | exact Pick.here | apply Pick.there | apply Pick.app)) | (apply Split.chunk; next => repeat (first | exact PickL.here | exact PickL.last | apply PickL.there | apply PickL.app)) | (apply Split.lst; repeat (first | exact PickL.here | exact PickL.last | apply PickL.there | apply PickL.app))))⟩, ?_⟩
  refine x_nil ?_
  refine t_one ?_
  refine x_so ?_
  refine o_append_sl (s := (.emp ⟨b3, 0, none⟩ : Sl Int)) (new := r.u.list) (m := r.u.list.length) rfl rfl (by rw [Sl.hp_emp]; exact PickL.here (L := [])) rfl (src_sl (by repeat (first | exact PickL.here | exact PickL.last | apply PickL.there | apply PickL.app))) rfl rfl rfl rfl (by show (2 * (0 + r.u.list.length) + 1024) * _ ≤ 281474976710656; omega) rfl (fun s8 hs8 ho8 => ?_)
  refine o_nil ⟨rfl, ⟨_, (by repeat (first | exact Split.nil | (apply Split.cons; next => repeat (first | exact Pick.here | apply Pick.there | apply Pick.app)) | (apply Split.chunk; next => repeat (first | exact PickL.here | exact PickL.last | apply PickL.there | apply PickL.app)) | (apply Split.lst; repeat (first | exact PickL.here | exact PickL.last | apply PickL.there | apply PickL.app))))⟩, ?_⟩
  refine x_nil ?_
  rotate_left
  refine x_so ?_
  refine o_bslice_k rfl rfl rfl rfl (fun b9 => ?_)
  refine o_nil ⟨rfl, ⟨_, (by repeat (first | exact Split.nil | (apply Split.cons; next => repeat (first | exact Pick.here | apply Pick.there | apply Pick.app)) | (apply Split.chunk; next => repeat (first | exact PickL.here | exact PickL.last | apply PickL.there | apply PickL.app)) | (apply Split.lst; repeat (first | exact PickL.here | exact PickL.last | apply PickL.there | apply PickL.app))))⟩, ?_⟩
  refine x_nil ?_
  refine t_one ?_
  refine x_so ?_
  refine o_bslice_k rfl rfl rfl rfl (fun b3 => ?_)
  refine o_nil ⟨rfl, ⟨_, (by repeat (first | exact Split.nil | (apply Split.cons; next => repeat (first | exact Pick.here | apply Pick.there | apply Pick.app)) | (apply Split.chunk; next => repeat (first | exact PickL.here | exact PickL.last | apply PickL.there | apply PickL.app)) | (apply Split.lst; repeat (first | exact PickL.here | exact PickL.last | apply PickL.there | apply PickL.app))))⟩, ?_⟩
  refine x_so ?_
  refine o_append_sl (s := (.emp ⟨b3, 0, none⟩ : Sl Int)) (new := r.u.list) (m := r.u.list.length) rfl rfl (by rw [Sl.hp_emp]; exact PickL.here (L := [])) rfl (src_sl (by repeat (first | exact PickL.here | exact PickL.last | apply PickL.there | apply PickL.app))) rfl rfl rfl rfl (by show (2 * (0 + r.u.list.length) + 1024) * _ ≤ 281474976710656; omega) rfl (fun s8 hs8 ho8 => ?_)
  refine o_nil ⟨rfl, ⟨_, (by repeat (first | exact Split.nil | (apply Split.cons; next => repeat (first | exact Pick.here | apply Pick.there | apply Pick.app)) | (apply Split.chunk; next => repeat (first | exact PickL.here | exact PickL.last | apply PickL.there | apply PickL.app)) | (apply Split.lst; repeat (first | exact PickL.here | exact PickL.last | apply PickL.there | apply PickL.app))))⟩, ?_⟩
  refine x_nil ?_
  rotate_left
  all_goals
    refine pt_none ?_
    refine t_one ?_
    refine x_so ?_
    refine o_append_sl (s := (.emp ⟨b9, 0, none⟩ : Sl Bool)) (new := r.l.list) (m := r.l.list.length) rfl rfl (by rw [Sl.hp_emp]; exact PickL.here (L := [])) rfl (src_sl (by repeat (first | exact PickL.here | exact PickL.last | apply PickL.there | apply PickL.app))) rfl rfl rfl rfl (by show (2 * (0 + r.l.list.length) + 1024) * _ ≤ 281474976710656; omega) rfl (fun s14 hs14 ho14 => ?_)
    refine o_nil ⟨rfl, ⟨_, (by repeat (first | exact Split.nil | (apply Split.cons; next => repeat (first | exact Pick.here | apply Pick.there | apply Pick.app)) | (apply Split.chunk; next => repeat (first | exact PickL.here | exact PickL.last | apply PickL.there | apply PickL.app)) | (apply Split.lst; repeat (first | exact PickL.here | exact PickL.last | apply PickL.there | apply PickL.app))))⟩, ?_⟩
    refine x_nil ?_
    refine pt_all ?_
    refine t_one ?_
    refine x_rd (rd_build_s rfl rfl) rfl ?_
    refine x_nil ?_
    refine pt_none ?_
    refine t_one ?_
    refine x_so ?_
    refine o_box rfl rfl (fun b16 => ?_)
    refine o_nil ⟨rfl, ⟨_, (by repeat (first | exact Split.nil | (apply Split.cons; next => repeat (first | exact Pick.here | apply Pick.there | apply Pick.app)) | (apply Split.chunk; next => repeat (first | exact PickL.here | exact PickL.last | apply PickL.there | apply PickL.app)) | (apply Split.lst; repeat (first | exact PickL.here | exact PickL.last | apply PickL.there | apply PickL.app))))⟩, ?_⟩
    refine x_nil ?_
    refine pt_all ?_
    refine t_one ?_
    refine x_rd (rd_assign rfl) rfl ?_
    refine x_nil ?_
    refine pt_end ?_
    refine n_K ?_
    refine s_ret ?_
    exact leaf_r (rets1 Tryz.results51 (rv_tmp rfl)) (by exact ⟨⟨b16, s8, s14⟩, rfl, rfl, hs8, hs14, ho8, ho14⟩) (by rw [refH_eq]; simp only [List.cons_append, List.append_assoc, List.nil_append]; exact (by repeat (first | exact Split.nil | (apply Split.cons; next => repeat (first | exact Pick.here | apply Pick.there | apply Pick.app)) | (apply Split.chunk; next => repeat (first | exact PickL.here | exact PickL.last | apply PickL.there | apply PickL.app)) | (apply Split.lst; repeat (first | exact PickL.here | exact PickL.last | apply PickL.there | apply PickL.app)))))
theorem rlose_fn {b : Int} (hol : r.l.isOwn = true) : Does Tryz.prog 53 [ptr r.b, .int .i64 b] (refH r)
    (fun v H => (spareR r.u.list r.l.list b = false ∧ v = .bool false ∧ H = refH r) ∨ (spareR r.u.list r.l.list b = true ∧ v = .bool true ∧ ∃ q : RTab, q.b = r.b ∧ H = refH q ∧ q.u = r.u ∧ q.l.list = r.l.list.set b.toNat true ∧ q.l.isOwn = true)) := by
  rw [refH_eq r]
  refine fn_enter (n := 15) Tryz.func53 Tryz.ntmps53 rfl (Nat.le_of_ble_eq_true rfl) ?_
  refine s_seq ?_
  refine s_region0 (fun ops => ?_)
  refine o_rd (rd_assign rfl) rfl ?_
  refine o_nil ?_
  refine n_K ?_
  refine s_seq ?_
  refine s_seq ?_
  refine s_region0 (fun ops => ?_)
  refine o_rd (rd_move rfl) rfl ?_
  refine o_rd (rd_move rfl) rfl ?_
  refine c_is rfl (rspareO_fn (r := r)) (by repeat (first | exact Split.nil | (apply Split.cons; next => repeat (first | exact Pick.here | apply Pick.there | apply Pick.app)) | (apply Split.chunk; next => repeat (first | exact PickL.here | exact PickL.last | apply PickL.there | apply PickL.app)) | (apply Split.lst; repeat (first | exact PickL.here | exact PickL.last | apply PickL.there | apply PickL.app)))) rfl (by repeat (first | exact Ap.nil | apply Ap.cons | apply Ap.app | exact Ap.one)) ?_
  refine o_rd (rd_not rfl) rfl ?_
  refine o_nil ?_
  refine n_K ?_
  refine s_cond rfl (fun c8 => ?_) (fun c8 => ?_)
  · skip
    have hx : spareR r.u.list r.l.list b = false := (by simpa using c8)
    refine s_seq ?_
    refine s_region0 (fun ops => ?_)
    refine o_rd (rd_assign rfl) rfl ?_
    refine o_nil ?_
    refine n_K ?_
    refine s_ret ?_
    refine r_K ?_
    exact leaf_r (rets1 Tryz.results53 (rv_tmp rfl)) (by exact .inl ⟨hx, rfl, rfl⟩) (by repeat (first | exact Split.nil | (apply Split.cons; next => repeat (first | exact Pick.here | apply Pick.there | apply Pick.app)) | (apply Split.chunk; next => repeat (first | exact PickL.here | exact PickL.last | apply PickL.there | apply PickL.app)) | (apply Split.lst; repeat (first | exact PickL.here | exact PickL.last | apply PickL.there | apply PickL.app))))
  · skip
    have hx : spareR r.u.list r.l.list b = true := (by simpa using c8)
    have hb : 0 ≤ b ∧ b < r.l.list.length := (by have h := hx; unfold spareR at h; simp at h; omega)
    refine s_skip ?_
    refine n_K ?_
    refine s_seq ?_
    refine s_region0 (fun ops => ?_)
    refine o_rd (rd_move rfl) rfl ?_
    refine o_rd (rd_nil rfl) rfl ?_
    refine o_rd (rd_field rfl) rfl ?_
    refine o_rd (rd_ld rfl (by repeat' first | exact List.Mem.head _ | apply List.Mem.tail | apply List.mem_append_right) rfl) rfl ?_
    refine o_rd (rd_move rfl) rfl ?_
    refine o_rd (rd_ixSl rfl rfl hb) rfl ?_
    obtain ⟨q', hq'⟩ : ∃ q', q' = r.l.set b.toNat true := ⟨_, rfl⟩; refine o_storeSl (s := r.l) (o := 0) (z' := true) rfl rfl (by repeat (first | exact UpdL.here | exact UpdL.last | apply UpdL.there | apply UpdL.app)) hol (atB_get hb.1 hb.2) rfl rfl rfl (by rw [off_own hol]; exact Nat.zero_add _) ?_; rw [← hq']; have hv' : q'.val = r.l.val := (by rw [hq', Sl.set_val])
    refine o_nil ?_
    refine n_K ?_
    refine s_seq ?_
    refine s_region0 (fun ops => ?_)
    refine o_rd (rd_assign rfl) rfl ?_
    refine o_nil ?_
    refine n_K ?_
    refine s_ret ?_
    exact leaf_r (rets1 Tryz.results53 (rv_tmp rfl)) (by exact .inr ⟨hx, rfl, ⟨r.b, r.u, q'⟩, rfl, rfl, rfl, by rw [hq', Sl.set_list _ _ _ hol], by rw [hq']; exact Sl.set_isOwn _ _ _ hol⟩) (by rw [refH_mk rfl hv']; exact (by repeat (first | exact Split.nil | (apply Split.cons; next => repeat (first | exact Pick.here | apply Pick.there | apply Pick.app)) | (apply Split.chunk; next => repeat (first | exact PickL.here | exact PickL.last | apply PickL.there | apply PickL.app)) | (apply Split.lst; repeat (first | exact PickL.here | exact PickL.last | apply PickL.there | apply PickL.app)))))
theorem rswap_fn {i b : Int} (hou : r.u.isOwn = true) (hol : r.l.isOwn = true) (hin : ∀ x ∈ r.u.list, 0 ≤ x ∧ x < r.l.list.length) : Does Tryz.prog 54 [ptr r.b, .int .i64 i, .int .i64 b] (refH r)
    (fun v H => (((decide (i < 0) || decide ((r.u.list.length : Int) ≤ i)) || !spareR r.u.list r.l.list b) = true ∧ v = .bool false ∧ H = refH r) ∨ (((decide (i < 0) || decide ((r.u.list.length : Int) ≤ i)) || !spareR r.u.list r.l.list b) = false ∧ v = .bool true ∧ ∃ q : RTab, q.b = r.b ∧ H = refH q ∧ q.u.list = r.u.list.set i.toNat b ∧ q.l.list = r.l.list.set (at0 r.u.list i).toNat true ∧ q.u.isOwn = true ∧ q.l.isOwn = true)) := by
  rw [refH_eq r]
  refine fn_enter (n := 43) Tryz.func54 Tryz.ntmps54 rfl (Nat.le_of_ble_eq_true rfl) ?_
  refine s_seq ?_
  refine s_region0 (fun ops => ?_)
  refine o_rd (rd_assign rfl) rfl ?_
  refine o_nil ?_
  refine n_K ?_
  refine s_seq ?_
  refine s_seq ?_
  refine s_region [(2, 9), (11, 18)] rfl (fun ops y => ?_)
  refine o_rd (rd_move rfl) rfl ?_
  refine o_rd (rd_bin rfl rfl rfl) rfl ?_
  refine o_rd (rd_move rfl) rfl ?_
  refine' o_or (j := 2) (k := 7) y rfl rfl rfl rfl rfl rfl rfl (fun hg9 => ?_) ?_
  rotate_left
  · try (simp at hg9; show _)
    refine o_g y rfl rfl ?_
    refine o_rd (rd_move rfl) rfl ?_
    refine o_g y rfl rfl ?_
    refine o_rd (rd_move rfl) rfl ?_
    refine o_g y rfl rfl ?_
    refine o_rd (rd_nil rfl) rfl ?_
    refine o_g y rfl rfl ?_
    refine o_rd (rd_field rfl) rfl ?_
    refine o_g y rfl rfl ?_
    refine o_rd (rd_ld rfl (by repeat' first | exact List.Mem.head _ | apply List.Mem.tail | apply List.mem_append_right) rfl) rfl ?_
    refine o_g y rfl rfl ?_
    refine o_rd (rd_lenS rfl) rfl ?_
    refine o_g y rfl rfl ?_
    refine o_rd (rd_bin rfl rfl rfl) rfl ?_
    exact o_nil ⟨rfl, rfl, ⟨_, (by repeat (first | exact Split.nil | (apply Split.cons; next => repeat (first | exact Pick.here | apply Pick.there | apply Pick.app)) | (apply Split.chunk; next => repeat (first | exact PickL.here | exact PickL.last | apply PickL.there | apply PickL.app)) | (apply Split.lst; repeat (first | exact PickL.here | exact PickL.last | apply PickL.there | apply PickL.app))))⟩⟩
  refine o_rd (rd_move rfl) rfl ?_
  refine' o_or (j := 11) (k := 4) y rfl rfl rfl rfl rfl rfl rfl (fun hg18 => ?_) ?_
  rotate_left
  · try (simp at hg18; show _)
    refine o_g y rfl rfl ?_
    refine o_rd (rd_move rfl) rfl ?_
    refine o_g y rfl rfl ?_
    refine o_rd (rd_move rfl) rfl ?_
    refine o_g y rfl rfl ?_
    refine c_is rfl (rspareO_fn (r := r)) (by repeat (first | exact Split.nil | (apply Split.cons; next => repeat (first | exact Pick.here | apply Pick.there | apply Pick.app)) | (apply Split.chunk; next => repeat (first | exact PickL.here | exact PickL.last | apply PickL.there | apply PickL.app)) | (apply Split.lst; repeat (first | exact PickL.here | exact PickL.last | apply PickL.there | apply PickL.app)))) rfl (by repeat (first | exact Ap.nil | apply Ap.cons | apply Ap.app | exact Ap.one)) ?_
    refine o_g y rfl rfl ?_
    refine o_rd (rd_not rfl) rfl ?_
    exact o_nil ⟨rfl, rfl, ⟨_, (by repeat (first | exact Split.nil | (apply Split.cons; next => repeat (first | exact Pick.here | apply Pick.there | apply Pick.app)) | (apply Split.chunk; next => repeat (first | exact PickL.here | exact PickL.last | apply PickL.there | apply PickL.app)) | (apply Split.lst; repeat (first | exact PickL.here | exact PickL.last | apply PickL.there | apply PickL.app))))⟩⟩
  refine o_nil ?_
  refine n_K ?_
  refine s_cond rfl (fun c23 => ?_) (fun c23 => ?_)
  · skip
    refine s_seq ?_
    refine s_region0 (fun ops => ?_)
    refine o_rd (rd_assign rfl) rfl ?_
    refine o_nil ?_
    refine n_K ?_
    refine s_ret ?_
    refine r_K ?_
    exact leaf_r (rets1 Tryz.results54 (rv_tmp rfl)) (by exact .inl ⟨c23, rfl, rfl⟩) (by repeat (first | exact Split.nil | (apply Split.cons; next => repeat (first | exact Pick.here | apply Pick.there | apply Pick.app)) | (apply Split.chunk; next => repeat (first | exact PickL.here | exact PickL.last | apply PickL.there | apply PickL.app)) | (apply Split.lst; repeat (first | exact PickL.here | exact PickL.last | apply PickL.there | apply PickL.app))))
  · skip
    have hi : 0 ≤ i ∧ i < r.u.list.length := (by have h := c23; simp at h; omega)
    have hat := at0_get hi.1 hi.2
    have hx := hin _ (List.mem_of_getElem? hat)
    refine s_skip ?_
    refine n_K ?_
    refine s_seq ?_
    refine s_draw [] [(12, [(0, false), (1, false), (2, false), (3, false), (4, false), (5, false), (6, false), (7, false), (8, false), (9, false), (10, false), (11, false)]), (13, [(12, true)])] (by kernel_rfl) rfl (fun ops w0 H0 y => ?_)
    refine p_all ?_
    refine x_rd (rd_move rfl) rfl ?_
    refine x_rd (rd_nil rfl) rfl ?_
    refine x_rd (rd_field rfl) rfl ?_
    refine x_rd (rd_ld rfl (by repeat' first | exact List.Mem.head _ | apply List.Mem.tail | apply List.mem_append_right) rfl) rfl ?_
    refine x_rd (rd_move rfl) rfl ?_
    refine x_rd (rd_nil rfl) rfl ?_
    refine x_rd (rd_field rfl) rfl ?_
    refine x_rd (rd_ld rfl (by repeat' first | exact List.Mem.head _ | apply List.Mem.tail | apply List.mem_append_right) rfl) rfl ?_
    refine x_rd (rd_move rfl) rfl ?_
    refine x_rd (rd_ixSl rfl rfl hi) rfl ?_
    refine x_rd (rd_ldSl (o := 0) rfl (by repeat (first | exact PickL.here | exact PickL.last | apply PickL.there | apply PickL.app)) hat rfl rfl) rfl ?_
    refine x_rd (rd_ixSl rfl rfl hx) rfl ?_
    refine x_nil ?_
    refine p_none ?_
    refine x_so ?_
    obtain ⟨q', hq'⟩ : ∃ q', q' = r.l.set (at0 r.u.list i).toNat true := ⟨_, rfl⟩; refine o_storeSl (s := r.l) (o := 0) (z' := true) rfl rfl (by repeat (first | exact UpdL.here | exact UpdL.last | apply UpdL.there | apply UpdL.app)) hol (atB_get hx.1 hx.2) rfl rfl rfl (by rw [off_own hol]; exact Nat.zero_add _) ?_; rw [← hq']; have hv' : q'.val = r.l.val := (by rw [hq', Sl.set_val])
    refine o_nil ⟨rfl, ⟨_, (by repeat (first | exact Split.nil | (apply Split.cons; next => repeat (first | exact Pick.here | apply Pick.there | apply Pick.app)) | (apply Split.chunk; next => repeat (first | exact PickL.here | exact PickL.last | apply PickL.there | apply PickL.app)) | (apply Split.lst; repeat (first | exact PickL.here | exact PickL.last | apply PickL.there | apply PickL.app))))⟩, ?_⟩
    refine x_nil ?_
    refine p_end ?_
    refine n_K ?_
    refine s_seq ?_
    refine s_region0 (fun ops => ?_)
    refine o_rd (rd_move rfl) rfl ?_
    refine o_rd (rd_nil rfl) rfl ?_
    refine o_rd (rd_field rfl) rfl ?_
    refine o_rd (rd_ld rfl (by repeat' first | exact List.Mem.head _ | apply List.Mem.tail | apply List.mem_append_right) rfl) rfl ?_
    refine o_rd (rd_move rfl) rfl ?_
    refine o_rd (rd_move rfl) rfl ?_
    refine o_rd (rd_ixSl rfl rfl hi) rfl ?_
    obtain ⟨q2, hq2⟩ : ∃ q2, q2 = r.u.set i.toNat b := ⟨_, rfl⟩; refine o_storeSl (s := r.u) (o := 0) (z' := b) rfl rfl (by repeat (first | exact UpdL.here | exact UpdL.last | apply UpdL.there | apply UpdL.app)) hou hat rfl rfl rfl (by rw [off_own hou]; exact Nat.zero_add _) ?_; rw [← hq2]; have hv2 : q2.val = r.u.val := (by rw [hq2, Sl.set_val])
    refine o_nil ?_
    refine n_K ?_
    refine s_seq ?_
    refine s_region0 (fun ops => ?_)
    refine o_rd (rd_assign rfl) rfl ?_
    refine o_nil ?_
    refine n_K ?_
    refine s_ret ?_
    exact leaf_r (rets1 Tryz.results54 (rv_tmp rfl)) (by exact .inr ⟨c23, rfl, ⟨r.b, q2, q'⟩, rfl, rfl, by rw [hq2, Sl.set_list _ _ _ hou], by rw [hq', Sl.set_list _ _ _ hol], by rw [hq2]; exact Sl.set_isOwn _ _ _ hou, by rw [hq']; exact Sl.set_isOwn _ _ _ hol⟩) (by rw [refH_mk hv2 hv']; exact (by repeat (first | exact Split.nil | (apply Split.cons; next => repeat (first | exact Pick.here | apply Pick.there | apply Pick.app)) | (apply Split.chunk; next => repeat (first | exact PickL.here | exact PickL.last | apply PickL.there | apply PickL.app)) | (apply Split.lst; repeat (first | exact PickL.here | exact PickL.last | apply PickL.there | apply PickL.app)))))
end
end Go.Proofs.YtdfidkhbldedlaaGreat
