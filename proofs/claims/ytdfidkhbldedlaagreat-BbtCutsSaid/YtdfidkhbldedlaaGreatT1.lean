/- Walks of package bbt: plans, pages, areas. -/
import Derived.Test.YtdfidkhbldedlaaGreatK16
import Derived.Test.YtdfidkhbldedlaaGreatF1
import Derived.Test.YtdfidkhbldedlaaGreatT0
namespace Go.Proofs.YtdfidkhbldedlaaGreat
open Go.K
set_option linter.unusedVariables false
set_option linter.unusedSimpArgs false
instance agg102 : Agg Tryz.prog 102 true := ⟨⟨_, Tryz.underlying102, rfl⟩⟩
instance siz102 : Siz Tryz.prog 102 2 := ⟨by kernel_rfl⟩
instance agg105 : Agg Tryz.prog 105 true := ⟨⟨_, Tryz.underlying105, rfl⟩⟩
instance siz105 : Siz Tryz.prog 105 7 := ⟨by kernel_rfl⟩
instance zer3 : Zer Tryz.prog 3 ([.int .i64 0]) := ⟨by kernel_rfl⟩
instance zer102 : Zer Tryz.prog 102 ([.slice none 0 0, .slice none 0 0]) := ⟨by kernel_rfl⟩
instance zer103 : Zer Tryz.prog 103 ([.int .u64 0]) := ⟨by kernel_rfl⟩
instance fld102_0 : Fld Tryz.prog 102 0 0 := ⟨⟨_, _, 0, Tryz.underlying102, rfl, by kernel_rfl, rfl⟩⟩
instance fld102_1 : Fld Tryz.prog 102 1 1 := ⟨⟨_, _, 0, Tryz.underlying102, rfl, by kernel_rfl, rfl⟩⟩
instance plc102 : Plc Tryz.prog 102 [(0, 1), (1, 1)] := ⟨⟨_, Tryz.underlying102, fun _ => by kernel_rfl⟩⟩
instance byt3 : Byt Tryz.prog 3 8 := ⟨by kernel_rfl⟩
instance ent47 : Ent Tryz.prog 47 := ⟨fun _ _ => by kernel_rfl⟩
instance ent67 : Ent Tryz.prog 67 := ⟨fun _ _ => by kernel_rfl⟩
instance ent77 : Ent Tryz.prog 77 := ⟨fun _ _ => by kernel_rfl⟩
instance ent101 : Ent Tryz.prog 101 := ⟨fun _ _ => by kernel_rfl⟩
instance ent102 : Ent Tryz.prog 102 := ⟨fun _ _ => by kernel_rfl⟩
instance ent114 : Ent Tryz.prog 114 := ⟨fun _ _ => by kernel_rfl⟩
instance ent122 : Ent Tryz.prog 122 := ⟨fun _ _ => by kernel_rfl⟩
instance ent128 : Ent Tryz.prog 128 := ⟨fun _ _ => by kernel_rfl⟩
instance ent138 : Ent Tryz.prog 138 := ⟨fun _ _ => by kernel_rfl⟩

abbrev tPl : TypeId := 102
abbrev tTb : TypeId := 105
theorem answers_fn {c : Chip} : Does Tryz.prog 47 [ptr c.aC] (chH c) (Is (.int .i64 (mayE c 0 0)) (chH c)) := by
  refine fn_enter (n := 11) Tryz.func47 Tryz.ntmps47 rfl (Nat.le_of_ble_eq_true rfl) ?_
  refine s_seq ?_
  refine s_region0 (fun ops => ?_)
  refine o_rd (rd_assign rfl) rfl ?_
  refine o_nil ?_
  refine n_K ?_
  refine s_seq ?_
  refine s_region0 (fun ops => ?_)
  refine o_rd (rd_move rfl) rfl ?_
  refine c_is rfl (read_fn) (by repeat (first | exact Split.nil | (apply Split.cons; next => repeat (first | exact Pick.here | apply Pick.there | apply Pick.app)) | (apply Split.chunk; next => repeat (first | exact PickL.here | exact PickL.last | apply PickL.there | apply PickL.app)) | (apply Split.lst; repeat (first | exact PickL.here | exact PickL.last | apply PickL.there | apply PickL.app)))) rfl (by repeat (first | exact Ap.nil | apply Ap.cons | apply Ap.app | exact Ap.one)) ?_
  refine o_rd (rd_move rfl) rfl ?_
  refine o_rd (rd_extract rfl rfl) rfl ?_
  refine o_rd (rd_extract rfl rfl) rfl ?_
  refine o_alloc rfl (fun b3 => ?_)
  first | refine o_store rfl rfl (by repeat' first | exact Upd.here | apply Upd.there | apply Upd.app) (vc_vb) (vbc_len) (spl_vb (by first | exact vbc_len | exact List.length_replicate ..)) ?_ | refine o_store rfl rfl (by repeat' first | exact Upd.here | apply Upd.there | apply Upd.app) rfl rfl rfl ?_
  refine o_rd (rd_assign rfl) rfl ?_
  refine o_nil ?_
  refine n_K ?_
  refine s_seq ?_
  refine s_region0 (fun ops => ?_)
  refine o_rd (rd_move rfl) rfl ?_
  refine o_rd (rd_assign rfl) rfl ?_
  refine o_nil ?_
  refine n_K ?_
  refine s_ret ?_
  refine leaf_is (rets1 Tryz.results47 (rv_tmp rfl)) ?_ (by repeat (first | exact Split.nil | (apply Split.cons; next => repeat (first | exact Pick.here | apply Pick.there | apply Pick.app)) | (apply Split.chunk; next => repeat (first | exact PickL.here | exact PickL.last | apply PickL.there | apply PickL.app)) | (apply Split.lst; repeat (first | exact PickL.here | exact PickL.last | apply PickL.there | apply PickL.app))))
  rfl
/-! sorting -/
theorem nan_fn {x : Int} : Does Tryz.prog 138 [.int .i64 x] [] (Is (.bool false) []) := by
  refine fn_enter (n := 6) Tryz.func138 Tryz.ntmps138 rfl (Nat.le_of_ble_eq_true rfl) ?_
  refine s_seq ?_
  refine s_region0 (fun ops => ?_)
  refine o_rd (rd_assign rfl) rfl ?_
  refine o_nil ?_
  refine n_K ?_
  refine s_seq ?_
  refine s_region0 (fun ops => ?_)
  refine o_rd (rd_move rfl) rfl ?_
  refine o_rd (rd_move rfl) rfl ?_
  refine o_rd (rd_bin rfl rfl rfl) rfl ?_
  refine o_rd (rd_assign rfl) rfl ?_
  refine o_nil ?_
  refine n_K ?_
  refine s_ret ?_
  refine leaf_is (rets1 Tryz.results138 (rv_tmp rfl)) ?_ (by repeat (first | exact Split.nil | (apply Split.cons; next => repeat (first | exact Pick.here | apply Pick.there | apply Pick.app)) | (apply Split.chunk; next => repeat (first | exact PickL.here | exact PickL.last | apply PickL.there | apply PickL.app)) | (apply Split.lst; repeat (first | exact PickL.here | exact PickL.last | apply PickL.there | apply PickL.app))))
  simp
theorem less_fn {x y : Int} : Does Tryz.prog 128 [.int .i64 x, .int .i64 y] [] (Is (.bool (decide (x < y))) []) := by
  refine fn_enter (n := 17) Tryz.func128 Tryz.ntmps128 rfl (Nat.le_of_ble_eq_true rfl) ?_
  refine s_seq ?_
  refine s_region0 (fun ops => ?_)
  refine o_rd (rd_assign rfl) rfl ?_
  refine o_nil ?_
  refine n_K ?_
  refine s_seq ?_
  refine s_region [(2, 7), (7, 12)] rfl (fun ops y => ?_)
  refine o_rd (rd_move rfl) rfl ?_
  refine c_is rfl (nan_fn) (by repeat (first | exact Split.nil | (apply Split.cons; next => repeat (first | exact Pick.here | apply Pick.there | apply Pick.app)) | (apply Split.chunk; next => repeat (first | exact PickL.here | exact PickL.last | apply PickL.there | apply PickL.app)) | (apply Split.lst; repeat (first | exact PickL.here | exact PickL.last | apply PickL.there | apply PickL.app)))) rfl (by repeat (first | exact Ap.nil | apply Ap.cons | apply Ap.app | exact Ap.one)) ?_
  refine o_rd (rd_move rfl) rfl ?_
  refine' o_and (j := 2) (k := 3) (u := false) y rfl rfl rfl rfl rfl rfl rfl (fun hg7 => absurd hg7 (by simp)) ?_
  refine o_rd (rd_move rfl) rfl ?_
  refine' o_or (j := 7) (k := 3) y rfl rfl rfl rfl rfl rfl rfl (fun hg12 => ?_) ?_
  rotate_left
  · try simp at hg12
    refine o_g y rfl rfl ?_
    refine o_rd (rd_move rfl) rfl ?_
    refine o_g y rfl rfl ?_
    refine o_rd (rd_move rfl) rfl ?_
    refine o_g y rfl rfl ?_
    refine o_rd (rd_bin rfl rfl rfl) rfl ?_
    exact o_nil ⟨rfl, rfl, ⟨_, (by repeat (first | exact Split.nil | (apply Split.cons; next => repeat (first | exact Pick.here | apply Pick.there | apply Pick.app)) | (apply Split.chunk; next => repeat (first | exact PickL.here | exact PickL.last | apply PickL.there | apply PickL.app)) | (apply Split.lst; repeat (first | exact PickL.here | exact PickL.last | apply PickL.there | apply PickL.app))))⟩⟩
  refine o_rd (rd_assign rfl) rfl ?_
  refine o_nil ?_
  refine n_K ?_
  refine s_ret ?_
  refine leaf_is (rets1 Tryz.results128 (rv_tmp rfl)) ?_ (by repeat (first | exact Split.nil | (apply Split.cons; next => repeat (first | exact Pick.here | apply Pick.there | apply Pick.app)) | (apply Split.chunk; next => repeat (first | exact PickL.here | exact PickL.last | apply PickL.there | apply PickL.app)) | (apply Split.lst; repeat (first | exact PickL.here | exact PickL.last | apply PickL.there | apply PickL.app))))
  simp
theorem off_own {α : Type} [Cel α] {s : Sl α} (h : s.isOwn = true) : s.off = 0 := by cases s <;> first | rfl | simp [Sl.isOwn] at h
theorem swap_perm {l : List Int} {i j : Nat} {a b : Int} (hi : l[i]? = some a) (hj : l[j]? = some b) : ((l.set i b).set j a).Perm l := by
  obtain ⟨h1, rfl⟩ := List.getElem?_eq_some_iff.1 hi
  obtain ⟨h2, rfl⟩ := List.getElem?_eq_some_iff.1 hj
  exact List.set_set_perm h1 h2
theorem insertion_fn {s : Sl Int} (ho : s.isOwn = true) : Does Tryz.prog 122 [s.val, .int .i64 0, .int .i64 s.list.length] (s.hp tI ++ []) (fun v H => v = .tuple #[] ∧ ∃ s' : Sl Int, H = s'.hp tI ++ [] ∧ s'.val = s.val ∧ s'.isOwn = true ∧ s'.list.Perm s.list) := by
  have hsm := s.small
  refine fn_enter (n := 49) Tryz.func122 Tryz.ntmps122 rfl (Nat.le_of_ble_eq_true rfl) ?_
  refine s_seq ?_
  refine s_region0 (fun ops => ?_)
  refine o_rd (rd_move rfl) rfl ?_
  refine o_rd (rd_add64 rfl rfl (by omega)) rfl ?_
  refine o_rd (rd_assign rfl) rfl ?_
  refine o_nil ?_
  refine n_K ?_
  refine s_block ?_
  refine s_loop2 [0, 1, 2] (by repeat' first | exact Keep2.nil | apply Keep2.cons rfl) (fun (st : Int × Sl Int) => [(6, .int .i64 st.1)]) (fun (st : Int × Sl Int) => (st.2.hp tI ++ [])) (fun (st : Int × Sl Int) => 1 ≤ st.1 ∧ st.2.val = s.val ∧ st.2.isOwn = true ∧ st.2.list.Perm s.list) (fun (st : Int × Sl Int) => ((s.list.length : Int) - st.1).toNat) ((0 + 1, s)) ⟨by show (1 : Int) ≤ 0 + 1; omega, rfl, ho, List.Perm.refl _⟩ (by repeat' first | exact Keep.nil | refine Keep.cons rfl ?_) (by repeat (first | exact Split.nil | (apply Split.cons; next => repeat (first | exact Pick.here | apply Pick.there | apply Pick.app)) | (apply Split.chunk; next => repeat (first | exact PickL.here | exact PickL.last | apply PickL.there | apply PickL.app)) | (apply Split.lst; repeat (first | exact PickL.here | exact PickL.last | apply PickL.there | apply PickL.app)))) ?_
  rintro ⟨i, s1⟩ ⟨h0, h1, h2, h3⟩
  simp only at h0 h1 h2 h3
  refine s_seq ?_
  refine s_seq ?_
  refine s_region0 (fun ops => ?_)
  refine o_rd (rd_move rfl) rfl ?_
  refine o_rd (rd_move rfl) rfl ?_
  refine o_rd (rd_bin rfl rfl rfl) rfl ?_
  refine o_nil ?_
  refine n_K ?_
  refine s_cond rfl (fun c12 => ?_) (fun c12 => ?_)
  · simp only [decide_eq_true_eq, decide_eq_false_iff_not] at c12
    refine s_skip ?_
    refine n_K ?_
    refine s_seq ?_
    refine s_block ?_
    refine s_seq ?_
    refine s_region0 (fun ops => ?_)
    refine o_rd (rd_move rfl) rfl ?_
    refine o_rd (rd_assign rfl) rfl ?_
    refine o_nil ?_
    refine n_K ?_
    refine s_block ?_
    refine s_loop2 [0, 1, 2, 6] (by repeat' first | exact Keep2.nil | apply Keep2.cons rfl) (fun (st : Int × Sl Int) => [(7, .int .i64 st.1)]) (fun (st : Int × Sl Int) => (st.2.hp tI ++ [])) (fun (st : Int × Sl Int) => 0 ≤ st.1 ∧ st.1 ≤ i ∧ st.2.val = s.val ∧ st.2.isOwn = true ∧ st.2.list.Perm s.list) (fun (st : Int × Sl Int) => st.1.toNat) ((i, s1)) ⟨by omega, Int.le_refl _, h1, h2, h3⟩ (by repeat' first | exact Keep.nil | refine Keep.cons rfl ?_) (by repeat (first | exact Split.nil | (apply Split.cons; next => repeat (first | exact Pick.here | apply Pick.there | apply Pick.app)) | (apply Split.chunk; next => repeat (first | exact PickL.here | exact PickL.last | apply PickL.there | apply PickL.app)) | (apply Split.lst; repeat (first | exact PickL.here | exact PickL.last | apply PickL.there | apply PickL.app)))) ?_
    rintro ⟨j, s2⟩ ⟨k0, k1, k2, k3, k4⟩
    simp only at k0 k1 k2 k3 k4
    have hlen : s2.list.length = s.list.length := k4.length_eq
    have hoff := off_own k3
    refine s_seq ?_
    refine s_seq ?_
    refine s_draw [(3, 19)] [(3, [(0, false), (1, false), (2, false)]), (15, [(3, false), (4, false), (5, false), (6, false), (7, false), (8, false), (9, false), (10, false), (11, false), (12, false), (13, true), (14, false)])] (by kernel_rfl) rfl (fun ops w0 H0 y => ?_)
    refine p_all ?_
    refine x_rd (rd_move rfl) rfl ?_
    refine x_rd (rd_move rfl) rfl ?_
    refine x_rd (rd_bin rfl rfl rfl) rfl ?_
    refine x_nil ?_
    refine p_all ?_
    refine x_rd (rd_move rfl) rfl ?_
    refine' x_and (j := 3) (k := 10) y rfl rfl rfl rfl rfl rfl rfl (fun hg19 => ?_) ?_
    rotate_left
    · try simp at hg19
      refine x_g y rfl rfl ?_
      refine x_rd (rd_move rfl) rfl ?_
      refine x_g y rfl rfl ?_
      refine x_rd (rd_move rfl) rfl ?_
      refine x_g y rfl rfl ?_
      refine x_rd (rd_ixSl (s := s2) (by rw [k2]; rfl) rfl ⟨k0, by omega⟩) rfl ?_
      refine x_g y rfl rfl ?_
      refine x_rd (rd_ldSl (s := s2) (o := 0) rfl (by repeat (first | exact PickL.here | exact PickL.last | apply PickL.there | apply PickL.app)) (at0_get k0 (by omega)) rfl rfl) rfl ?_
      refine x_g y rfl rfl ?_
      refine x_rd (rd_move rfl) rfl ?_
      refine x_g y rfl rfl ?_
      refine x_rd (rd_move rfl) rfl ?_
      refine x_g y rfl rfl ?_
      refine x_rd (rd_sub64 rfl rfl (by omega)) rfl ?_
      refine x_g y rfl rfl ?_
      refine x_rd (rd_ixSl (s := s2) (by rw [k2]; rfl) rfl ⟨by omega, by omega⟩) rfl ?_
      refine x_g y rfl rfl ?_
      refine x_rd (rd_ldSl (s := s2) (o := 0) rfl (by repeat (first | exact PickL.here | exact PickL.last | apply PickL.there | apply PickL.app)) (at0_get (i := j - 1) (by omega) (by omega)) rfl rfl) rfl ?_
      refine x_g y rfl rfl ?_
      refine x_so ?_
      refine c_is rfl (less_fn) (by repeat (first | exact Split.nil | (apply Split.cons; next => repeat (first | exact Pick.here | apply Pick.there | apply Pick.app)) | (apply Split.chunk; next => repeat (first | exact PickL.here | exact PickL.last | apply PickL.there | apply PickL.app)) | (apply Split.lst; repeat (first | exact PickL.here | exact PickL.last | apply PickL.there | apply PickL.app)))) rfl (by repeat (first | exact Ap.nil | apply Ap.cons | apply Ap.app | exact Ap.one)) ?_
      refine o_nil ⟨rfl, ⟨_, (by repeat (first | exact Split.nil | (apply Split.cons; next => repeat (first | exact Pick.here | apply Pick.there | apply Pick.app)) | (apply Split.chunk; next => repeat (first | exact PickL.here | exact PickL.last | apply PickL.there | apply PickL.app)) | (apply Split.lst; repeat (first | exact PickL.here | exact PickL.last | apply PickL.there | apply PickL.app))))⟩, ?_⟩
      exact x_nil ⟨rfl, ⟨_, (by repeat (first | exact Split.nil | (apply Split.cons; next => repeat (first | exact Pick.here | apply Pick.there | apply Pick.app)) | (apply Split.chunk; next => repeat (first | exact PickL.here | exact PickL.last | apply PickL.there | apply PickL.app)) | (apply Split.lst; repeat (first | exact PickL.here | exact PickL.last | apply PickL.there | apply PickL.app))))⟩⟩
    refine x_nil ?_
    refine p_end ?_
    refine n_K ?_
    refine s_cond rfl (fun c30 => ?_) (fun c30 => ?_)
    · skip
      have hj : 0 < j := (by simp at c30; exact c30.1)
      have ga := at0_get (xs := s2.list) k0 (by omega)
      have gb := at0_get (xs := s2.list) (i := j - 1) (by omega) (by omega)
      obtain ⟨s3, hs3⟩ : ∃ s3, s3 = s2.set j.toNat (at0 s2.list (j - 1)) := ⟨_, rfl⟩
      have q1 : s3.val = s.val := (by rw [hs3, Sl.set_val, k2])
      have q2 : s3.list = s2.list.set j.toNat (at0 s2.list (j - 1)) := (by rw [hs3, Sl.set_list _ _ _ k3])
      have q3 : s3.isOwn = true := (by rw [hs3]; exact Sl.set_isOwn _ _ _ k3)
      have q4 : s3.list[(j - 1).toNat]? = some (at0 s2.list (j - 1)) := (by rw [q2, List.getElem?_set_ne (by omega)]; exact gb)
      refine s_skip ?_
      refine n_K ?_
      refine s_seq ?_
      refine s_block ?_
      refine s_drawM [] [0, 1, 2, 3, 4, 5, 6, 7, 8, 10, 11, 12] [[(9, false), (13, false)], [(14, false)], [(15, true)], [(16, false)], [(17, true)]] (by kernel_rfl) rfl rfl (fun ops w0 H0 y => ?_)
      unfold SPre
      refine x_rd (rd_move rfl) rfl ?_
      refine x_rd (rd_move rfl) rfl ?_
      refine x_rd (rd_move rfl) rfl ?_
      refine x_rd (rd_move rfl) rfl ?_
      refine x_rd (rd_sub64 rfl rfl (by omega)) rfl ?_
      refine x_rd (rd_move rfl) rfl ?_
      refine x_rd (rd_move rfl) rfl ?_
      refine x_rd (rd_sub64 rfl rfl (by omega)) rfl ?_
      refine x_rd (rd_ixSl (s := s2) (by rw [k2]; rfl) rfl ⟨by omega, by omega⟩) rfl ?_
      refine x_rd (rd_move rfl) rfl ?_
      refine x_rd (rd_move rfl) rfl ?_
      refine x_rd (rd_ixSl (s := s2) (by rw [k2]; rfl) rfl ⟨by omega, by omega⟩) rfl ?_
      refine x_nil ?_
      refine p_all ?_
      refine x_rd (rd_ldSl (s := s2) (o := 0) rfl (by repeat (first | exact PickL.here | exact PickL.last | apply PickL.there | apply PickL.app)) gb rfl rfl) rfl ?_
      refine x_rd (rd_ldSl (s := s2) (o := 0) rfl (by repeat (first | exact PickL.here | exact PickL.last | apply PickL.there | apply PickL.app)) ga rfl rfl) rfl ?_
      refine x_nil ?_
      refine p_all ?_
      refine x_rd (rd_ixSl (s := s2) (by rw [k2]; rfl) rfl ⟨by omega, by omega⟩) rfl ?_
      refine x_nil ?_
      refine p_none ?_
      refine x_so ?_
      first | (refine o_storeSl (s := s2) (o := 0) (z' := at0 s2.list (j - 1)) rfl rfl (by repeat (first | exact UpdL.here | exact UpdL.last | apply UpdL.there | apply UpdL.app)) k3 ga rfl rfl rfl (by rw [hoff]; exact Nat.zero_add _) ?_; rw [← hs3]) | refine o_storeSl (s := s3) (o := 0) (z' := at0 s2.list j) rfl rfl (by repeat (first | exact UpdL.here | exact UpdL.last | apply UpdL.there | apply UpdL.app)) q3 q4 rfl rfl rfl (by rw [off_own q3]; exact Nat.zero_add _) ?_
      refine o_nil ⟨rfl, ⟨_, (by repeat (first | exact Split.nil | (apply Split.cons; next => repeat (first | exact Pick.here | apply Pick.there | apply Pick.app)) | (apply Split.chunk; next => repeat (first | exact PickL.here | exact PickL.last | apply PickL.there | apply PickL.app)) | (apply Split.lst; repeat (first | exact PickL.here | exact PickL.last | apply PickL.there | apply PickL.app))))⟩, ?_⟩
      refine x_nil ?_
      refine p_all ?_
      refine x_rd (rd_ixSl (s := s3) (by rw [q1]; rfl) rfl ⟨by omega, by rw [q2, List.length_set]; omega⟩) rfl ?_
      refine x_nil ?_
      refine p_none ?_
      refine x_so ?_
      first | (refine o_storeSl (s := s2) (o := 0) (z' := at0 s2.list (j - 1)) rfl rfl (by repeat (first | exact UpdL.here | exact UpdL.last | apply UpdL.there | apply UpdL.app)) k3 ga rfl rfl rfl (by rw [hoff]; exact Nat.zero_add _) ?_; rw [← hs3]) | refine o_storeSl (s := s3) (o := 0) (z' := at0 s2.list j) rfl rfl (by repeat (first | exact UpdL.here | exact UpdL.last | apply UpdL.there | apply UpdL.app)) q3 q4 rfl rfl rfl (by rw [off_own q3]; exact Nat.zero_add _) ?_
      refine o_nil ⟨rfl, ⟨_, (by repeat (first | exact Split.nil | (apply Split.cons; next => repeat (first | exact Pick.here | apply Pick.there | apply Pick.app)) | (apply Split.chunk; next => repeat (first | exact PickL.here | exact PickL.last | apply PickL.there | apply PickL.app)) | (apply Split.lst; repeat (first | exact PickL.here | exact PickL.last | apply PickL.there | apply PickL.app))))⟩, ?_⟩
      refine x_nil ?_
      refine p_end ?_
      refine n_blk ?_
      refine n_K ?_
      refine s_region0 (fun ops => ?_)
      refine o_rd (rd_move rfl) rfl ?_
      refine o_rd (rd_sub64 rfl rfl (by omega)) rfl ?_
      refine o_rd (rd_assign rfl) rfl ?_
      refine o_nil ?_
      refine n_K ?_
      exact ⟨(j - 1, s3.set (j - 1).toNat (at0 s2.list j)), ⟨by simp only; omega, by simp only; omega, by rw [Sl.set_val, q1], Sl.set_isOwn _ _ _ q3, by simp only; rw [Sl.set_list _ _ _ q3, q2]; exact (swap_perm ga gb).trans k4⟩, (by simp only; omega), (by repeat' first | exact Keep.nil | refine Keep.cons rfl ?_), (by repeat' first | exact Keep.nil | refine Keep.cons rfl ?_), _, (by repeat (first | exact Split.nil | (apply Split.cons; next => repeat (first | exact Pick.here | apply Pick.there | apply Pick.app)) | (apply Split.chunk; next => repeat (first | exact PickL.here | exact PickL.last | apply PickL.there | apply PickL.app)) | (apply Split.lst; repeat (first | exact PickL.here | exact PickL.last | apply PickL.there | apply PickL.app))))⟩
    · skip
      refine s_exit ?_
      refine x_K ?_
      refine x_K ?_
      refine x_blk ?_
      refine n_blk ?_
      refine n_K ?_
      refine s_region0 (fun ops => ?_)
      refine o_rd (rd_move rfl) rfl ?_
      refine o_rd (rd_add64 rfl rfl (by omega)) rfl ?_
      refine o_rd (rd_assign rfl) rfl ?_
      refine o_nil ?_
      refine n_K ?_
      exact ⟨(i + 1, s2), ⟨by simp only; omega, k2, k3, k4⟩, (by simp only; omega), (by repeat' first | exact Keep.nil | refine Keep.cons rfl ?_), (by repeat' first | exact Keep.nil | refine Keep.cons rfl ?_), _, (by repeat (first | exact Split.nil | (apply Split.cons; next => repeat (first | exact Pick.here | apply Pick.there | apply Pick.app)) | (apply Split.chunk; next => repeat (first | exact PickL.here | exact PickL.last | apply PickL.there | apply PickL.app)) | (apply Split.lst; repeat (first | exact PickL.here | exact PickL.last | apply PickL.there | apply PickL.app))))⟩
  · simp only [decide_eq_true_eq, decide_eq_false_iff_not] at c12
    refine s_exit ?_
    refine x_K ?_
    refine x_K ?_
    refine x_blk ?_
    exact leaf_rN (ret0 Tryz.results122) (by exact ⟨rfl, s1, rfl, h1, h2, h3⟩) (by repeat (first | exact Split.nil | (apply Split.cons; next => repeat (first | exact Pick.here | apply Pick.there | apply Pick.app)) | (apply Split.chunk; next => repeat (first | exact PickL.here | exact PickL.last | apply PickL.there | apply PickL.app)) | (apply Split.lst; repeat (first | exact PickL.here | exact PickL.last | apply PickL.there | apply PickL.app))))
theorem pdq_fn {s : Sl Int} {x : Int} (ho : s.isOwn = true) (hn : s.list.length ≤ 12) : Does Tryz.prog 114 [s.val, .int .i64 0, .int .i64 s.list.length, .int .i64 x] (s.hp tI ++ []) (fun v H => v = .tuple #[] ∧ ∃ s' : Sl Int, H = s'.hp tI ++ [] ∧ s'.val = s.val ∧ s'.isOwn = true ∧ s'.list.Perm s.list) := by
  refine fn_enter (n := 134) Tryz.func114 Tryz.ntmps114 rfl (Nat.le_of_ble_eq_true rfl) ?_
  refine s_seq ?_
  refine s_region0 (fun ops => ?_)
  refine o_rd (rd_assign rfl) rfl ?_
  refine o_nil ?_
  refine n_K ?_
  refine s_seq ?_
  refine s_region0 (fun ops => ?_)
  refine o_rd (rd_assign rfl) rfl ?_
  refine o_nil ?_
  refine n_K ?_
  refine s_block ?_
  refine s_loop2E [0, 1, 2, 3] (by repeat' first | exact Keep2.nil | apply Keep2.cons rfl) (fun (_u : Unit) => []) (fun (_u : Unit) => True) (fun (_u : Unit) => 0) (()) (by first | trivial | omega | simp) (by repeat' first | exact Keep.nil | refine Keep.cons rfl ?_) ?_
  rintro _ _
  refine s_block ?_
  refine s_seq ?_
  refine s_region0 (fun ops => ?_)
  refine o_rd (rd_move rfl) rfl ?_
  refine o_rd (rd_move rfl) rfl ?_
  refine o_rd (rd_sub64 rfl rfl (by omega)) rfl ?_
  refine o_rd (rd_assign rfl) rfl ?_
  refine o_nil ?_
  refine n_K ?_
  refine s_seq ?_
  refine s_seq ?_
  refine s_region0 (fun ops => ?_)
  refine o_rd (rd_move rfl) rfl ?_
  refine o_rd (rd_bin rfl rfl rfl) rfl ?_
  refine o_nil ?_
  refine n_K ?_
  refine s_cond rfl (fun c23 => ?_) (fun c23 => ?_)
  · simp only [decide_eq_true_eq, decide_eq_false_iff_not] at c23
    refine s_seq ?_
    refine s_region0 (fun ops => ?_)
    refine o_rd (rd_move rfl) rfl ?_
    refine o_rd (rd_move rfl) rfl ?_
    refine o_rd (rd_move rfl) rfl ?_
    refine c_ex rfl (insertion_fn ho) (by repeat (first | exact Split.nil | (apply Split.cons; next => repeat (first | exact Pick.here | apply Pick.there | apply Pick.app)) | (apply Split.chunk; next => repeat (first | exact PickL.here | exact PickL.last | apply PickL.there | apply PickL.app)) | (apply Split.lst; repeat (first | exact PickL.here | exact PickL.last | apply PickL.there | apply PickL.app)))) rfl (fun v27 Y27 h27 => ?_)
    obtain ⟨rfl, s27, rfl, hv27, ho27, hp27⟩ := h27
    refine so_ap (by repeat (first | exact Ap.nil | apply Ap.cons | apply Ap.app | exact Ap.one)) ?_
    refine o_nil ?_
    refine n_K ?_
    refine s_ret ?_
    refine r_K ?_
    refine r_blk ?_
    refine r_K ?_
    refine r_blk ?_
    exact leaf_r (ret0 Tryz.results114) (by exact ⟨rfl, s27, rfl, hv27, ho27, hp27⟩) (by repeat (first | exact Split.nil | (apply Split.cons; next => repeat (first | exact Pick.here | apply Pick.there | apply Pick.app)) | (apply Split.chunk; next => repeat (first | exact PickL.here | exact PickL.last | apply PickL.there | apply PickL.app)) | (apply Split.lst; repeat (first | exact PickL.here | exact PickL.last | apply PickL.there | apply PickL.app))))
  · simp only [decide_eq_true_eq, decide_eq_false_iff_not] at c23
    omega
theorem sort_fn {s : Sl Int} (ho : s.isOwn = true) (hn : s.list.length ≤ 12) : Does Tryz.prog 102 [s.val] (s.hp tI ++ []) (fun v H => v = .tuple #[] ∧ ∃ s' : Sl Int, H = s'.hp tI ++ [] ∧ s'.val = s.val ∧ s'.isOwn = true ∧ s'.list.Perm s.list) := by
  refine fn_enter (n := 11) Tryz.func102 Tryz.ntmps102 rfl (Nat.le_of_ble_eq_true rfl) ?_
  refine s_seq ?_
  refine s_region0 (fun ops => ?_)
  refine o_rd (rd_move rfl) rfl ?_
  refine o_rd (rd_lenS rfl) rfl ?_
  refine o_rd (rd_assign rfl) rfl ?_
  refine o_nil ?_
  refine n_K ?_
  refine s_region0 (fun ops => ?_)
  refine o_rd (rd_move rfl) rfl ?_
  refine o_rd (rd_move rfl) rfl ?_
  refine o_rd (rd_move rfl) rfl ?_
  refine o_rd (rd_convN rfl (wrapN_u .u64 rfl (by show _ < 2 ^ 64; omega))) rfl ?_
  refine c_is rfl (len_fn (n := s.list.length) (by omega)) (by repeat (first | exact Split.nil | (apply Split.cons; next => repeat (first | exact Pick.here | apply Pick.there | apply Pick.app)) | (apply Split.chunk; next => repeat (first | exact PickL.here | exact PickL.last | apply PickL.there | apply PickL.app)) | (apply Split.lst; repeat (first | exact PickL.here | exact PickL.last | apply PickL.there | apply PickL.app)))) rfl (by repeat (first | exact Ap.nil | apply Ap.cons | apply Ap.app | exact Ap.one)) ?_
  refine c_ex rfl (pdq_fn ho hn) (by repeat (first | exact Split.nil | (apply Split.cons; next => repeat (first | exact Pick.here | apply Pick.there | apply Pick.app)) | (apply Split.chunk; next => repeat (first | exact PickL.here | exact PickL.last | apply PickL.there | apply PickL.app)) | (apply Split.lst; repeat (first | exact PickL.here | exact PickL.last | apply PickL.there | apply PickL.app)))) rfl (fun v10 Y10 h10 => ?_)
  obtain ⟨rfl, s10, rfl, hv10, ho10, hp10⟩ := h10
  refine so_ap (by repeat (first | exact Ap.nil | apply Ap.cons | apply Ap.app | exact Ap.one)) ?_
  refine o_nil ?_
  exact leaf_rN (ret0 Tryz.results102) (by exact ⟨rfl, s10, rfl, hv10, ho10, hp10⟩) (by repeat (first | exact Split.nil | (apply Split.cons; next => repeat (first | exact Pick.here | apply Pick.there | apply Pick.app)) | (apply Split.chunk; next => repeat (first | exact PickL.here | exact PickL.last | apply PickL.there | apply PickL.app)) | (apply Split.lst; repeat (first | exact PickL.here | exact PickL.last | apply PickL.there | apply PickL.app))))
theorem clonei_fn {s : Sl Int} {T : TypeId} (hs : s.list.length ≤ 1000) : Does Tryz.prog 67 [s.val] (s.hp T ++ []) (fun v H => ∃ s' : Sl Int, v = s'.val ∧ H = (s'.hp tI ++ (s.hp T ++ [])) ∧ s'.list = s.list ∧ s'.isOwn = true) := by
  refine fn_enter (n := 8) Tryz.func67 Tryz.ntmps67 rfl (Nat.le_of_ble_eq_true rfl) ?_
  refine s_seq ?_
  refine s_region0 (fun ops => ?_)
  refine o_rd (rd_assign rfl) rfl ?_
  refine o_nil ?_
  refine n_K ?_
  refine s_seq ?_
  refine s_seq ?_
  refine s_region0 (fun ops => ?_)
  refine o_rd (rd_move rfl) rfl ?_
  refine o_rd (rd_eqNilS rfl rfl) rfl ?_
  refine o_nil ?_
  refine n_K ?_
  refine s_cond rfl (fun c4 => ?_) (fun c4 => ?_)
  · skip
    have hn := Sl.nil_of s c4
    subst hn
    refine s_seq ?_
    refine s_region0 (fun ops => ?_)
    refine o_rd (rd_assign rfl) rfl ?_
    refine o_nil ?_
    refine n_K ?_
    refine s_ret ?_
    refine r_K ?_
    exact leaf_r (rets1 Tryz.results67 (rv_tmp rfl)) (by refine ⟨Sl.nil, rfl, rfl, rfl, rfl⟩) (by simp only [Sl.hp_nil, List.nil_append]; exact Split.nil)
  · skip
    refine s_skip ?_
    refine n_K ?_
    refine s_seq ?_
    refine s_region0 (fun ops => ?_)
    refine o_bslice_k rfl rfl rfl rfl (fun b5 => ?_)
    refine so_eq (own0 (α := Int) (b := b5) (T := tI)) ?_
    refine o_rd (rd_move rfl) rfl ?_
    refine o_append_sl (s := mt Int b5) (new := s.list) (m := s.list.length) rfl rfl (by repeat (first | exact PickL.here | exact PickL.last | apply PickL.there | apply PickL.app)) rfl (src_sl (by repeat (first | exact PickL.here | exact PickL.last | apply PickL.there | apply PickL.app))) rfl rfl rfl rfl (by rw [show (mt Int b5).list.length = 0 from rfl]; omega) rfl (fun s' hs1 hs2 => ?_)
    refine o_rd (rd_assign rfl) rfl ?_
    refine o_nil ?_
    refine n_K ?_
    refine s_ret ?_
    exact leaf_r (rets1 Tryz.results67 (rv_tmp rfl)) (by exact ⟨s', rfl, rfl, by rw [hs1]; rfl, hs2⟩) (by repeat (first | exact Split.nil | (apply Split.cons; next => repeat (first | exact Pick.here | apply Pick.there | apply Pick.app)) | (apply Split.chunk; next => repeat (first | exact PickL.here | exact PickL.last | apply PickL.there | apply PickL.app)) | (apply Split.lst; repeat (first | exact PickL.here | exact PickL.last | apply PickL.there | apply PickL.app))))
theorem copied_fn {u l : Sl Int} (hu : u.list.length ≤ 1000) (hl : l.list.length ≤ 1000) : Does Tryz.prog 101 [.agg #[u.val, l.val]] (u.hp tI ++ (l.hp tI ++ [])) (fun v H => ∃ u' l' : Sl Int, v = .agg #[u'.val, l'.val] ∧ H = u'.hp tI ++ (l'.hp tI ++ (u.hp tI ++ (l.hp tI ++ []))) ∧ u'.list = u.list ∧ l'.list = l.list ∧ u'.isOwn = true ∧ l'.isOwn = true) := by
  refine fn_enter (n := 10) Tryz.func101 Tryz.ntmps101 rfl (Nat.le_of_ble_eq_true rfl) ?_
  refine s_seq ?_
  refine s_region0 (fun ops => ?_)
  refine o_box rfl rfl (fun b1 => ?_)
  refine o_alloc rfl (fun b2 => ?_)
  refine o_nil ?_
  refine n_K ?_
  refine s_seq ?_
  refine s_draw [] [(5, [(0, false), (1, false), (3, false), (4, false), (2, true)]), (6, [(5, true)]), (7, [(6, false)]), (8, [(7, true)])] (by kernel_rfl) rfl (fun ops w0 H0 y => ?_)
  refine p_all ?_
  refine x_rd (rd_field rfl) rfl ?_
  refine x_rd (rd_ld rfl (by repeat' first | exact List.Mem.head _ | apply List.Mem.tail | apply List.mem_append_right) rfl) rfl ?_
  refine x_rd (rd_field rfl) rfl ?_
  refine x_rd (rd_ld rfl (by repeat' first | exact List.Mem.head _ | apply List.Mem.tail | apply List.mem_append_right) rfl) rfl ?_
  refine x_so ?_
  refine c_ex rfl (clonei_fn hu) (by repeat (first | exact Split.nil | (apply Split.cons; next => repeat (first | exact Pick.here | apply Pick.there | apply Pick.app)) | (apply Split.chunk; next => repeat (first | exact PickL.here | exact PickL.last | apply PickL.there | apply PickL.app)) | (apply Split.lst; repeat (first | exact PickL.here | exact PickL.last | apply PickL.there | apply PickL.app)))) rfl (fun v5 Y5 h5 => ?_)
  obtain ⟨s5, rfl, rfl, hs5, ho5⟩ := h5
  refine so_ap (by repeat (first | exact Ap.nil | apply Ap.cons | apply Ap.app | exact Ap.one)) ?_
  refine o_nil ⟨rfl, ⟨_, (by repeat (first | exact Split.nil | (apply Split.cons; next => repeat (first | exact Pick.here | apply Pick.there | apply Pick.app)) | (apply Split.chunk; next => repeat (first | exact PickL.here | exact PickL.last | apply PickL.there | apply PickL.app)) | (apply Split.lst; repeat (first | exact PickL.here | exact PickL.last | apply PickL.there | apply PickL.app))))⟩, ?_⟩
  refine x_nil ?_
  refine p_none ?_
  refine x_so ?_
  refine c_ex rfl (clonei_fn hl) (by repeat (first | exact Split.nil | (apply Split.cons; next => repeat (first | exact Pick.here | apply Pick.there | apply Pick.app)) | (apply Split.chunk; next => repeat (first | exact PickL.here | exact PickL.last | apply PickL.there | apply PickL.app)) | (apply Split.lst; repeat (first | exact PickL.here | exact PickL.last | apply PickL.there | apply PickL.app)))) rfl (fun v8 Y8 h8 => ?_)
  obtain ⟨s8, rfl, rfl, hs8, ho8⟩ := h8
  refine so_ap (by repeat (first | exact Ap.nil | apply Ap.cons | apply Ap.app | exact Ap.one)) ?_
  refine o_nil ⟨rfl, ⟨_, (by repeat (first | exact Split.nil | (apply Split.cons; next => repeat (first | exact Pick.here | apply Pick.there | apply Pick.app)) | (apply Split.chunk; next => repeat (first | exact PickL.here | exact PickL.last | apply PickL.there | apply PickL.app)) | (apply Split.lst; repeat (first | exact PickL.here | exact PickL.last | apply PickL.there | apply PickL.app))))⟩, ?_⟩
  refine x_nil ?_
  refine p_all ?_
  refine x_rd (rd_build_s rfl rfl) rfl ?_
  refine x_nil ?_
  refine p_none ?_
  refine x_so ?_
  refine o_store rfl rfl (by repeat' first | exact Upd.here | apply Upd.there | apply Upd.app) rfl rfl rfl ?_
  refine o_nil ⟨rfl, ⟨_, (by repeat (first | exact Split.nil | (apply Split.cons; next => repeat (first | exact Pick.here | apply Pick.there | apply Pick.app)) | (apply Split.chunk; next => repeat (first | exact PickL.here | exact PickL.last | apply PickL.there | apply PickL.app)) | (apply Split.lst; repeat (first | exact PickL.here | exact PickL.last | apply PickL.there | apply PickL.app))))⟩, ?_⟩
  refine x_nil ?_
  refine p_end ?_
  refine n_K ?_
  refine s_ret ?_
  exact leaf_r (rets1 Tryz.results101 (rv_cell rfl (by repeat' first | exact List.Mem.head _ | apply List.Mem.tail | apply List.mem_append_right) rfl)) (by exact ⟨s5, s8, rfl, rfl, hs5, hs8, ho5, ho8⟩) (by repeat (first | exact Split.nil | (apply Split.cons; next => repeat (first | exact Pick.here | apply Pick.there | apply Pick.app)) | (apply Split.chunk; next => repeat (first | exact PickL.here | exact PickL.last | apply PickL.there | apply PickL.app)) | (apply Split.lst; repeat (first | exact PickL.here | exact PickL.last | apply PickL.there | apply PickL.app))))
/-! pages of plans -/
theorem conv_iu8 (i : Int) : IntKind.u8.wrap i = ((byteI i).toNat : Int) := wrap_u .u8 rfl i
theorem conv_iu64 (i : Int) : IntKind.u64.wrap i = ((BitVec.ofInt 64 i).toNat : Int) := wrap_u .u64 rfl i
theorem write_four {b : Nat} {kind : By} {s1 s2 s3 s4 : Sl By} (hl : s1.list.length + s2.list.length + s3.list.length + s4.list.length ≤ 70000000000000) : Does Tryz.prog 66 [bv kind, .slice (some ⟨b, 0, none⟩) 4 4] ((b, true, C [s1.val, s2.val, s3.val, s4.val] tSB) :: (s1.hp tU8 ++ (s2.hp tU8 ++ (s3.hp tU8 ++ (s4.hp tU8 ++ [])))))
    (Is (.tuple #[.agg (vbc (writeF kind (s1.list ++ (s2.list ++ (s3.list ++ (s4.list ++ []))))).1).toArray, .int .i64 (writeF kind (s1.list ++ (s2.list ++ (s3.list ++ (s4.list ++ []))))).2]) ((b, true, C [s1.val, s2.val, s3.val, s4.val] tSB) :: (s1.hp tU8 ++ (s2.hp tU8 ++ (s3.hp tU8 ++ (s4.hp tU8 ++ [])))))) := by
  have e2 : (Sl.own b [s1, s2, s3, s4] 4 [] ⟨by simp, Nat.le_refl _, by simp⟩ : Sl (Sl By)).list = [s1, s2, s3, s4] := rfl
  have e3 : joinB [s1, s2, s3, s4] = s1.list ++ (s2.list ++ (s3.list ++ (s4.list ++ []))) := by simp [joinB]
  have h := write_page (kind := kind) (q := .own b [s1, s2, s3, s4] 4 [] ⟨by simp, Nat.le_refl _, by simp⟩) (by rw [e2, e3]; simp only [List.length_append, List.length_nil]; omega)
  rw [e2, e3] at h
  have e : (Sl.own b [s1, s2, s3, s4] 4 [] ⟨by simp, Nat.le_refl _, by simp⟩ : Sl (Sl By)).hp tSB ++ (partsH [s1, s2, s3, s4] ++ []) = ((b, true, C [s1.val, s2.val, s3.val, s4.val] tSB) :: (s1.hp tU8 ++ (s2.hp tU8 ++ (s3.hp tU8 ++ (s4.hp tU8 ++ []))))) := by
    rw [Sl.hp_own, partsH_cons, partsH_cons, partsH_cons, partsH_cons, partsH_nil]
    simp only [List.append_assoc, List.nil_append, List.append_nil]
    rfl
  rw [e] at h
  exact h
theorem map_take {α β : Type} {f : α → β} {xs : List α} {i : Nat} {x : α} (h : xs[i]? = some x) : (xs.take (i + 1)).map f = (xs.take i).map f ++ [f x] := by
  rw [List.take_add_one, h]; simp
theorem numsP_fn {b : Nat} {x y z : Wd} : Does Tryz.prog 99 [.int .i64 1, .slice (some ⟨b, 0, none⟩) 3 3] [(b, true, C [wv x, wv y, wv z] tU64)] (fun v H => ∃ s : Sl By, v = s.val ∧ H = (s.hp tU8 ++ [(b, true, C [wv x, wv y, wv z] tU64)]) ∧ s.list = numsB 1 [x, y, z] ∧ s.isOwn = true) := by
  have h := nums_fn (n := 1) (xs := (Sl.own b [x, y, z] 3 [] ⟨by simp, Nat.le_refl _, by simp⟩ : Sl Wd)) (T := tU64) (by show 3 ≤ 1000000; decide)
  have e : (Sl.own b [x, y, z] 3 [] ⟨by simp, Nat.le_refl _, by simp⟩ : Sl Wd).hp tU64 ++ [] = [(b, true, C [wv x, wv y, wv z] tU64)] := by rw [Sl.hp_own]; rfl
  rw [e] at h
  exact h
theorem page_fn {u l : Sl Int} {v : Wd} {n : Int} (hu : u.list.length ≤ 1000) (hl : l.list.length ≤ 1000) : Does Tryz.prog 77 [.agg #[u.val, l.val], wv v, .int .i64 n] (u.hp tI ++ (l.hp tI ++ []))
    (Is (.agg (vbc (planP v n u.list l.list)).toArray) (u.hp tI ++ (l.hp tI ++ []))) := by
  refine fn_enter (n := 63) Tryz.func77 Tryz.ntmps77 rfl (Nat.le_of_ble_eq_true rfl) ?_
  refine s_seq ?_
  refine s_region0 (fun ops => ?_)
  refine o_box rfl rfl (fun b3 => ?_)
  refine o_alloc rfl (fun b6 => ?_)
  rw [zeroP_eq]
  refine o_nil ?_
  refine n_K ?_
  refine s_seq ?_
  refine s_region0 (fun ops => ?_)
  refine o_bslice_k rfl rfl rfl rfl (fun b15 => ?_)
  refine so_eq (own0 (α := By) (b := b15) (T := tU8)) ?_
  refine o_bslice_k rfl rfl rfl rfl (fun b16 => ?_)
  refine so_eq (own0 (α := By) (b := b16) (T := tU8)) ?_
  refine o_rd (rd_assign rfl) rfl ?_
  refine o_rd (rd_assign rfl) rfl ?_
  refine o_nil ?_
  refine n_K ?_
  refine s_seq ?_
  refine s_seq ?_
  refine s_region0 (fun ops => ?_)
  refine o_rd (rd_field rfl) rfl ?_
  refine o_rd (rd_ld rfl (by repeat' first | exact List.Mem.head _ | apply List.Mem.tail | apply List.mem_append_right) rfl) rfl ?_
  refine o_rd (rd_lenS rfl) rfl ?_
  refine o_rd (rd_move rfl) rfl ?_
  refine o_nil ?_
  refine n_K ?_
  refine s_block ?_
  refine s_loop2 [1, 2, 3, 6, 8, 18, 19] (by repeat' first | exact Keep2.nil | apply Keep2.cons rfl) (fun (st : Nat × Sl By) => [(20, .int .i64 st.1), (7, st.2.val)]) (fun (st : Nat × Sl By) => (b3, true, C [u.val, l.val] tPl) :: (b6, true, C (vbc zeroP) tPg) :: (st.2.hp tU8 ++ ((mt By b16).hp tU8 ++ (u.hp tI ++ (l.hp tI ++ []))))) (fun (st : Nat × Sl By) => st.1 ≤ u.list.length ∧ st.2.list = (u.list.take st.1).map byteI ∧ st.2.isOwn = true) (fun (st : Nat × Sl By) => u.list.length - st.1) ((0, mt By b15)) ⟨Nat.zero_le _, rfl, rfl⟩ (by repeat' first | exact Keep.nil | refine Keep.cons rfl ?_) (by repeat (first | exact Split.nil | (apply Split.cons; next => repeat (first | exact Pick.here | apply Pick.there | apply Pick.app)) | (apply Split.chunk; next => repeat (first | exact PickL.here | exact PickL.last | apply PickL.there | apply PickL.app)) | (apply Split.lst; repeat (first | exact PickL.here | exact PickL.last | apply PickL.there | apply PickL.app)))) ?_
  rintro ⟨i, s⟩ ⟨h0, h1, h2⟩
  simp only at h0 h1 h2
  have hsl : s.list.length = i := by rw [h1, List.length_map, List.length_take]; omega
  refine s_seq ?_
  refine s_region0 (fun ops => ?_)
  refine o_rd (rd_bin rfl rfl rfl) rfl ?_
  refine o_nil ?_
  refine n_K ?_
  refine s_seq ?_
  refine s_cond rfl (fun c21 => ?_) (fun c21 => ?_)
  · simp only [decide_eq_true_eq, decide_eq_false_iff_not] at c21
    obtain ⟨x, hg⟩ : ∃ x, u.list[i]? = some x := ⟨_, List.getElem?_eq_getElem (by omega)⟩
    refine s_skip ?_
    refine n_K ?_
    refine s_seq ?_
    refine s_block ?_
    refine s_seq ?_
    refine s_region0 (fun ops => ?_)
    refine o_rd (rd_ixSl rfl rfl (by omega)) rfl ?_
    refine o_rd (rd_ldSl (o := 0) rfl (by repeat (first | exact PickL.here | exact PickL.last | apply PickL.there | apply PickL.app)) hg rfl rfl) rfl ?_
    refine o_rd (rd_assign rfl) rfl ?_
    refine o_nil ?_
    refine n_K ?_
    refine s_region0 (fun ops => ?_)
    refine o_rd (rd_move rfl) rfl ?_
    refine o_rd (rd_move rfl) rfl ?_
    refine o_rd (show Rd _ _ _ _ (bv (byteI x)) from rd_via (conv_iu8 x) rfl) rfl ?_
    refine o_bslice_k rfl rfl rfl rfl (fun b27 => ?_)
    refine o_append_sl (s := s) (new := [byteI x]) (m := 1) rfl rfl (by repeat (first | exact PickL.here | exact PickL.last | apply PickL.there | apply PickL.app)) h2 (src_blk (r := true) (by repeat' first | exact List.Mem.head _ | apply List.Mem.tail | apply List.mem_append_right) rfl) rfl rfl rfl rfl (by omega) rfl (fun s' hs1 hs2 => ?_)
    refine o_rd (rd_assign rfl) rfl ?_
    refine o_nil ?_
    refine n_blk ?_
    refine n_K ?_
    refine s_region0 (fun ops => ?_)
    refine o_rd (rd_add64 rfl rfl (by omega)) rfl ?_
    refine o_rd (rd_move rfl) rfl ?_
    refine o_nil ?_
    refine n_K ?_
    exact ⟨(i + 1, s'), ⟨by simp only; omega, by rw [hs1, h1, map_take hg], hs2⟩, (by simp only; omega), (by repeat' first | exact Keep.nil | refine Keep.cons rfl ?_), (by repeat' first | exact Keep.nil | refine Keep.cons rfl ?_), _, (by repeat (first | exact Split.nil | (apply Split.cons; next => repeat (first | exact Pick.here | apply Pick.there | apply Pick.app)) | (apply Split.chunk; next => repeat (first | exact PickL.here | exact PickL.last | apply PickL.there | apply PickL.app)) | (apply Split.lst; repeat (first | exact PickL.here | exact PickL.last | apply PickL.there | apply PickL.app))))⟩
  · simp only [decide_eq_true_eq, decide_eq_false_iff_not] at c21
    have hall : s.list = u.list.map byteI := by rw [h1, List.take_of_length_le (by omega)]
    refine s_exit ?_
    refine x_K ?_
    refine x_K ?_
    refine x_blk ?_
    refine n_K ?_
    refine s_seq ?_
    refine s_seq ?_
    refine s_region0 (fun ops => ?_)
    refine o_rd (rd_field rfl) rfl ?_
    refine o_rd (rd_ld rfl (by repeat' first | exact List.Mem.head _ | apply List.Mem.tail | apply List.mem_append_right) rfl) rfl ?_
    refine o_rd (rd_lenS rfl) rfl ?_
    refine o_rd (rd_move rfl) rfl ?_
    refine o_nil ?_
    refine n_K ?_
    refine s_block ?_
    refine s_loop2 [1, 2, 3, 6, 7, 31, 32] (by repeat' first | exact Keep2.nil | apply Keep2.cons rfl) (fun (st : Nat × Sl By) => [(33, .int .i64 st.1), (8, st.2.val)]) (fun (st : Nat × Sl By) => (b3, true, C [u.val, l.val] tPl) :: (b6, true, C (vbc zeroP) tPg) :: (st.2.hp tU8 ++ (s.hp tU8 ++ (u.hp tI ++ (l.hp tI ++ []))))) (fun (st : Nat × Sl By) => st.1 ≤ l.list.length ∧ st.2.list = (l.list.take st.1).map byteI ∧ st.2.isOwn = true) (fun (st : Nat × Sl By) => l.list.length - st.1) ((0, mt By b16)) ⟨Nat.zero_le _, rfl, rfl⟩ (by repeat' first | exact Keep.nil | refine Keep.cons rfl ?_) (by repeat (first | exact Split.nil | (apply Split.cons; next => repeat (first | exact Pick.here | apply Pick.there | apply Pick.app)) | (apply Split.chunk; next => repeat (first | exact PickL.here | exact PickL.last | apply PickL.there | apply PickL.app)) | (apply Split.lst; repeat (first | exact PickL.here | exact PickL.last | apply PickL.there | apply PickL.app)))) ?_
    rintro ⟨j, q⟩ ⟨k0, k1, k2⟩
    simp only at k0 k1 k2
    have hql : q.list.length = j := by rw [k1, List.length_map, List.length_take]; omega
    refine s_seq ?_
    refine s_region0 (fun ops => ?_)
    refine o_rd (rd_bin rfl rfl rfl) rfl ?_
    refine o_nil ?_
    refine n_K ?_
    refine s_seq ?_
    refine s_cond rfl (fun c34 => ?_) (fun c34 => ?_)
    · simp only [decide_eq_true_eq, decide_eq_false_iff_not] at c34
      obtain ⟨x, hg⟩ : ∃ x, l.list[j]? = some x := ⟨_, List.getElem?_eq_getElem (by omega)⟩
      refine s_skip ?_
      refine n_K ?_
      refine s_seq ?_
      refine s_block ?_
      refine s_seq ?_
      refine s_region0 (fun ops => ?_)
      refine o_rd (rd_ixSl rfl rfl (by omega)) rfl ?_
      refine o_rd (rd_ldSl (o := 0) rfl (by repeat (first | exact PickL.here | exact PickL.last | apply PickL.there | apply PickL.app)) hg rfl rfl) rfl ?_
      refine o_rd (rd_assign rfl) rfl ?_
      refine o_nil ?_
      refine n_K ?_
      refine s_region0 (fun ops => ?_)
      refine o_rd (rd_move rfl) rfl ?_
      refine o_rd (rd_move rfl) rfl ?_
      refine o_rd (show Rd _ _ _ _ (bv (byteI x)) from rd_via (conv_iu8 x) rfl) rfl ?_
      refine o_bslice_k rfl rfl rfl rfl (fun b40 => ?_)
      refine o_append_sl (s := q) (new := [byteI x]) (m := 1) rfl rfl (by repeat (first | exact PickL.here | exact PickL.last | apply PickL.there | apply PickL.app)) k2 (src_blk (r := true) (by repeat' first | exact List.Mem.head _ | apply List.Mem.tail | apply List.mem_append_right) rfl) rfl rfl rfl rfl (by omega) rfl (fun s' hs1 hs2 => ?_)
      refine o_rd (rd_assign rfl) rfl ?_
      refine o_nil ?_
      refine n_blk ?_
      refine n_K ?_
      refine s_region0 (fun ops => ?_)
      refine o_rd (rd_add64 rfl rfl (by omega)) rfl ?_
      refine o_rd (rd_move rfl) rfl ?_
      refine o_nil ?_
      refine n_K ?_
      exact ⟨(j + 1, s'), ⟨by simp only; omega, by rw [hs1, k1, map_take hg], hs2⟩, (by simp only; omega), (by repeat' first | exact Keep.nil | refine Keep.cons rfl ?_), (by repeat' first | exact Keep.nil | refine Keep.cons rfl ?_), _, (by repeat (first | exact Split.nil | (apply Split.cons; next => repeat (first | exact Pick.here | apply Pick.there | apply Pick.app)) | (apply Split.chunk; next => repeat (first | exact PickL.here | exact PickL.last | apply PickL.there | apply PickL.app)) | (apply Split.lst; repeat (first | exact PickL.here | exact PickL.last | apply PickL.there | apply PickL.app))))⟩
    · simp only [decide_eq_true_eq, decide_eq_false_iff_not] at c34
      have hall2 : q.list = l.list.map byteI := by rw [k1, List.take_of_length_le (by omega)]
      have hul : s.list.length = u.list.length := (by rw [hall, List.length_map])
      have hll : q.list.length = l.list.length := (by rw [hall2, List.length_map])
      refine s_exit ?_
      refine x_K ?_
      refine x_K ?_
      refine x_blk ?_
      refine n_K ?_
      refine s_seq ?_
      refine s_region0 (fun ops => ?_)
      refine o_rd (rd_move rfl) rfl ?_
      refine c_ex rfl (num_fn (x := v)) (by repeat (first | exact Split.nil | (apply Split.cons; next => repeat (first | exact Pick.here | apply Pick.there | apply Pick.app)) | (apply Split.chunk; next => repeat (first | exact PickL.here | exact PickL.last | apply PickL.there | apply PickL.app)) | (apply Split.lst; repeat (first | exact PickL.here | exact PickL.last | apply PickL.there | apply PickL.app)))) rfl (fun v45 Y45 h45 => ?_)
      obtain ⟨s45, rfl, rfl, hs45, ho45⟩ := h45
      refine so_ap (by repeat (first | exact Ap.nil | apply Ap.cons | apply Ap.app | exact Ap.one)) ?_
      refine o_rd (rd_move rfl) rfl ?_
      refine o_rd (show Rd _ _ _ _ (wv (BitVec.ofInt 64 n)) from rd_via (conv_iu64 n) rfl) rfl ?_
      refine o_rd (rd_move rfl) rfl ?_
      refine o_rd (rd_lenS rfl) rfl ?_
      refine o_rd (show Rd _ _ _ _ (wv (BitVec.ofInt 64 (u.list.length : Int))) from by (rw [← hul]; exact rd_via (conv_iu64 _) rfl)) rfl ?_
      refine o_rd (rd_move rfl) rfl ?_
      refine o_rd (rd_lenS rfl) rfl ?_
      refine o_rd (show Rd _ _ _ _ (wv (BitVec.ofInt 64 (l.list.length : Int))) from by (rw [← hll]; exact rd_via (conv_iu64 _) rfl)) rfl ?_
      refine o_bslice_k rfl rfl rfl rfl (fun b54 => ?_)
      refine c_ex rfl (numsP_fn) (by repeat (first | exact Split.nil | (apply Split.cons; next => repeat (first | exact Pick.here | apply Pick.there | apply Pick.app)) | (apply Split.chunk; next => repeat (first | exact PickL.here | exact PickL.last | apply PickL.there | apply PickL.app)) | (apply Split.lst; repeat (first | exact PickL.here | exact PickL.last | apply PickL.there | apply PickL.app)))) rfl (fun v55 Y55 h55 => ?_)
      obtain ⟨s55, rfl, rfl, hs55, ho55⟩ := h55
      refine so_ap (by repeat (first | exact Ap.nil | apply Ap.cons | apply Ap.app | exact Ap.one)) ?_
      refine o_rd (rd_move rfl) rfl ?_
      refine o_rd (rd_move rfl) rfl ?_
      refine o_bslice_k rfl rfl rfl rfl (fun b58 => ?_)
      refine c_is rfl ((write_four (kind := 1) (s1 := s45) (s2 := s55) (s3 := s) (s4 := q) (by rw [hs45, hs55, numB_len, numsB_len]; simp only [List.length_cons, List.length_nil]; have : clampN 8 8 = 8 := rfl; omega)).to (by rw [hs45, hs55, hall, hall2]) rfl) (by repeat (first | exact Split.nil | (apply Split.cons; next => repeat (first | exact Pick.here | apply Pick.there | apply Pick.app)) | (apply Split.chunk; next => repeat (first | exact PickL.here | exact PickL.last | apply PickL.there | apply PickL.app)) | (apply Split.lst; repeat (first | exact PickL.here | exact PickL.last | apply PickL.there | apply PickL.app)))) rfl (by repeat (first | exact Ap.nil | apply Ap.cons | apply Ap.app | exact Ap.one)) ?_
      refine o_rd (rd_move rfl) rfl ?_
      refine o_rd (rd_extract rfl rfl) rfl ?_
      refine o_rd (rd_extract rfl rfl) rfl ?_
      refine o_alloc rfl (fun b13 => ?_)
      rw [zeroP_eq]
      first | refine o_store rfl rfl (by repeat' first | exact Upd.here | apply Upd.there | apply Upd.app) (vc_vb) (vbc_len) (spl_vb (by first | exact vbc_len | exact List.length_replicate ..)) ?_ | refine o_store rfl rfl (by repeat' first | exact Upd.here | apply Upd.there | apply Upd.app) rfl rfl rfl ?_
      refine o_rd (rd_assign rfl) rfl ?_
      refine o_nil ?_
      refine n_K ?_
      refine s_seq ?_
      refine s_region0 (fun ops => ?_)
      refine o_rd (rd_ldA rfl (by repeat' first | exact List.Mem.head _ | apply List.Mem.tail | apply List.mem_append_right) (by first | exact cut_vb | rfl)) rfl ?_
      first | refine o_store rfl rfl (by repeat' first | exact Upd.here | apply Upd.there | apply Upd.app) (vc_vb) (vbc_len) (spl_vb (by first | exact vbc_len | exact List.length_replicate ..)) ?_ | refine o_store rfl rfl (by repeat' first | exact Upd.here | apply Upd.there | apply Upd.app) rfl rfl rfl ?_
      refine o_nil ?_
      refine n_K ?_
      refine s_ret ?_
      refine leaf_is (rets1 Tryz.results77 (rv_cell rfl (by repeat' first | exact List.Mem.head _ | apply List.Mem.tail | apply List.mem_append_right) (by first | exact cut_vb | rfl))) ?_ (by repeat (first | exact Split.nil | (apply Split.cons; next => repeat (first | exact Pick.here | apply Pick.there | apply Pick.app)) | (apply Split.chunk; next => repeat (first | exact PickL.here | exact PickL.last | apply PickL.there | apply PickL.app)) | (apply Split.lst; repeat (first | exact PickL.here | exact PickL.last | apply PickL.there | apply PickL.app))))
      rfl
end Go.Proofs.YtdfidkhbldedlaaGreat
