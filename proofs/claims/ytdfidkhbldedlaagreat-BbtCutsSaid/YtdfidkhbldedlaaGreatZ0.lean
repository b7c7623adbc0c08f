/- Walks of the reference of tables. -/
import Derived.Test.YtdfidkhbldedlaaGreatQ2
import Derived.Test.YtdfidkhbldedlaaGreatM1
namespace Go.Proofs.YtdfidkhbldedlaaGreat
open Go.K
set_option linter.unusedVariables false
set_option linter.unusedSimpArgs false
instance und36 : Und Tryz.prog 36 (.slice 4) := ⟨Tryz.underlying36⟩
instance agg36 : Agg Tryz.prog 36 false := ⟨⟨_, Tryz.underlying36, rfl⟩⟩
instance siz36 : Siz Tryz.prog 36 1 := ⟨by kernel_rfl⟩
instance agg108 : Agg Tryz.prog 108 true := ⟨⟨_, Tryz.underlying108, rfl⟩⟩
instance siz108 : Siz Tryz.prog 108 2 := ⟨by kernel_rfl⟩
instance fld108_0 : Fld Tryz.prog 108 0 0 := ⟨⟨_, _, 0, Tryz.underlying108, rfl, by kernel_rfl, rfl⟩⟩
instance fld108_1 : Fld Tryz.prog 108 1 1 := ⟨⟨_, _, 0, Tryz.underlying108, rfl, by kernel_rfl, rfl⟩⟩
instance ent52 : Ent Tryz.prog 52 := ⟨fun _ _ => by kernel_rfl⟩
instance ent57 : Ent Tryz.prog 57 := ⟨fun _ _ => by kernel_rfl⟩
instance ent79 : Ent Tryz.prog 79 := ⟨fun _ _ => by kernel_rfl⟩
abbrev tB : TypeId := 4
abbrev tRf : TypeId := 108
instance : Cel Bool := ⟨1, fun b => [.bool b], fun _ => rfl, fun _ => rfl⟩
/-- The document's table, and where it lies. -/
structure RTab where
  b : Nat
  u : Sl Int
  l : Sl Bool
abbrev refC (r : RTab) : List Value := [r.u.val, r.l.val]
@[irreducible] def refH (r : RTab) : Hp := (r.b, true, C (refC r) tRf) :: (r.u.hp tI ++ (r.l.hp tB ++ []))
theorem refH_eq (r : RTab) : refH r = (r.b, true, C (refC r) tRf) :: (r.u.hp tI ++ (r.l.hp tB ++ [])) := by unfold refH; rfl
def atB (l : List Bool) (i : Int) : Bool := l.getD i.toNat false
theorem atB_get {l : List Bool} {i : Int} (h0 : 0 ≤ i) (h1 : i < l.length) : l[i.toNat]? = some (atB l i) := by
  have : i.toNat < l.length := by omega
  simp [atB, List.getD_eq_getElem?_getD, this]
/-- Is a block a spare? -/
def spareR (u : List Int) (l : List Bool) (b : Int) : Bool := !((decide (b < 2) || decide ((l.length : Int) ≤ b)) || atB l b) && !hasI u b
theorem has_at {l : List Int} {x i : Int} (h0 : 0 ≤ i) (h1 : i < l.length) (h : at0 l i = x) : hasI l x = true := by
  apply has_mem.2
  have : i.toNat < l.length := by omega
  rw [← h]
  have e : at0 l i = l[i.toNat] := by simp [at0, List.getD_eq_getElem?_getD, this]
  rw [e]
  exact List.getElem_mem this
theorem has_no {l : List Int} {x : Int} (h : ∀ k : Int, 0 ≤ k → k < l.length → at0 l k ≠ x) : hasI l x = false := by
  cases hh : hasI l x with
  | false => rfl
  | true =>
    obtain ⟨i, hi, e⟩ := List.getElem_of_mem (has_mem.1 hh)
    refine absurd ?_ (h i (by omega) (by omega))
    simp [at0, List.getD_eq_getElem?_getD, hi, e]
section
variable {r : RTab}
theorem rspare_fn {b : Int} : Does Tryz.prog 79 [ptr r.b, .int .i64 b] (refH r) (Is (.bool (spareR r.u.list r.l.list b)) (refH r)) := by
  rw [refH_eq]
  refine fn_enter (n := 44) Tryz.func79 Tryz.ntmps79 rfl (Nat.le_of_ble_eq_true rfl) ?_
  refine s_seq ?_
  refine s_region0 (fun ops => ?_)
  refine o_rd (rd_assign rfl) rfl ?_
  refine o_nil ?_
  refine n_K ?_
  refine s_seq ?_
  refine s_seq ?_
  refine s_region [(2, 8), (11, 17)] rfl (fun ops y => ?_)
  refine o_rd (rd_move rfl) rfl ?_
  refine o_rd (rd_bin rfl rfl rfl) rfl ?_
  refine o_rd (rd_move rfl) rfl ?_
  refine' o_or (j := 2) (k := 7) y rfl rfl rfl rfl rfl rfl rfl (fun hg8 => ?_) ?_
  rotate_left
  · try (simp at hg8; show _)
    refine o_g y rfl rfl ?_
    refine o_rd (rd_move rfl) rfl ?_
    refine o_g y rfl rfl ?_
    refine o_rd (rd_move rfl) rfl ?_
    refine o_g y rfl rfl ?_
    refine o_rd (rd_nil rfl) rfl ?_
    refine o_g y rfl rfl ?_
    refine o_rd (rd_field rfl) rfl ?_
    refine o_g y rfl rfl ?_
    refine o_rd (rd_ld rfl (by repeat' first | exact List.Mem.head _ | apply List.Mem.tail | apply List.mem_append_right) rfl) rfl ?_
    refine o_g y rfl rfl ?_
    refine o_rd (rd_lenS rfl) rfl ?_
    refine o_g y rfl rfl ?_
    refine o_rd (rd_bin rfl rfl rfl) rfl ?_
    exact o_nil ⟨rfl, rfl, ⟨_, (by repeat (first | exact Split.nil | (apply Split.cons; next => repeat (first | exact Pick.here | apply Pick.there | apply Pick.app)) | (apply Split.chunk; next => repeat (first | exact PickL.here | exact PickL.last | apply PickL.there | apply PickL.app)) | (apply Split.lst; repeat (first | exact PickL.here | exact PickL.last | apply PickL.there | apply PickL.app))))⟩⟩
  refine o_rd (rd_move rfl) rfl ?_
  refine' o_or (j := 11) (k := 7) y rfl rfl rfl rfl rfl rfl rfl (fun hg17 => ?_) ?_
  rotate_left
  · try (simp at hg17; show _)
    refine o_g y rfl rfl ?_
    refine o_rd (rd_move rfl) rfl ?_
    refine o_g y rfl rfl ?_
    refine o_rd (rd_nil rfl) rfl ?_
    refine o_g y rfl rfl ?_
    refine o_rd (rd_field rfl) rfl ?_
    refine o_g y rfl rfl ?_
    refine o_rd (rd_ld rfl (by repeat' first | exact List.Mem.head _ | apply List.Mem.tail | apply List.mem_append_right) rfl) rfl ?_
    refine o_g y rfl rfl ?_
    refine o_rd (rd_move rfl) rfl ?_
    refine o_g y rfl rfl ?_
    refine o_rd (rd_ixSl rfl rfl (by omega)) rfl ?_
    refine o_g y rfl rfl ?_
    refine o_rd (rd_ldSl (o := 0) rfl (by repeat (first | exact PickL.here | exact PickL.last | apply PickL.there | apply PickL.app)) (atB_get (by omega) (by omega)) rfl rfl) rfl ?_
    exact o_nil ⟨rfl, rfl, ⟨_, (by repeat (first | exact Split.nil | (apply Split.cons; next => repeat (first | exact Pick.here | apply Pick.there | apply Pick.app)) | (apply Split.chunk; next => repeat (first | exact PickL.here | exact PickL.last | apply PickL.there | apply PickL.app)) | (apply Split.lst; repeat (first | exact PickL.here | exact PickL.last | apply PickL.there | apply PickL.app))))⟩⟩
  refine o_nil ?_
  refine n_K ?_
  refine s_cond rfl (fun c25 => ?_) (fun c25 => ?_)
  · skip
    have hres : spareR r.u.list r.l.list b = false := (by unfold spareR; rw [c25]; rfl)
    refine s_seq ?_
    refine s_region0 (fun ops => ?_)
    refine o_rd (rd_assign rfl) rfl ?_
    refine o_nil ?_
    refine n_K ?_
    refine s_ret ?_
    refine r_K ?_
    refine leaf_is (rets1 Tryz.results79 (rv_tmp rfl)) ?_ (by repeat (first | exact Split.nil | (apply Split.cons; next => repeat (first | exact Pick.here | apply Pick.there | apply Pick.app)) | (apply Split.chunk; next => repeat (first | exact PickL.here | exact PickL.last | apply PickL.there | apply PickL.app)) | (apply Split.lst; repeat (first | exact PickL.here | exact PickL.last | apply PickL.there | apply PickL.app))))
    rw [hres]
  · skip
    refine s_skip ?_
    refine n_K ?_
    refine s_seq ?_
    refine s_seq ?_
    refine s_region0 (fun ops => ?_)
    refine o_rd (rd_assign rfl) rfl ?_
    refine o_nil ?_
    refine n_K ?_
    refine s_block ?_
    have hsm := r.u.small
    refine s_loop2E [0, 1] (by repeat' first | exact Keep2.nil | apply Keep2.cons rfl) (fun (i : Int) => [(5, .int .i64 i)]) (fun (i : Int) => 0 ≤ i ∧ i ≤ r.u.list.length ∧ ∀ k : Int, 0 ≤ k → k < i → at0 r.u.list k ≠ b) (fun (i : Int) => ((r.u.list.length : Int) - i).toNat) ((0 : Int)) ⟨by omega, by omega, by intro k h0 h1; omega⟩ (by repeat' first | exact Keep.nil | refine Keep.cons rfl ?_) ?_
    rintro i ⟨h0, h1, h2⟩
    refine s_seq ?_
    refine s_seq ?_
    refine s_region0 (fun ops => ?_)
    refine o_rd (rd_move rfl) rfl ?_
    refine o_rd (rd_move rfl) rfl ?_
    refine o_rd (rd_nil rfl) rfl ?_
    refine o_rd (rd_field rfl) rfl ?_
    refine o_rd (rd_ld rfl (by repeat' first | exact List.Mem.head _ | apply List.Mem.tail | apply List.mem_append_right) rfl) rfl ?_
    refine o_rd (rd_lenS rfl) rfl ?_
    refine o_rd (rd_bin rfl rfl rfl) rfl ?_
    refine o_nil ?_
    refine n_K ?_
    refine s_cond rfl (fun c32 => ?_) (fun c32 => ?_)
    · try simp at c32
      refine s_skip ?_
      refine n_K ?_
      refine s_seq ?_
      refine s_block ?_
      refine s_seq ?_
      refine s_region0 (fun ops => ?_)
      refine o_rd (rd_move rfl) rfl ?_
      refine o_rd (rd_nil rfl) rfl ?_
      refine o_rd (rd_field rfl) rfl ?_
      refine o_rd (rd_ld rfl (by repeat' first | exact List.Mem.head _ | apply List.Mem.tail | apply List.mem_append_right) rfl) rfl ?_
      refine o_rd (rd_move rfl) rfl ?_
      refine o_rd (rd_ixSl rfl rfl ⟨h0, c32⟩) rfl ?_
      refine o_rd (rd_ldSl (o := 0) rfl (by repeat (first | exact PickL.here | exact PickL.last | apply PickL.there | apply PickL.app)) (at0_get h0 c32) rfl rfl) rfl ?_
      refine o_rd (rd_move rfl) rfl ?_
      refine o_rd (rd_bin rfl rfl rfl) rfl ?_
      refine o_nil ?_
      refine n_K ?_
      refine s_cond rfl (fun c43 => ?_) (fun c43 => ?_)
      · simp at c43
        have hres : spareR r.u.list r.l.list b = false := (by unfold spareR; rw [has_at h0 c32 c43]; simp)
        refine s_seq ?_
        refine s_region0 (fun ops => ?_)
        refine o_rd (rd_assign rfl) rfl ?_
        refine o_nil ?_
        refine n_K ?_
        refine s_ret ?_
        refine r_blk ?_
        refine r_K ?_
        refine r_K ?_
        refine r_blk ?_
        refine r_K ?_
        refine leaf_is (rets1 Tryz.results79 (rv_tmp rfl)) ?_ (by repeat (first | exact Split.nil | (apply Split.cons; next => repeat (first | exact Pick.here | apply Pick.there | apply Pick.app)) | (apply Split.chunk; next => repeat (first | exact PickL.here | exact PickL.last | apply PickL.there | apply PickL.app)) | (apply Split.lst; repeat (first | exact PickL.here | exact PickL.last | apply PickL.there | apply PickL.app))))
        rw [hres]
      · simp at c43
        refine s_skip ?_
        refine n_blk ?_
        refine n_K ?_
        refine s_region0 (fun ops => ?_)
        refine o_rd (rd_move rfl) rfl ?_
        refine o_rd (rd_add64 rfl rfl (by omega)) rfl ?_
        refine o_rd (rd_assign rfl) rfl ?_
        refine o_nil ?_
        refine n_K ?_
        exact ⟨i + 1, ⟨by omega, by omega, step_all h2 c43⟩, (by omega), (by repeat' first | exact Keep.nil | refine Keep.cons rfl ?_), (by repeat' first | exact Keep.nil | refine Keep.cons rfl ?_), _, (by repeat (first | exact Split.nil | (apply Split.cons; next => repeat (first | exact Pick.here | apply Pick.there | apply Pick.app)) | (apply Split.chunk; next => repeat (first | exact PickL.here | exact PickL.last | apply PickL.there | apply PickL.app)) | (apply Split.lst; repeat (first | exact PickL.here | exact PickL.last | apply PickL.there | apply PickL.app))))⟩
    · try simp at c32
      have hres : spareR r.u.list r.l.list b = true := (by unfold spareR; rw [c25, has_no (fun k k0 k1 => h2 k k0 (by omega))]; rfl)
      refine s_exit ?_
      refine x_K ?_
      refine x_K ?_
      refine x_blk ?_
      refine n_K ?_
      refine s_seq ?_
      refine s_region0 (fun ops => ?_)
      refine o_rd (rd_assign rfl) rfl ?_
      refine o_nil ?_
      refine n_K ?_
      refine s_ret ?_
      refine leaf_is (rets1 Tryz.results79 (rv_tmp rfl)) ?_ (by repeat (first | exact Split.nil | (apply Split.cons; next => repeat (first | exact Pick.here | apply Pick.there | apply Pick.app)) | (apply Split.chunk; next => repeat (first | exact PickL.here | exact PickL.last | apply PickL.there | apply PickL.app)) | (apply Split.lst; repeat (first | exact PickL.here | exact PickL.last | apply PickL.there | apply PickL.app))))
      rw [hres]
def firstR (u : List Int) (l : List Bool) : Int := match (List.range l.length).find? fun (b : Nat) => spareR u l b with | some b => (b : Int) | none => -1
theorem first_found {u : List Int} {l : List Bool} {i : Nat} (hi : i < l.length) (hn : ∀ k < i, spareR u l k = false) (h : spareR u l i = true) : firstR u l = i := by
  unfold firstR
  have : (List.range l.length).find? (fun (b : Nat) => spareR u l b) = some i := by
    rw [List.find?_range_eq_some]
    exact ⟨h, List.mem_range.2 hi, fun j hj => by rw [hn j hj]; rfl⟩
  rw [this]
theorem first_none {u : List Int} {l : List Bool} (hn : ∀ k < l.length, spareR u l k = false) : firstR u l = -1 := by
  unfold firstR
  have : (List.range l.length).find? (fun (b : Nat) => spareR u l b) = none := by
    rw [List.find?_eq_none]
    intro x hx
    rw [hn x (List.mem_range.1 hx)]; simp
  rw [this]
theorem rspareO_fn {b : Int} : Does Tryz.prog 79 [ptr r.b, .int .i64 b] ((r.b, true, C (refC r) tRf) :: (r.u.hp tI ++ (r.l.hp tB ++ []))) (Is (.bool (spareR r.u.list r.l.list b)) ((r.b, true, C (refC r) tRf) :: (r.u.hp tI ++ (r.l.hp tB ++ [])))) := by
  have h := rspare_fn (r := r) (b := b)
  rw [refH_eq] at h; exact h
theorem rfirst_fn : Does Tryz.prog 52 [ptr r.b] (refH r) (Is (.int .i64 (firstR r.u.list r.l.list)) (refH r)) := by
  rw [refH_eq]
  refine fn_enter (n := 17) Tryz.func52 Tryz.ntmps52 rfl (Nat.le_of_ble_eq_true rfl) ?_
  refine s_seq ?_
  refine s_region0 (fun ops => ?_)
  refine o_rd (rd_assign rfl) rfl ?_
  refine o_nil ?_
  refine n_K ?_
  refine s_seq ?_
  refine s_seq ?_
  refine s_region0 (fun ops => ?_)
  refine o_rd (rd_assign rfl) rfl ?_
  refine o_nil ?_
  refine n_K ?_
  refine s_block ?_
  have hsm := r.l.small
  refine s_loop2E [0] (by repeat' first | exact Keep2.nil | apply Keep2.cons rfl) (fun (i : Nat) => [(3, .int .i64 i)]) (fun (i : Nat) => i ≤ r.l.list.length ∧ ∀ k < i, spareR r.u.list r.l.list k = false) (fun (i : Nat) => r.l.list.length - i) ((0 : Nat)) ⟨Nat.zero_le _, fun k hk => by omega⟩ (by repeat' first | exact Keep.nil | refine Keep.cons rfl ?_) ?_
  rintro i ⟨h0, h1⟩
  refine s_seq ?_
  refine s_seq ?_
  refine s_region0 (fun ops => ?_)
  refine o_rd (rd_move rfl) rfl ?_
  refine o_rd (rd_move rfl) rfl ?_
  refine o_rd (rd_nil rfl) rfl ?_
  refine o_rd (rd_field rfl) rfl ?_
  refine o_rd (rd_ld rfl (by repeat' first | exact List.Mem.head _ | apply List.Mem.tail | apply List.mem_append_right) rfl) rfl ?_
  refine o_rd (rd_lenS rfl) rfl ?_
  refine o_rd (rd_bin rfl rfl rfl) rfl ?_
  refine o_nil ?_
  refine n_K ?_
  refine s_cond rfl (fun c10 => ?_) (fun c10 => ?_)
  · simp only [decide_eq_true_eq, decide_eq_false_iff_not] at c10
    refine s_skip ?_
    refine n_K ?_
    refine s_seq ?_
    refine s_block ?_
    refine s_seq ?_
    refine s_region0 (fun ops => ?_)
    refine o_rd (rd_move rfl) rfl ?_
    refine o_rd (rd_move rfl) rfl ?_
    refine c_is rfl (rspareO_fn (r := r)) (by repeat (first | exact Split.nil | (apply Split.cons; next => repeat (first | exact Pick.here | apply Pick.there | apply Pick.app)) | (apply Split.chunk; next => repeat (first | exact PickL.here | exact PickL.last | apply PickL.there | apply PickL.app)) | (apply Split.lst; repeat (first | exact PickL.here | exact PickL.last | apply PickL.there | apply PickL.app)))) rfl (by repeat (first | exact Ap.nil | apply Ap.cons | apply Ap.app | exact Ap.one)) ?_
    refine o_nil ?_
    refine n_K ?_
    refine s_cond rfl (fun c15 => ?_) (fun c15 => ?_)
    · skip
      have hres := first_found (by omega) h1 c15
      refine s_seq ?_
      refine s_region0 (fun ops => ?_)
      refine o_rd (rd_move rfl) rfl ?_
      refine o_rd (rd_assign rfl) rfl ?_
      refine o_nil ?_
      refine n_K ?_
      refine s_ret ?_
      refine r_blk ?_
      refine r_K ?_
      refine r_K ?_
      refine r_blk ?_
      refine r_K ?_
      refine leaf_is (rets1 Tryz.results52 (rv_tmp rfl)) ?_ (by repeat (first | exact Split.nil | (apply Split.cons; next => repeat (first | exact Pick.here | apply Pick.there | apply Pick.app)) | (apply Split.chunk; next => repeat (first | exact PickL.here | exact PickL.last | apply PickL.there | apply PickL.app)) | (apply Split.lst; repeat (first | exact PickL.here | exact PickL.last | apply PickL.there | apply PickL.app))))
      rw [hres]
    · skip
      refine s_skip ?_
      refine n_blk ?_
      refine n_K ?_
      refine s_region0 (fun ops => ?_)
      refine o_rd (rd_move rfl) rfl ?_
      refine o_rd (rd_add64 rfl rfl (by omega)) rfl ?_
      refine o_rd (rd_assign rfl) rfl ?_
      refine o_nil ?_
      refine n_K ?_
      exact ⟨i + 1, ⟨by omega, fun k hk => by rcases Nat.lt_or_ge k i with h | h; exact h1 k h; rw [show k = i by omega]; exact c15⟩, (by omega), (by repeat' first | exact Keep.nil | refine Keep.cons rfl ?_), (by repeat' first | exact Keep.nil | refine Keep.cons rfl ?_), _, (by repeat (first | exact Split.nil | (apply Split.cons; next => repeat (first | exact Pick.here | apply Pick.there | apply Pick.app)) | (apply Split.chunk; next => repeat (first | exact PickL.here | exact PickL.last | apply PickL.there | apply PickL.app)) | (apply Split.lst; repeat (first | exact PickL.here | exact PickL.last | apply PickL.there | apply PickL.app))))⟩
  · simp only [decide_eq_true_eq, decide_eq_false_iff_not] at c10
    have hres := first_none (u := r.u.list) (l := r.l.list) (fun k hk => h1 k (by omega))
    refine s_exit ?_
    refine x_K ?_
    refine x_K ?_
    refine x_blk ?_
    refine n_K ?_
    refine s_seq ?_
    refine s_region0 (fun ops => ?_)
    refine o_rd (rd_assign rfl) rfl ?_
    refine o_nil ?_
    refine n_K ?_
    refine s_ret ?_
    refine leaf_is (rets1 Tryz.results52 (rv_tmp rfl)) ?_ (by repeat (first | exact Split.nil | (apply Split.cons; next => repeat (first | exact Pick.here | apply Pick.there | apply Pick.app)) | (apply Split.chunk; next => repeat (first | exact PickL.here | exact PickL.last | apply PickL.there | apply PickL.app)) | (apply Split.lst; repeat (first | exact PickL.here | exact PickL.last | apply PickL.there | apply PickL.app))))
    rw [hres]
theorem rcount_fn : Does Tryz.prog 57 [ptr r.b] (refH r) (Is (.int .i64 (r.l.list.countP id)) (refH r)) := by
  rw [refH_eq]
  refine fn_enter (n := 24) Tryz.func57 Tryz.ntmps57 rfl (Nat.le_of_ble_eq_true rfl) ?_
  refine s_seq ?_
  refine s_region0 (fun ops => ?_)
  refine o_rd (rd_assign rfl) rfl ?_
  refine o_nil ?_
  refine n_K ?_
  refine s_seq ?_
  refine s_region0 (fun ops => ?_)
  refine o_rd (rd_assign rfl) rfl ?_
  refine o_nil ?_
  refine n_K ?_
  refine s_seq ?_
  refine s_seq ?_
  refine s_region0 (fun ops => ?_)
  refine o_rd (rd_assign rfl) rfl ?_
  refine o_nil ?_
  refine n_K ?_
  refine s_block ?_
  have hsm := r.l.small
  refine s_loop2E [0] (by repeat' first | exact Keep2.nil | apply Keep2.cons rfl) (fun (i : Nat) => [(4, .int .i64 i), (3, .int .i64 ((r.l.list.take i).countP id))]) (fun (i : Nat) => i ≤ r.l.list.length) (fun (i : Nat) => r.l.list.length - i) ((0 : Nat)) (Nat.zero_le _) (by repeat' first | exact Keep.nil | refine Keep.cons rfl ?_) ?_
  rintro i h0
  have hcl : (r.l.list.take i).countP id ≤ i := Nat.le_trans List.countP_le_length (by rw [List.length_take]; omega)
  refine s_seq ?_
  refine s_seq ?_
  refine s_region0 (fun ops => ?_)
  refine o_rd (rd_move rfl) rfl ?_
  refine o_rd (rd_move rfl) rfl ?_
  refine o_rd (rd_nil rfl) rfl ?_
  refine o_rd (rd_field rfl) rfl ?_
  refine o_rd (rd_ld rfl (by repeat' first | exact List.Mem.head _ | apply List.Mem.tail | apply List.mem_append_right) rfl) rfl ?_
  refine o_rd (rd_lenS rfl) rfl ?_
  refine o_rd (rd_bin rfl rfl rfl) rfl ?_
  refine o_nil ?_
  refine n_K ?_
  refine s_cond rfl (fun c11 => ?_) (fun c11 => ?_)
  · simp only [decide_eq_true_eq, decide_eq_false_iff_not] at c11
    have hs : (r.l.list.take (i + 1)).countP id = (r.l.list.take i).countP id + (if atB r.l.list i = true then 1 else 0) := (by rw [List.take_add_one, List.countP_append, ← Int.toNat_natCast i, atB_get (i := (i : Int)) (by omega) (by omega)]; simp [List.countP_cons])
    refine s_skip ?_
    refine n_K ?_
    refine s_seq ?_
    refine s_block ?_
    refine s_seq ?_
    refine s_region0 (fun ops => ?_)
    refine o_rd (rd_move rfl) rfl ?_
    refine o_rd (rd_nil rfl) rfl ?_
    refine o_rd (rd_field rfl) rfl ?_
    refine o_rd (rd_ld rfl (by repeat' first | exact List.Mem.head _ | apply List.Mem.tail | apply List.mem_append_right) rfl) rfl ?_
    refine o_rd (rd_move rfl) rfl ?_
    refine o_rd (rd_ixSl rfl rfl (by omega)) rfl ?_
    refine o_rd (rd_ldSl (o := 0) rfl (by repeat (first | exact PickL.here | exact PickL.last | apply PickL.there | apply PickL.app)) (atB_get (i := (i : Int)) (by omega) (by omega)) rfl rfl) rfl ?_
    refine o_nil ?_
    refine n_K ?_
    refine s_cond rfl (fun c20 => ?_) (fun c20 => ?_)
    · skip
      have hs1 : ((r.l.list.take (i + 1)).countP id : Int) = ((r.l.list.take i).countP id : Int) + 1 := (by rw [hs, if_pos c20]; rfl)
      refine s_region0 (fun ops => ?_)
      refine o_rd (rd_move rfl) rfl ?_
      refine o_rd (rd_add64 rfl rfl (by omega)) rfl ?_
      refine o_rd (rd_assign rfl) rfl ?_
      refine o_nil ?_
      refine n_blk ?_
      refine n_K ?_
      refine s_region0 (fun ops => ?_)
      refine o_rd (rd_move rfl) rfl ?_
      refine o_rd (rd_add64 rfl rfl (by omega)) rfl ?_
      refine o_rd (rd_assign rfl) rfl ?_
      refine o_nil ?_
      refine n_K ?_
      exact ⟨i + 1, (by omega), (by omega), (by rw [hs1]; exact (by repeat' first | exact Keep.nil | refine Keep.cons rfl ?_)), (by repeat' first | exact Keep.nil | refine Keep.cons rfl ?_), _, (by repeat (first | exact Split.nil | (apply Split.cons; next => repeat (first | exact Pick.here | apply Pick.there | apply Pick.app)) | (apply Split.chunk; next => repeat (first | exact PickL.here | exact PickL.last | apply PickL.there | apply PickL.app)) | (apply Split.lst; repeat (first | exact PickL.here | exact PickL.last | apply PickL.there | apply PickL.app))))⟩
    · skip
      have hs1 : ((r.l.list.take (i + 1)).countP id : Int) = ((r.l.list.take i).countP id : Int) := (by rw [hs, if_neg (by rw [c20]; exact Bool.false_ne_true)]; rfl)
      refine s_skip ?_
      refine n_blk ?_
      refine n_K ?_
      refine s_region0 (fun ops => ?_)
      refine o_rd (rd_move rfl) rfl ?_
      refine o_rd (rd_add64 rfl rfl (by omega)) rfl ?_
      refine o_rd (rd_assign rfl) rfl ?_
      refine o_nil ?_
      refine n_K ?_
      exact ⟨i + 1, (by omega), (by omega), (by rw [hs1]; exact (by repeat' first | exact Keep.nil | refine Keep.cons rfl ?_)), (by repeat' first | exact Keep.nil | refine Keep.cons rfl ?_), _, (by repeat (first | exact Split.nil | (apply Split.cons; next => repeat (first | exact Pick.here | apply Pick.there | apply Pick.app)) | (apply Split.chunk; next => repeat (first | exact PickL.here | exact PickL.last | apply PickL.there | apply PickL.app)) | (apply Split.lst; repeat (first | exact PickL.here | exact PickL.last | apply PickL.there | apply PickL.app))))⟩
  · simp only [decide_eq_true_eq, decide_eq_false_iff_not] at c11
    rw [List.take_of_length_le (by omega)]
    refine s_exit ?_
    refine x_K ?_
    refine x_K ?_
    refine x_blk ?_
    refine n_K ?_
    refine s_seq ?_
    refine s_region0 (fun ops => ?_)
    refine o_rd (rd_move rfl) rfl ?_
    refine o_rd (rd_assign rfl) rfl ?_
    refine o_nil ?_
    refine n_K ?_
    refine s_ret ?_
    refine leaf_is (rets1 Tryz.results57 (rv_tmp rfl)) ?_ (by repeat (first | exact Split.nil | (apply Split.cons; next => repeat (first | exact Pick.here | apply Pick.there | apply Pick.app)) | (apply Split.chunk; next => repeat (first | exact PickL.here | exact PickL.last | apply PickL.there | apply PickL.app)) | (apply Split.lst; repeat (first | exact PickL.here | exact PickL.last | apply PickL.there | apply PickL.app))))
    rfl
end
end Go.Proofs.YtdfidkhbldedlaaGreat
