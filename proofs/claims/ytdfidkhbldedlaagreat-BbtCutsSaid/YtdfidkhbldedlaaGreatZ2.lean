/- Walks of the laws of tables: is a table the document's; a step of the document's. -/
import Derived.Test.YtdfidkhbldedlaaGreatZ1
import Derived.Test.YtdfidkhbldedlaaGreatL1
namespace Go.Proofs.YtdfidkhbldedlaaGreat
open Go.K
set_option linter.unusedVariables false
set_option linter.unusedSimpArgs false
instance fld39_2 : Fld Tryz.prog 39 2 2 := ⟨⟨_, _, 0, Tryz.underlying39, rfl, by kernel_rfl, rfl⟩⟩
instance fld39_3 : Fld Tryz.prog 39 3 3 := ⟨⟨_, _, 0, Tryz.underlying39, rfl, by kernel_rfl, rfl⟩⟩
instance ent18 : Ent Tryz.prog 18 := ⟨fun _ _ => by kernel_rfl⟩
instance ent20 : Ent Tryz.prog 20 := ⟨fun _ _ => by kernel_rfl⟩
section
variable {r : RTab} {t : Tab} {c : Chip} {a : Nat}
theorem rcountO_fn : Does Tryz.prog 57 [ptr r.b] ((r.b, true, C (refC r) tRf) :: (r.u.hp tI ++ (r.l.hp tB ++ []))) (Is (.int .i64 (r.l.list.countP id)) ((r.b, true, C (refC r) tRf) :: (r.u.hp tI ++ (r.l.hp tB ++ [])))) := by
  have h := rcount_fn (r := r)
  rw [refH_eq] at h; exact h
theorem rfirstO_fn : Does Tryz.prog 52 [ptr r.b] ((r.b, true, C (refC r) tRf) :: (r.u.hp tI ++ (r.l.hp tB ++ []))) (Is (.int .i64 (firstR r.u.list r.l.list)) ((r.b, true, C (refC r) tRf) :: (r.u.hp tI ++ (r.l.hp tB ++ [])))) := by
  have h := rfirst_fn (r := r)
  rw [refH_eq] at h; exact h
/-- A table, and the document's. -/
structure RelT (t : TS) (u : List Int) (l : List Bool) (n : Nat) : Prop where
  uu : u = t.uses
  ll : l.length = n
  lo : ∀ b : Int, 0 ≤ b → b < n → atB l b = hasI t.lost b
  ln : t.lost.Nodup
  lr : ∀ x ∈ t.lost, 0 ≤ x ∧ x < n
theorem RelT.spare {t : TS} {u : List Int} {l : List Bool} {n : Nat} (h : RelT t u l n) (b : Int) : spareR u l b = spareB t n b := by
  unfold spareR spareB
  rw [h.ll, h.uu]
  by_cases h1 : 2 ≤ b ∧ b < n
  · rw [h.lo b (by omega) h1.2]
    have e1 : decide (b < 2) = false := by simp; omega
    have e2 : decide ((n : Int) ≤ b) = false := by simp; omega
    have e3 : decide (2 ≤ b) = true := by simp; omega
    have e4 : decide (b < (n : Int)) = true := by simp; omega
    rw [e1, e2, e3, e4]
    cases hasI t.lost b <;> cases hasI t.uses b <;> rfl
  · have e1 : (decide (b < 2) || decide ((n : Int) ≤ b)) = true := by simp; omega
    have e2 : (decide (2 ≤ b) && decide (b < (n : Int))) = false := by simp; omega
    rw [e1, e2]
    simp
theorem RelT.first {t : TS} {u : List Int} {l : List Bool} {n : Nat} (h : RelT t u l n) : spareV t n = if 0 ≤ firstR u l then (firstR u l, true) else (0, false) := by
  unfold firstR spareV spareU
  rw [h.ll]
  have : (fun b : Nat => spareR u l b) = fun b : Nat => spareB t n b := funext fun b => h.spare b
  rw [this]
  cases (List.range n).find? fun b : Nat => spareB t n b with
  | none => simp
  | some b => simp
theorem count_list : ∀ (l : List Bool) (k : Nat) (s : List Int), s.Nodup → (∀ x ∈ s, (k : Int) ≤ x ∧ x < k + l.length) → (∀ i (h : i < l.length), l[i] = hasI s ((k + i : Nat) : Int)) → l.countP id = s.length
  | [], k, s, hn, hr, _ => by
    cases s with
    | nil => rfl
    | cons x s => have := hr x (.head _); simp at this; omega
  | b :: l, k, s, hn, hr, hb => by
    have h0 := hb 0 (by simp)
    simp only [List.getElem_cons_zero, Nat.add_zero] at h0
    have ih := count_list l (k + 1) (s.erase (k : Int)) (hn.erase _) (fun x hx => by
      have h1 := (hn.mem_erase_iff).1 hx
      have h2 := hr x h1.2
      have h3 := h1.1
      simp only [List.length_cons] at h2
      push_cast
      omega) (fun i hi => by
      have h1 := hb (i + 1) (by simp; omega)
      simp only [List.getElem_cons_succ] at h1
      rw [h1, show ((k + 1 + i : Nat) : Int) = ((k + (i + 1) : Nat) : Int) by omega]
      cases hh : hasI s ((k + (i + 1) : Nat) : Int) with
      | true =>
        symm
        apply has_mem.2
        exact (hn.mem_erase_iff).2 ⟨by omega, has_mem.1 hh⟩
      | false =>
        symm
        cases h2 : hasI (s.erase (k : Int)) ((k + (i + 1) : Nat) : Int) with
        | false => rfl
        | true =>
          have := has_mem.2 ((hn.mem_erase_iff).1 (has_mem.1 h2)).2
          rw [hh] at this
          cases this)
    rw [List.countP_cons, ih]
    cases b with
    | true =>
      have hm := has_mem.1 h0.symm
      have := List.length_erase_of_mem hm
      have := List.length_pos_of_mem hm
      simp
      omega
    | false =>
      have hm : (k : Int) ∉ s := fun h => by rw [has_mem.2 h] at h0; cases h0
      rw [List.erase_of_not_mem hm]
      simp
theorem RelT.count {t : TS} {u : List Int} {l : List Bool} {n : Nat} (h : RelT t u l n) : l.countP id = t.lost.length :=
  count_list l 0 t.lost h.ln (fun x hx => by have := h.lr x hx; rw [h.ll]; omega) (fun i hi => by
    have := h.lo (i : Nat) (by omega) (by rw [h.ll] at hi; omega)
    rw [Nat.zero_add, ← this]
    simp [atB, List.getD_eq_getElem?_getD, hi])
theorem in_of {x : Bool} {i n : Int} (h : x = (decide (0 ≤ i) && decide (i < n))) (k : x = true) : 0 ≤ i ∧ i < n := by
  rw [k] at h
  have := h.symm
  simpa using this
theorem same_row {t : TS} {u : List Int} {i : Int} (h : u = t.uses) : (((!(atT t i).2 == (decide (0 ≤ i) && decide (i < (u.length : Int)))) || ((atT t i).2 && !decide ((atT t i).1 = at0 u i))) || (!(atT t i).2 && !decide ((atT t i).1 = 0))) = false := by
  subst h
  by_cases hi : 0 ≤ i ∧ i < t.uses.length
  · have e : atT t i = (at0 t.uses i, true) := by
      unfold atT
      rw [if_neg (by simp; omega)]
    rw [e]
    simp [hi]
  · have e : atT t i = (0, false) := by
      unfold atT
      rw [if_pos (by simp; omega)]
    rw [e]
    simp
    omega
theorem same_fn (ha : c.aC = a) (hn : c.blocks.length ≤ 1000) (hul : r.u.list.length ≤ 1000) : Does Tryz.prog 20 [ptr t.b, ptr r.b] (tabH a t ++ (chH c ++ (refH r ++ [])))
    (fun v H => ∃ x, v = .bool x ∧ H = tabH a t ++ (chH c ++ (refH r ++ [])) ∧ (RelT t.ts r.u.list r.l.list c.blocks.length → x = true) ∧ (¬ t.l.list.length = r.l.list.countP id → x = false)) := by
  rw [refH_eq]; simp only [List.cons_append, List.append_assoc, List.nil_append]
  refine fn_enter (n := 102) Tryz.func20 Tryz.ntmps20 rfl (Nat.le_of_ble_eq_true rfl) ?_
  refine s_seq ?_
  refine s_region0 (fun ops => ?_)
  refine o_rd (rd_assign rfl) rfl ?_
  refine o_nil ?_
  refine n_K ?_
  refine s_seq ?_
  refine s_seq ?_
  refine s_draw [(8, 18)] [(7, [(0, false), (2, false), (3, false), (4, false), (5, false), (6, false), (1, true)]), (8, [(7, false)]), (15, [(8, false), (9, false), (11, false), (10, true), (12, true), (13, false), (14, false)])] (by kernel_rfl) rfl (fun ops w0 H0 y => ?_)
  refine p_all ?_
  refine x_rd (rd_move rfl) rfl ?_
  refine x_rd (rd_move rfl) rfl ?_
  refine x_rd (rd_nil rfl) rfl ?_
  refine x_rd (rd_field rfl) rfl ?_
  refine x_rd (rd_ld rfl (by repeat' first | exact List.Mem.head _ | apply List.Mem.tail | apply List.mem_append_right) rfl) rfl ?_
  refine x_rd (rd_lenS rfl) rfl ?_
  refine x_so ?_
  refine c_is rfl (tlen_fn (a := a) (t := t)) (by repeat (first | exact Split.nil | (apply Split.cons; next => repeat (first | exact Pick.here | apply Pick.there | apply Pick.app)) | (apply Split.chunk; next => repeat (first | exact PickL.here | exact PickL.last | apply PickL.there | apply PickL.app)) | (apply Split.lst; repeat (first | exact PickL.here | exact PickL.last | apply PickL.there | apply PickL.app)))) rfl (by repeat (first | exact Ap.nil | apply Ap.cons | apply Ap.app | exact Ap.one)) ?_
  refine o_nil ⟨rfl, ⟨_, (by repeat (first | exact Split.nil | (apply Split.cons; next => repeat (first | exact Pick.here | apply Pick.there | apply Pick.app)) | (apply Split.chunk; next => repeat (first | exact PickL.here | exact PickL.last | apply PickL.there | apply PickL.app)) | (apply Split.lst; repeat (first | exact PickL.here | exact PickL.last | apply PickL.there | apply PickL.app))))⟩, ?_⟩
  refine x_nil ?_
  refine p_all ?_
  refine x_rd (rd_bin rfl rfl rfl) rfl ?_
  refine x_nil ?_
  refine p_all ?_
  refine x_rd (rd_move rfl) rfl ?_
  refine' x_or (j := 8) (k := 5) y rfl rfl rfl rfl rfl rfl rfl (fun hg18 => ?_) ?_
  rotate_left
  · try (simp at hg18; show _)
    refine x_g y rfl rfl ?_
    refine x_rd (rd_move rfl) rfl ?_
    refine x_g y rfl rfl ?_
    refine x_rd (rd_move rfl) rfl ?_
    refine x_g y rfl rfl ?_
    refine x_so ?_
    refine c_is rfl (tlost_fn (a := a) (t := t)) (by repeat (first | exact Split.nil | (apply Split.cons; next => repeat (first | exact Pick.here | apply Pick.there | apply Pick.app)) | (apply Split.chunk; next => repeat (first | exact PickL.here | exact PickL.last | apply PickL.there | apply PickL.app)) | (apply Split.lst; repeat (first | exact PickL.here | exact PickL.last | apply PickL.there | apply PickL.app)))) rfl (by repeat (first | exact Ap.nil | apply Ap.cons | apply Ap.app | exact Ap.one)) ?_
    refine o_nil ⟨rfl, ⟨_, (by repeat (first | exact Split.nil | (apply Split.cons; next => repeat (first | exact Pick.here | apply Pick.there | apply Pick.app)) | (apply Split.chunk; next => repeat (first | exact PickL.here | exact PickL.last | apply PickL.there | apply PickL.app)) | (apply Split.lst; repeat (first | exact PickL.here | exact PickL.last | apply PickL.there | apply PickL.app))))⟩, ?_⟩
    refine x_g y rfl rfl ?_
    refine x_so ?_
    refine c_is rfl (rcountO_fn (r := r)) (by repeat (first | exact Split.nil | (apply Split.cons; next => repeat (first | exact Pick.here | apply Pick.there | apply Pick.app)) | (apply Split.chunk; next => repeat (first | exact PickL.here | exact PickL.last | apply PickL.there | apply PickL.app)) | (apply Split.lst; repeat (first | exact PickL.here | exact PickL.last | apply PickL.there | apply PickL.app)))) rfl (by repeat (first | exact Ap.nil | apply Ap.cons | apply Ap.app | exact Ap.one)) ?_
    refine o_nil ⟨rfl, ⟨_, (by repeat (first | exact Split.nil | (apply Split.cons; next => repeat (first | exact Pick.here | apply Pick.there | apply Pick.app)) | (apply Split.chunk; next => repeat (first | exact PickL.here | exact PickL.last | apply PickL.there | apply PickL.app)) | (apply Split.lst; repeat (first | exact PickL.here | exact PickL.last | apply PickL.there | apply PickL.app))))⟩, ?_⟩
    refine x_g y rfl rfl ?_
    refine x_rd (rd_bin rfl rfl rfl) rfl ?_
    exact x_nil ⟨rfl, ⟨_, (by repeat (first | exact Split.nil | (apply Split.cons; next => repeat (first | exact Pick.here | apply Pick.there | apply Pick.app)) | (apply Split.chunk; next => repeat (first | exact PickL.here | exact PickL.last | apply PickL.there | apply PickL.app)) | (apply Split.lst; repeat (first | exact PickL.here | exact PickL.last | apply PickL.there | apply PickL.app))))⟩⟩
  refine x_nil ?_
  refine p_end ?_
  refine n_K ?_
  refine s_cond rfl (fun c24 => ?_) (fun c24 => ?_)
  · skip
    refine s_seq ?_
    refine s_region0 (fun ops => ?_)
    refine o_rd (rd_assign rfl) rfl ?_
    refine o_nil ?_
    refine n_K ?_
    refine s_ret ?_
    refine r_K ?_
    exact leaf_r (rets1 Tryz.results20 (rv_tmp rfl)) (by refine ⟨false, rfl, rfl, fun h => ?_, fun _ => rfl⟩; have h1 := h.uu; have h2 := h.count; rw [h1, h2] at c24; exact absurd c24 (by simp [Tab.ts])) (by repeat (first | exact Split.nil | (apply Split.cons; next => repeat (first | exact Pick.here | apply Pick.there | apply Pick.app)) | (apply Split.chunk; next => repeat (first | exact PickL.here | exact PickL.last | apply PickL.there | apply PickL.app)) | (apply Split.lst; repeat (first | exact PickL.here | exact PickL.last | apply PickL.there | apply PickL.app))))
  · skip
    have hlen : t.u.list.length = r.u.list.length ∧ t.l.list.length = r.l.list.countP id := (by simp at c24; omega)
    refine s_skip ?_
    refine n_K ?_
    refine s_seq ?_
    refine s_seq ?_
    refine s_region0 (fun ops => ?_)
    refine o_rd (rd_assign rfl) rfl ?_
    refine o_nil ?_
    refine n_K ?_
    refine s_block ?_
    have hsm := r.u.small
    refine s_loop2E [0, 1] (by repeat' first | exact Keep2.nil | apply Keep2.cons rfl) (fun (i : Int) => [(5, .int .i64 i)]) (fun (i : Int) => -1 ≤ i ∧ i ≤ (r.u.list.length : Int) + 1) (fun (i : Int) => ((r.u.list.length : Int) + 1 - i).toNat) ((-1 : Int)) ⟨by omega, by omega⟩ (by repeat' first | exact Keep.nil | refine Keep.cons rfl ?_) ?_
    rintro i ⟨h0, h1⟩
    refine s_seq ?_
    refine s_seq ?_
    refine s_region0 (fun ops => ?_)
    refine o_rd (rd_move rfl) rfl ?_
    refine o_rd (rd_move rfl) rfl ?_
    refine o_rd (rd_nil rfl) rfl ?_
    refine o_rd (rd_field rfl) rfl ?_
    refine o_rd (rd_ld rfl (by repeat' first | exact List.Mem.head _ | apply List.Mem.tail | apply List.mem_append_right) rfl) rfl ?_
    refine o_rd (rd_lenS rfl) rfl ?_
    refine o_rd (rd_bin rfl rfl rfl) rfl ?_
    refine o_nil ?_
    refine n_K ?_
    refine s_cond rfl (fun c31 => ?_) (fun c31 => ?_)
    · simp only [decide_eq_true_eq, decide_eq_false_iff_not] at c31
      refine s_skip ?_
      refine n_K ?_
      refine s_seq ?_
      refine s_block ?_
      refine s_seq ?_
      refine s_region0 (fun ops => ?_)
      refine o_rd (rd_move rfl) rfl ?_
      refine o_rd (rd_move rfl) rfl ?_
      refine c_is rfl (at_fn (a := a) (t := t) (i := i)) (by repeat (first | exact Split.nil | (apply Split.cons; next => repeat (first | exact Pick.here | apply Pick.there | apply Pick.app)) | (apply Split.chunk; next => repeat (first | exact PickL.here | exact PickL.last | apply PickL.there | apply PickL.app)) | (apply Split.lst; repeat (first | exact PickL.here | exact PickL.last | apply PickL.there | apply PickL.app)))) rfl (by repeat (first | exact Ap.nil | apply Ap.cons | apply Ap.app | exact Ap.one)) ?_
      refine o_rd (rd_move rfl) rfl ?_
      refine o_rd (rd_extract rfl rfl) rfl ?_
      refine o_rd (rd_extract rfl rfl) rfl ?_
      refine o_rd (rd_assign rfl) rfl ?_
      refine o_rd (rd_assign rfl) rfl ?_
      refine o_nil ?_
      refine n_K ?_
      refine s_seq ?_
      refine s_region [(3, 43), (13, 53), (15, 55), (27, 67), (30, 70)] rfl (fun ops y => ?_)
      refine o_rd (rd_move rfl) rfl ?_
      refine o_rd (rd_move rfl) rfl ?_
      refine o_rd (rd_bin rfl rfl rfl) rfl ?_
      refine o_rd (rd_move rfl) rfl ?_
      refine' o_and (j := 3) (k := 7) y rfl rfl rfl rfl rfl rfl rfl (fun hg43 => ?_) ?_
      rotate_left
      · try (simp at hg43; show _)
        refine o_g y rfl rfl ?_
        refine o_rd (rd_move rfl) rfl ?_
        refine o_g y rfl rfl ?_
        refine o_rd (rd_move rfl) rfl ?_
        refine o_g y rfl rfl ?_
        refine o_rd (rd_nil rfl) rfl ?_
        refine o_g y rfl rfl ?_
        refine o_rd (rd_field rfl) rfl ?_
        refine o_g y rfl rfl ?_
        refine o_rd (rd_ld rfl (by repeat' first | exact List.Mem.head _ | apply List.Mem.tail | apply List.mem_append_right) rfl) rfl ?_
        refine o_g y rfl rfl ?_
        refine o_rd (rd_lenS rfl) rfl ?_
        refine o_g y rfl rfl ?_
        refine o_rd (rd_bin rfl rfl rfl) rfl ?_
        exact o_nil ⟨rfl, rfl, ⟨_, (by repeat (first | exact Split.nil | (apply Split.cons; next => repeat (first | exact Pick.here | apply Pick.there | apply Pick.app)) | (apply Split.chunk; next => repeat (first | exact PickL.here | exact PickL.last | apply PickL.there | apply PickL.app)) | (apply Split.lst; repeat (first | exact PickL.here | exact PickL.last | apply PickL.there | apply PickL.app))))⟩⟩
      refine o_rd (rd_neB rfl rfl) rfl ?_
      refine o_rd (rd_move rfl) rfl ?_
      refine' o_or (j := 13) (k := 12) y rfl rfl rfl rfl rfl rfl rfl (fun hg53 => ?_) ?_
      rotate_left
      · try (simp at hg53; show _)
        refine o_g y rfl rfl ?_
        refine o_rd (rd_move rfl) rfl ?_
        refine o_g y rfl rfl ?_
        refine o_rd (rd_move rfl) rfl ?_
        refine' o_and (j := 15) (k := 9) y rfl rfl rfl rfl rfl rfl rfl (fun hg55 => ?_) ?_
        rotate_left
        · try (simp at hg55; show _)
          refine o_g y rfl rfl ?_
          refine o_rd (rd_move rfl) rfl ?_
          refine o_g y rfl rfl ?_
          refine o_rd (rd_move rfl) rfl ?_
          refine o_g y rfl rfl ?_
          refine o_rd (rd_nil rfl) rfl ?_
          refine o_g y rfl rfl ?_
          refine o_rd (rd_field rfl) rfl ?_
          refine o_g y rfl rfl ?_
          refine o_rd (rd_ld rfl (by repeat' first | exact List.Mem.head _ | apply List.Mem.tail | apply List.mem_append_right) rfl) rfl ?_
          refine o_g y rfl rfl ?_
          refine o_rd (rd_move rfl) rfl ?_
          refine o_g y rfl rfl ?_
          refine o_rd (rd_ixSl rfl rfl (in_of hg53 hg55)) rfl ?_
          refine o_g y rfl rfl ?_
          refine o_rd (rd_ldSl (o := 0) rfl (by repeat (first | exact PickL.here | exact PickL.last | apply PickL.there | apply PickL.app)) (at0_get (in_of hg53 hg55).1 (in_of hg53 hg55).2) rfl rfl) rfl ?_
          refine o_g y rfl rfl ?_
          refine o_rd (rd_bin rfl rfl rfl) rfl ?_
          exact o_nil ⟨rfl, rfl, ⟨_, (by repeat (first | exact Split.nil | (apply Split.cons; next => repeat (first | exact Pick.here | apply Pick.there | apply Pick.app)) | (apply Split.chunk; next => repeat (first | exact PickL.here | exact PickL.last | apply PickL.there | apply PickL.app)) | (apply Split.lst; repeat (first | exact PickL.here | exact PickL.last | apply PickL.there | apply PickL.app))))⟩⟩
        exact o_nil ⟨rfl, rfl, ⟨_, (by repeat (first | exact Split.nil | (apply Split.cons; next => repeat (first | exact Pick.here | apply Pick.there | apply Pick.app)) | (apply Split.chunk; next => repeat (first | exact PickL.here | exact PickL.last | apply PickL.there | apply PickL.app)) | (apply Split.lst; repeat (first | exact PickL.here | exact PickL.last | apply PickL.there | apply PickL.app))))⟩⟩
      refine o_rd (rd_move rfl) rfl ?_
      refine' o_or (j := 27) (k := 6) y rfl rfl rfl rfl rfl rfl rfl (fun hg67 => ?_) ?_
      rotate_left
      · try (simp at hg67; show _)
        refine o_g y rfl rfl ?_
        refine o_rd (rd_move rfl) rfl ?_
        refine o_g y rfl rfl ?_
        refine o_rd (rd_not rfl) rfl ?_
        refine o_g y rfl rfl ?_
        refine o_rd (rd_move rfl) rfl ?_
        refine' o_and (j := 30) (k := 2) y rfl rfl rfl rfl rfl rfl rfl (fun hg70 => ?_) ?_
        rotate_left
        · try (simp at hg70; show _)
          refine o_g y rfl rfl ?_
          refine o_rd (rd_move rfl) rfl ?_
          refine o_g y rfl rfl ?_
          refine o_rd (rd_bin rfl rfl rfl) rfl ?_
          exact o_nil ⟨rfl, rfl, ⟨_, (by repeat (first | exact Split.nil | (apply Split.cons; next => repeat (first | exact Pick.here | apply Pick.there | apply Pick.app)) | (apply Split.chunk; next => repeat (first | exact PickL.here | exact PickL.last | apply PickL.there | apply PickL.app)) | (apply Split.lst; repeat (first | exact PickL.here | exact PickL.last | apply PickL.there | apply PickL.app))))⟩⟩
        exact o_nil ⟨rfl, rfl, ⟨_, (by repeat (first | exact Split.nil | (apply Split.cons; next => repeat (first | exact Pick.here | apply Pick.there | apply Pick.app)) | (apply Split.chunk; next => repeat (first | exact PickL.here | exact PickL.last | apply PickL.there | apply PickL.app)) | (apply Split.lst; repeat (first | exact PickL.here | exact PickL.last | apply PickL.there | apply PickL.app))))⟩⟩
      refine o_nil ?_
      refine n_K ?_
      refine s_cond rfl (fun c74 => ?_) (fun c74 => ?_)
      · skip
        refine s_seq ?_
        refine s_region0 (fun ops => ?_)
        refine o_rd (rd_assign rfl) rfl ?_
        refine o_nil ?_
        refine n_K ?_
        refine s_ret ?_
        refine r_blk ?_
        refine r_K ?_
        refine r_K ?_
        refine r_blk ?_
        refine r_K ?_
        exact leaf_r (rets1 Tryz.results20 (rv_tmp rfl)) (by refine ⟨false, rfl, rfl, fun h => ?_, fun _ => rfl⟩; exact absurd c74 (by rw [same_row h.uu]; exact Bool.false_ne_true)) (by repeat (first | exact Split.nil | (apply Split.cons; next => repeat (first | exact Pick.here | apply Pick.there | apply Pick.app)) | (apply Split.chunk; next => repeat (first | exact PickL.here | exact PickL.last | apply PickL.there | apply PickL.app)) | (apply Split.lst; repeat (first | exact PickL.here | exact PickL.last | apply PickL.there | apply PickL.app))))
      · skip
        refine s_skip ?_
        refine n_blk ?_
        refine n_K ?_
        refine s_region0 (fun ops => ?_)
        refine o_rd (rd_move rfl) rfl ?_
        refine o_rd (rd_add64 rfl rfl (by omega)) rfl ?_
        refine o_rd (rd_assign rfl) rfl ?_
        refine o_nil ?_
        refine n_K ?_
        exact ⟨i + 1, ⟨by omega, by omega⟩, (by omega), (by repeat' first | exact Keep.nil | refine Keep.cons rfl ?_), (by repeat' first | exact Keep.nil | refine Keep.cons rfl ?_), _, (by repeat (first | exact Split.nil | (apply Split.cons; next => repeat (first | exact Pick.here | apply Pick.there | apply Pick.app)) | (apply Split.chunk; next => repeat (first | exact PickL.here | exact PickL.last | apply PickL.there | apply PickL.app)) | (apply Split.lst; repeat (first | exact PickL.here | exact PickL.last | apply PickL.there | apply PickL.app))))⟩
    · simp only [decide_eq_true_eq, decide_eq_false_iff_not] at c31
      refine s_exit ?_
      refine x_K ?_
      refine x_K ?_
      refine x_blk ?_
      refine n_K ?_
      refine s_seq ?_
      refine s_region0 (fun ops => ?_)
      refine o_rd (rd_move rfl) rfl ?_
      refine c_is rfl (spareM_fn (t := t) ha hn) (by repeat (first | exact Split.nil | (apply Split.cons; next => repeat (first | exact Pick.here | apply Pick.there | apply Pick.app)) | (apply Split.chunk; next => repeat (first | exact PickL.here | exact PickL.last | apply PickL.there | apply PickL.app)) | (apply Split.lst; repeat (first | exact PickL.here | exact PickL.last | apply PickL.there | apply PickL.app)))) rfl (by repeat (first | exact Ap.nil | apply Ap.cons | apply Ap.app | exact Ap.one)) ?_
      refine o_rd (rd_move rfl) rfl ?_
      refine o_rd (rd_extract rfl rfl) rfl ?_
      refine o_rd (rd_extract rfl rfl) rfl ?_
      refine o_rd (rd_assign rfl) rfl ?_
      refine o_rd (rd_assign rfl) rfl ?_
      refine o_nil ?_
      refine n_K ?_
      refine s_seq ?_
      refine s_region [(5, 85), (8, 88), (15, 95), (17, 97)] rfl (fun ops y => ?_)
      refine o_rd (rd_move rfl) rfl ?_
      refine o_rd (rd_move rfl) rfl ?_
      refine c_is rfl (rfirstO_fn (r := r)) (by repeat (first | exact Split.nil | (apply Split.cons; next => repeat (first | exact Pick.here | apply Pick.there | apply Pick.app)) | (apply Split.chunk; next => repeat (first | exact PickL.here | exact PickL.last | apply PickL.there | apply PickL.app)) | (apply Split.lst; repeat (first | exact PickL.here | exact PickL.last | apply PickL.there | apply PickL.app)))) rfl (by repeat (first | exact Ap.nil | apply Ap.cons | apply Ap.app | exact Ap.one)) ?_
      refine o_rd (rd_bin rfl rfl rfl) rfl ?_
      refine o_rd (rd_eqB rfl rfl) rfl ?_
      refine o_rd (rd_move rfl) rfl ?_
      refine' o_and (j := 5) (k := 8) y rfl rfl rfl rfl rfl rfl rfl (fun hg85 => ?_) ?_
      rotate_left
      · try (simp at hg85; show _)
        refine o_g y rfl rfl ?_
        refine o_rd (rd_move rfl) rfl ?_
        refine o_g y rfl rfl ?_
        refine o_rd (rd_not rfl) rfl ?_
        refine o_g y rfl rfl ?_
        refine o_rd (rd_move rfl) rfl ?_
        refine' o_or (j := 8) (k := 4) y rfl rfl rfl rfl rfl rfl rfl (fun hg88 => ?_) ?_
        rotate_left
        · try (simp at hg88; show _)
          refine o_g y rfl rfl ?_
          refine o_rd (rd_move rfl) rfl ?_
          refine o_g y rfl rfl ?_
          refine o_rd (rd_move rfl) rfl ?_
          refine o_g y rfl rfl ?_
          refine c_is rfl (rfirstO_fn (r := r)) (by repeat (first | exact Split.nil | (apply Split.cons; next => repeat (first | exact Pick.here | apply Pick.there | apply Pick.app)) | (apply Split.chunk; next => repeat (first | exact PickL.here | exact PickL.last | apply PickL.there | apply PickL.app)) | (apply Split.lst; repeat (first | exact PickL.here | exact PickL.last | apply PickL.there | apply PickL.app)))) rfl (by repeat (first | exact Ap.nil | apply Ap.cons | apply Ap.app | exact Ap.one)) ?_
          refine o_g y rfl rfl ?_
          refine o_rd (rd_bin rfl rfl rfl) rfl ?_
          exact o_nil ⟨rfl, rfl, ⟨_, (by repeat (first | exact Split.nil | (apply Split.cons; next => repeat (first | exact Pick.here | apply Pick.there | apply Pick.app)) | (apply Split.chunk; next => repeat (first | exact PickL.here | exact PickL.last | apply PickL.there | apply PickL.app)) | (apply Split.lst; repeat (first | exact PickL.here | exact PickL.last | apply PickL.there | apply PickL.app))))⟩⟩
        exact o_nil ⟨rfl, rfl, ⟨_, (by repeat (first | exact Split.nil | (apply Split.cons; next => repeat (first | exact Pick.here | apply Pick.there | apply Pick.app)) | (apply Split.chunk; next => repeat (first | exact PickL.here | exact PickL.last | apply PickL.there | apply PickL.app)) | (apply Split.lst; repeat (first | exact PickL.here | exact PickL.last | apply PickL.there | apply PickL.app))))⟩⟩
      refine o_rd (rd_move rfl) rfl ?_
      refine' o_and (j := 15) (k := 5) y rfl rfl rfl rfl rfl rfl rfl (fun hg95 => ?_) ?_
      rotate_left
      · try (simp at hg95; show _)
        refine o_g y rfl rfl ?_
        refine o_rd (rd_move rfl) rfl ?_
        refine o_g y rfl rfl ?_
        refine o_rd (rd_move rfl) rfl ?_
        refine' o_or (j := 17) (k := 2) y rfl rfl rfl rfl rfl rfl rfl (fun hg97 => ?_) ?_
        rotate_left
        · try (simp at hg97; show _)
          refine o_g y rfl rfl ?_
          refine o_rd (rd_move rfl) rfl ?_
          refine o_g y rfl rfl ?_
          refine o_rd (rd_bin rfl rfl rfl) rfl ?_
          exact o_nil ⟨rfl, rfl, ⟨_, (by repeat (first | exact Split.nil | (apply Split.cons; next => repeat (first | exact Pick.here | apply Pick.there | apply Pick.app)) | (apply Split.chunk; next => repeat (first | exact PickL.here | exact PickL.last | apply PickL.there | apply PickL.app)) | (apply Split.lst; repeat (first | exact PickL.here | exact PickL.last | apply PickL.there | apply PickL.app))))⟩⟩
        exact o_nil ⟨rfl, rfl, ⟨_, (by repeat (first | exact Split.nil | (apply Split.cons; next => repeat (first | exact Pick.here | apply Pick.there | apply Pick.app)) | (apply Split.chunk; next => repeat (first | exact PickL.here | exact PickL.last | apply PickL.there | apply PickL.app)) | (apply Split.lst; repeat (first | exact PickL.here | exact PickL.last | apply PickL.there | apply PickL.app))))⟩⟩
      refine o_rd (rd_assign rfl) rfl ?_
      refine o_nil ?_
      refine n_K ?_
      refine s_ret ?_
      exact leaf_r (rets1 Tryz.results20 (rv_tmp rfl)) (by refine ⟨_, rfl, rfl, fun h => ?_, fun hne => absurd hlen.2 hne⟩; rw [h.first]; by_cases hf : 0 ≤ firstR r.u.list r.l.list; (rw [if_pos hf]; simp [hf]); (rw [if_neg hf]; simp [hf])) (by repeat (first | exact Split.nil | (apply Split.cons; next => repeat (first | exact Pick.here | apply Pick.there | apply Pick.app)) | (apply Split.chunk; next => repeat (first | exact PickL.here | exact PickL.last | apply PickL.there | apply PickL.app)) | (apply Split.lst; repeat (first | exact PickL.here | exact PickL.last | apply PickL.there | apply PickL.app))))
def stB (u : List Int) (l : List Bool) (o : OpV) : Int := if o.least = true then max (firstR u l) 0 else o.block
/-- A step of the document's table. -/
def StepR (u : List Int) (l : List Bool) (o : OpV) (b : Int) (ok : Bool) (u' : List Int) (l' : List Bool) : Prop :=
  (evn o.kind = true → ok = spareR u l b ∧ u' = u ∧ l' = if ok = true then l.set b.toNat true else l) ∧
  (evn o.kind = false → ok = !((decide (o.logical < 0) || decide ((u.length : Int) ≤ o.logical)) || !spareR u l b) ∧ u' = (if ok = true then u.set o.logical.toNat b else u) ∧ l' = if ok = true then l.set (at0 u o.logical).toNat true else l)
theorem rcopyO_fn (hu : r.u.list.length ≤ 1000) (hl : r.l.list.length ≤ 1000) : Does Tryz.prog 51 [ptr r.b] (refH r)
    (fun v H => ∃ q : RTab, v = ptr q.b ∧ H = refH q ++ (refH r ++ []) ∧ q.u.list = r.u.list ∧ q.l.list = r.l.list ∧ q.u.isOwn = true ∧ q.l.isOwn = true) := rcopy_fn hu hl
section
variable {u u1 u2 : List Int} {l l1 l2 : List Bool} {o : OpV} {b : Int}
theorem st_l0 (hk : evn o.kind = true) (hx : spareR u1 l1 b = false) (hu : u1 = u) (hl : l1 = l) : StepR u l o b false u1 l1 := by
  subst hu hl
  exact ⟨fun _ => ⟨hx.symm, rfl, rfl⟩, fun h => by rw [hk] at h; cases h⟩
theorem st_l1 (hk : evn o.kind = true) (hx : spareR u1 l1 b = true) (hu : u1 = u) (hl : l1 = l) (hu2 : u2 = u1) (hl2 : l2 = l1.set b.toNat true) : StepR u l o b true u2 l2 := by
  subst hu hl hu2 hl2
  exact ⟨fun _ => ⟨hx.symm, rfl, rfl⟩, fun h => by rw [hk] at h; cases h⟩
theorem st_s0 (hk : evn o.kind = false) (hx : ((decide (o.logical < 0) || decide ((u1.length : Int) ≤ o.logical)) || !spareR u1 l1 b) = true) (hu : u1 = u) (hl : l1 = l) : StepR u l o b false u1 l1 := by
  subst hu hl
  exact ⟨fun h => (by rw [hk] at h; cases h), fun _ => ⟨by rw [hx]; rfl, rfl, rfl⟩⟩
theorem st_s1 (hk : evn o.kind = false) (hx : ((decide (o.logical < 0) || decide ((u1.length : Int) ≤ o.logical)) || !spareR u1 l1 b) = false) (hu : u1 = u) (hl : l1 = l) (hu2 : u2 = u1.set o.logical.toNat b) (hl2 : l2 = l1.set (at0 u1 o.logical).toNat true) : StepR u l o b true u2 l2 := by
  subst hu hl hu2 hl2
  exact ⟨fun h => (by rw [hk] at h; cases h), fun _ => ⟨by rw [hx]; rfl, rfl, rfl⟩⟩
end
theorem step_fn {o : OpV} (hu : r.u.list.length ≤ 1000) (hl : r.l.list.length ≤ 1000) (hin : ∀ x ∈ r.u.list, 0 ≤ x ∧ x < r.l.list.length) : Does Tryz.prog 18 [ptr r.b, .agg (opC o).toArray] (refH r)
    (fun v H => ∃ (q : RTab) (ok : Bool), v = .tuple #[.int .i64 (stB r.u.list r.l.list o), ptr q.b, .bool ok] ∧ H = refH q ++ (refH r ++ []) ∧ q.u.isOwn = true ∧ q.l.isOwn = true ∧ StepR r.u.list r.l.list o (stB r.u.list r.l.list o) ok q.u.list q.l.list) := by
  refine fn_enter (n := 34) Tryz.func18 Tryz.ntmps18 rfl (Nat.le_of_ble_eq_true rfl) ?_
  refine s_seq ?_
  refine s_region0 (fun ops => ?_)
  refine o_box rfl rfl (fun b3 => ?_)
  refine o_rd (rd_assign rfl) rfl ?_
  refine o_rd (rd_assign rfl) rfl ?_
  refine o_rd (rd_assign rfl) rfl ?_
  refine o_nil ?_
  refine n_K ?_
  refine s_seq ?_
  refine s_draw [] [(4, [(0, false), (1, false), (2, false), (3, true)]), (6, [(4, false), (5, false)])] (by kernel_rfl) rfl (fun ops w0 H0 y => ?_)
  refine p_all ?_
  refine x_rd (rd_field rfl) rfl ?_
  refine x_rd (rd_ld rfl (by repeat' first | exact List.Mem.head _ | apply List.Mem.tail | apply List.mem_append_right) rfl) rfl ?_
  refine x_rd (rd_move rfl) rfl ?_
  refine x_so ?_
  refine c_ex rfl (rcopyO_fn (r := r) hu hl) (by repeat (first | exact Split.nil | (apply Split.cons; next => repeat (first | exact Pick.here | apply Pick.there | apply Pick.app)) | (apply Split.chunk; next => repeat (first | exact PickL.here | exact PickL.last | apply PickL.there | apply PickL.app)) | (apply Split.lst; repeat (first | exact PickL.here | exact PickL.last | apply PickL.there | apply PickL.app)))) rfl (fun v12 Y12 h12 => ?_)
  obtain ⟨q, rfl, rfl, hqu, hql, hou, hol⟩ := h12
  refine so_ap (by repeat (first | exact Ap.nil | apply Ap.cons | apply Ap.app | exact Ap.one)) ?_
  refine o_nil ⟨rfl, ⟨_, (by repeat (first | exact Split.nil | (apply Split.cons; next => repeat (first | exact Pick.here | apply Pick.there | apply Pick.app)) | (apply Split.chunk; next => repeat (first | exact PickL.here | exact PickL.last | apply PickL.there | apply PickL.app)) | (apply Split.lst; repeat (first | exact PickL.here | exact PickL.last | apply PickL.there | apply PickL.app))))⟩, ?_⟩
  refine x_nil ?_
  refine p_all ?_
  refine x_rd (rd_assign rfl) rfl ?_
  refine x_rd (rd_assign rfl) rfl ?_
  refine x_nil ?_
  refine p_end ?_
  refine n_K ?_
  refine s_seq ?_
  refine s_seq ?_
  refine s_region0 (fun ops => ?_)
  refine o_rd (rd_field rfl) rfl ?_
  refine o_rd (rd_ld rfl (by repeat' first | exact List.Mem.head _ | apply List.Mem.tail | apply List.mem_append_right) rfl) rfl ?_
  refine o_nil ?_
  refine n_K ?_
  refine s_cond rfl (fun c14 => ?_) (fun c14 => ?_)
  · skip
    have hb : stB r.u.list r.l.list o = max (firstR r.u.list r.l.list) 0 := if_pos c14
    refine s_region0 (fun ops => ?_)
    refine o_rd (rd_move rfl) rfl ?_
    refine c_is rfl (rfirst_fn (r := r)) (by repeat (first | exact Split.nil | (apply Split.cons; next => repeat (first | exact Pick.here | apply Pick.there | apply Pick.app)) | (apply Split.chunk; next => repeat (first | exact PickL.here | exact PickL.last | apply PickL.there | apply PickL.app)) | (apply Split.lst; repeat (first | exact PickL.here | exact PickL.last | apply PickL.there | apply PickL.app)))) rfl (by repeat (first | exact Ap.nil | apply Ap.cons | apply Ap.app | exact Ap.one)) ?_
    refine o_rd (rd_max rfl rfl) rfl ?_
    refine o_rd (rd_assign rfl) rfl ?_
    refine o_nil ?_
    refine n_K ?_
    refine s_seq ?_
    refine s_seq ?_
    refine s_region0 (fun ops => ?_)
    refine o_rd (rd_field rfl) rfl ?_
    refine o_rd (rd_ld rfl (by repeat' first | exact List.Mem.head _ | apply List.Mem.tail | apply List.mem_append_right) rfl) rfl ?_
    refine o_rd (rd_bin rfl rfl rfl) rfl ?_
    refine o_rd (rd_bin rfl rfl rfl) rfl ?_
    refine o_nil ?_
    refine n_K ?_
    refine s_cond rfl (fun c21 => ?_) (fun c21 => ?_)
    · skip
      have hk : evn o.kind = true := c21
      refine s_seq ?_
      refine s_region0 (fun ops => ?_)
      refine o_rd (rd_move rfl) rfl ?_
      refine o_rd (rd_move rfl) rfl ?_
      refine o_rd (rd_move rfl) rfl ?_
      refine o_rd (rd_move rfl) rfl ?_
      refine c_ex rfl (rlose_fn (r := q) hol) (by repeat (first | exact Split.nil | (apply Split.cons; next => repeat (first | exact Pick.here | apply Pick.there | apply Pick.app)) | (apply Split.chunk; next => repeat (first | exact PickL.here | exact PickL.last | apply PickL.there | apply PickL.app)) | (apply Split.lst; repeat (first | exact PickL.here | exact PickL.last | apply PickL.there | apply PickL.app)))) rfl (fun v26 Y26 h26 => ?_)
      rcases h26 with ⟨hx, rfl, rfl⟩ | ⟨hx, rfl, q2, hb2, rfl, hu2, hl2, ho2⟩
      all_goals
        refine so_ap (by repeat (first | exact Ap.nil | apply Ap.cons | apply Ap.app | exact Ap.one)) ?_
        refine o_rd (rd_assign rfl) rfl ?_
        refine o_rd (rd_assign rfl) rfl ?_
        refine o_rd (rd_assign rfl) rfl ?_
        refine o_nil ?_
        refine n_K ?_
        refine s_ret ?_
        refine r_K ?_
        exact leaf_r (rets3 Tryz.results18 (rv_tmp rfl) (rv_tmp rfl) (rv_tmp rfl)) (by rw [hb]; first | exact ⟨q, false, rfl, rfl, hou, hol, st_l0 hk hx hqu hql⟩ | exact ⟨q, false, rfl, rfl, hou, hol, st_s0 hk hx hqu hql⟩ | exact ⟨q2, true, (by rw [hb2]), rfl, ho2, ho3, st_s1 hk hx hqu hql hu2 hl2⟩ | exact ⟨q2, true, (by rw [hb2]), rfl, (by rw [hu2]; exact hou), ho2, st_l1 hk hx hqu hql (congrArg Sl.list hu2) hl2⟩) (by repeat (first | exact Split.nil | (apply Split.cons; next => repeat (first | exact Pick.here | apply Pick.there | apply Pick.app)) | (apply Split.chunk; next => repeat (first | exact PickL.here | exact PickL.last | apply PickL.there | apply PickL.app)) | (apply Split.lst; repeat (first | exact PickL.here | exact PickL.last | apply PickL.there | apply PickL.app))))
    · skip
      have hk : evn o.kind = false := c21
      refine s_skip ?_
      refine n_K ?_
      refine s_seq ?_
      refine s_region0 (fun ops => ?_)
      refine o_rd (rd_move rfl) rfl ?_
      refine o_rd (rd_move rfl) rfl ?_
      refine o_rd (rd_move rfl) rfl ?_
      refine o_rd (rd_field rfl) rfl ?_
      refine o_rd (rd_ld rfl (by repeat' first | exact List.Mem.head _ | apply List.Mem.tail | apply List.mem_append_right) rfl) rfl ?_
      refine o_rd (rd_move rfl) rfl ?_
      refine c_ex rfl (rswap_fn (r := q) hou hol (by rw [hqu, hql]; exact hin)) (by repeat (first | exact Split.nil | (apply Split.cons; next => repeat (first | exact Pick.here | apply Pick.there | apply Pick.app)) | (apply Split.chunk; next => repeat (first | exact PickL.here | exact PickL.last | apply PickL.there | apply PickL.app)) | (apply Split.lst; repeat (first | exact PickL.here | exact PickL.last | apply PickL.there | apply PickL.app)))) rfl (fun v33 Y33 h33 => ?_)
      rcases h33 with ⟨hx, rfl, rfl⟩ | ⟨hx, rfl, q2, hb2, rfl, hu2, hl2, ho2, ho3⟩
      all_goals
        refine so_ap (by repeat (first | exact Ap.nil | apply Ap.cons | apply Ap.app | exact Ap.one)) ?_
        refine o_rd (rd_assign rfl) rfl ?_
        refine o_rd (rd_assign rfl) rfl ?_
        refine o_rd (rd_assign rfl) rfl ?_
        refine o_nil ?_
        refine n_K ?_
        refine s_ret ?_
        exact leaf_r (rets3 Tryz.results18 (rv_tmp rfl) (rv_tmp rfl) (rv_tmp rfl)) (by rw [hb]; first | exact ⟨q, false, rfl, rfl, hou, hol, st_l0 hk hx hqu hql⟩ | exact ⟨q, false, rfl, rfl, hou, hol, st_s0 hk hx hqu hql⟩ | exact ⟨q2, true, (by rw [hb2]), rfl, ho2, ho3, st_s1 hk hx hqu hql hu2 hl2⟩ | exact ⟨q2, true, (by rw [hb2]), rfl, (by rw [hu2]; exact hou), ho2, st_l1 hk hx hqu hql (congrArg Sl.list hu2) hl2⟩) (by repeat (first | exact Split.nil | (apply Split.cons; next => repeat (first | exact Pick.here | apply Pick.there | apply Pick.app)) | (apply Split.chunk; next => repeat (first | exact PickL.here | exact PickL.last | apply PickL.there | apply PickL.app)) | (apply Split.lst; repeat (first | exact PickL.here | exact PickL.last | apply PickL.there | apply PickL.app))))
  · skip
    have hb : stB r.u.list r.l.list o = o.block := if_neg (by rw [c14]; exact Bool.false_ne_true)
    refine s_skip ?_
    refine n_K ?_
    refine s_seq ?_
    refine s_seq ?_
    refine s_region0 (fun ops => ?_)
    refine o_rd (rd_field rfl) rfl ?_
    refine o_rd (rd_ld rfl (by repeat' first | exact List.Mem.head _ | apply List.Mem.tail | apply List.mem_append_right) rfl) rfl ?_
    refine o_rd (rd_bin rfl rfl rfl) rfl ?_
    refine o_rd (rd_bin rfl rfl rfl) rfl ?_
    refine o_nil ?_
    refine n_K ?_
    refine s_cond rfl (fun c21 => ?_) (fun c21 => ?_)
    · skip
      have hk : evn o.kind = true := c21
      refine s_seq ?_
      refine s_region0 (fun ops => ?_)
      refine o_rd (rd_move rfl) rfl ?_
      refine o_rd (rd_move rfl) rfl ?_
      refine o_rd (rd_move rfl) rfl ?_
      refine o_rd (rd_move rfl) rfl ?_
      refine c_ex rfl (rlose_fn (r := q) hol) (by repeat (first | exact Split.nil | (apply Split.cons; next => repeat (first | exact Pick.here | apply Pick.there | apply Pick.app)) | (apply Split.chunk; next => repeat (first | exact PickL.here | exact PickL.last | apply PickL.there | apply PickL.app)) | (apply Split.lst; repeat (first | exact PickL.here | exact PickL.last | apply PickL.there | apply PickL.app)))) rfl (fun v26 Y26 h26 => ?_)
      rcases h26 with ⟨hx, rfl, rfl⟩ | ⟨hx, rfl, q2, hb2, rfl, hu2, hl2, ho2⟩
      all_goals
        refine so_ap (by repeat (first | exact Ap.nil | apply Ap.cons | apply Ap.app | exact Ap.one)) ?_
        refine o_rd (rd_assign rfl) rfl ?_
        refine o_rd (rd_assign rfl) rfl ?_
        refine o_rd (rd_assign rfl) rfl ?_
        refine o_nil ?_
        refine n_K ?_
        refine s_ret ?_
        refine r_K ?_
        exact leaf_r (rets3 Tryz.results18 (rv_tmp rfl) (rv_tmp rfl) (rv_tmp rfl)) (by rw [hb]; first | exact ⟨q, false, rfl, rfl, hou, hol, st_l0 hk hx hqu hql⟩ | exact ⟨q, false, rfl, rfl, hou, hol, st_s0 hk hx hqu hql⟩ | exact ⟨q2, true, (by rw [hb2]), rfl, ho2, ho3, st_s1 hk hx hqu hql hu2 hl2⟩ | exact ⟨q2, true, (by rw [hb2]), rfl, (by rw [hu2]; exact hou), ho2, st_l1 hk hx hqu hql (congrArg Sl.list hu2) hl2⟩) (by repeat (first | exact Split.nil | (apply Split.cons; next => repeat (first | exact Pick.here | apply Pick.there | apply Pick.app)) | (apply Split.chunk; next => repeat (first | exact PickL.here | exact PickL.last | apply PickL.there | apply PickL.app)) | (apply Split.lst; repeat (first | exact PickL.here | exact PickL.last | apply PickL.there | apply PickL.app))))
    · skip
      have hk : evn o.kind = false := c21
      refine s_skip ?_
      refine n_K ?_
      refine s_seq ?_
      refine s_region0 (fun ops => ?_)
      refine o_rd (rd_move rfl) rfl ?_
      refine o_rd (rd_move rfl) rfl ?_
      refine o_rd (rd_move rfl) rfl ?_
      refine o_rd (rd_field rfl) rfl ?_
      refine o_rd (rd_ld rfl (by repeat' first | exact List.Mem.head _ | apply List.Mem.tail | apply List.mem_append_right) rfl) rfl ?_
      refine o_rd (rd_move rfl) rfl ?_
      refine c_ex rfl (rswap_fn (r := q) hou hol (by rw [hqu, hql]; exact hin)) (by repeat (first | exact Split.nil | (apply Split.cons; next => repeat (first | exact Pick.here | apply Pick.there | apply Pick.app)) | (apply Split.chunk; next => repeat (first | exact PickL.here | exact PickL.last | apply PickL.there | apply PickL.app)) | (apply Split.lst; repeat (first | exact PickL.here | exact PickL.last | apply PickL.there | apply PickL.app)))) rfl (fun v33 Y33 h33 => ?_)
      rcases h33 with ⟨hx, rfl, rfl⟩ | ⟨hx, rfl, q2, hb2, rfl, hu2, hl2, ho2, ho3⟩
      all_goals
        refine so_ap (by repeat (first | exact Ap.nil | apply Ap.cons | apply Ap.app | exact Ap.one)) ?_
        refine o_rd (rd_assign rfl) rfl ?_
        refine o_rd (rd_assign rfl) rfl ?_
        refine o_rd (rd_assign rfl) rfl ?_
        refine o_nil ?_
        refine n_K ?_
        refine s_ret ?_
        exact leaf_r (rets3 Tryz.results18 (rv_tmp rfl) (rv_tmp rfl) (rv_tmp rfl)) (by rw [hb]; first | exact ⟨q, false, rfl, rfl, hou, hol, st_l0 hk hx hqu hql⟩ | exact ⟨q, false, rfl, rfl, hou, hol, st_s0 hk hx hqu hql⟩ | exact ⟨q2, true, (by rw [hb2]), rfl, ho2, ho3, st_s1 hk hx hqu hql hu2 hl2⟩ | exact ⟨q2, true, (by rw [hb2]), rfl, (by rw [hu2]; exact hou), ho2, st_l1 hk hx hqu hql (congrArg Sl.list hu2) hl2⟩) (by repeat (first | exact Split.nil | (apply Split.cons; next => repeat (first | exact Pick.here | apply Pick.there | apply Pick.app)) | (apply Split.chunk; next => repeat (first | exact PickL.here | exact PickL.last | apply PickL.there | apply PickL.app)) | (apply Split.lst; repeat (first | exact PickL.here | exact PickL.last | apply PickL.there | apply PickL.app))))
end
end Go.Proofs.YtdfidkhbldedlaaGreat
