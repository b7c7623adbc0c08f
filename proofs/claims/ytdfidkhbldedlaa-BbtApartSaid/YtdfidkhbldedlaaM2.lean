/- Walk of the law BbtApart. -/
import Derived.Test.YtdfidkhbldedlaaK17
import Derived.Test.YtdfidkhbldedlaaL1
import Derived.Test.YtdfidkhbldedlaaM1
namespace Go.Proofs.Ytdfidkhbldedlaa
open Go.K
set_option linter.unusedVariables false
set_option linter.unusedSimpArgs false
instance und36 : Und Try.prog 36 (.slice 39) := ⟨Try.underlying36⟩
instance agg36 : Agg Try.prog 36 false := ⟨⟨_, Try.underlying36, rfl⟩⟩
instance siz36 : Siz Try.prog 36 1 := ⟨by kernel_rfl⟩
instance und43 : Und Try.prog 43 (.map 3 4) := ⟨Try.underlying43⟩
instance agg43 : Agg Try.prog 43 false := ⟨⟨_, Try.underlying43, rfl⟩⟩
instance siz43 : Siz Try.prog 43 1 := ⟨by kernel_rfl⟩
instance zer39 : Zer Try.prog 39 ([.int .i64 0, .int .i64 0, .int .i64 0, .bool false, .int .i64 0]) := ⟨by kernel_rfl⟩
instance zv4 : ZerV Try.prog 4 (.bool false) := ⟨by kernel_rfl⟩
instance fld39_2 : Fld Try.prog 39 2 2 := ⟨⟨_, _, 0, Try.underlying39, rfl, by kernel_rfl, rfl⟩⟩
instance fld39_3 : Fld Try.prog 39 3 3 := ⟨⟨_, _, 0, Try.underlying39, rfl, by kernel_rfl, rfl⟩⟩
instance ent4 : Ent Try.prog 4 := ⟨fun _ _ => by kernel_rfl⟩

theorem format_a {c : Chip} {a : Nat} (ha : c.aC = a) (hb : 2 ≤ c.blocks.length ∧ c.blocks.length ≤ 1000) : Does Try.prog 12 [ptr a] (chH c) (FormatR a c) := by subst ha; exact format_fn hb
/-- The map of the blocks that were seen. -/
def seenL (l : List Int) : List (Int × Value) := l.map fun x => (x, .bool true)
theorem seen_get : ∀ (l : List Int) (k : Int) (i : Nat), mfind (seenL l) k i = none ∧ k ∉ l ∨ (∃ j, mfind (seenL l) k i = some (j, .bool true)) ∧ k ∈ l
  | [], k, i => .inl ⟨rfl, by simp⟩
  | x :: l, k, i => by
    show (if k = x then _ else mfind (seenL l) k (i + 1)) = none ∧ _ ∨ (∃ j, (if k = x then _ else mfind (seenL l) k (i + 1)) = _) ∧ _
    by_cases h : k = x
    · subst h
      rw [if_pos rfl]
      exact .inr ⟨⟨i, rfl⟩, by simp⟩
    · rw [if_neg h]
      rcases seen_get l k (i + 1) with ⟨h1, h2⟩ | ⟨⟨j, h1⟩, h2⟩
      · exact .inl ⟨h1, by simp [h, h2]⟩
      · exact .inr ⟨⟨j, h1⟩, by simp [h2]⟩
theorem seen_mget (l : List Int) (k : Int) : mget (.bool false) (seenL l) k = .bool (hasI l k) := by
  unfold mget
  rcases seen_get l k 0 with ⟨h1, h2⟩ | ⟨⟨j, h1⟩, h2⟩
  · rw [h1]
    have : hasI l k = false := by
      cases h : hasI l k with
      | false => rfl
      | true => exact absurd (has_mem.1 h) h2
    rw [this]
  · rw [h1, has_mem.2 h2]
theorem seen_new {l : List Int} {k : Int} (h : k ∉ l) : mfind (seenL l) k 0 = none := by
  rcases seen_get l k 0 with ⟨h1, _⟩ | ⟨_, h2⟩
  · exact h1
  · exact absurd h2 h
theorem seen_add (l : List Int) (k : Int) : seenL (l ++ [k]) = seenL l ++ [(k, .bool true)] := by simp [seenL]
/-- A script's call keeps the table right. -/
theorem apI_do {B : Int → Bool} {t : TS} {c : Chip} {o : OpV} {b e : Int} {t' : TS} {c' : Chip} (h : ApI B t) (hc : c.blocks.length = 30) (hd : DoD t c o b (e, t', c')) : ApI B t' ∧ bads c' = bads c := by
  obtain ⟨d1, d2⟩ := hd
  cases hk : evn o.kind with
  | true =>
    obtain ⟨e1, e2⟩ := d1 hk
    rw [hc] at e1 e2
    cases hs : spareB t 30 b with
    | true =>
      obtain ⟨l, hp, he⟩ := e1 hs
      have ht : t' = (keepC t t.uses l c).2.1 := by rw [← he]
      have hcc : c' = (keepC t t.uses l c).2.2 := by rw [← he]
      exact ⟨h.lose hs hp (by rw [ht]; exact keepC_t t t.uses l c h.next h.area), by rw [hcc]; exact keepC_bads _ _ _ _⟩
    | false =>
      have := e2 hs
      simp only [Prod.mk.injEq] at this
      rw [this.2.1, this.2.2]
      exact ⟨h, rfl⟩
  | false =>
    obtain ⟨e1, e2⟩ := d2 hk
    rw [hc] at e1 e2
    cases hs : ((atT t o.logical).2 && spareB t 30 b) with
    | true =>
      obtain ⟨l, hp, he⟩ := e1 hs
      have ht : t' = (keepC t (t.uses.set o.logical.toNat b) l c).2.1 := by rw [← he]
      have hcc : c' = (keepC t (t.uses.set o.logical.toNat b) l c).2.2 := by rw [← he]
      simp only [Bool.and_eq_true] at hs
      have hi : 0 ≤ o.logical ∧ o.logical < t.uses.length := by
        have := hs.1
        unfold atT at this
        split at this
        · cases this
        · rename_i hx; simp at hx; omega
      exact ⟨h.swap h.spareB hi hs.2 hp (by rw [ht]; exact keepC_t t _ l c h.next h.area), by rw [hcc]; exact keepC_bads _ _ _ _⟩
    | false =>
      have := e2 hs
      simp only [Prod.mk.injEq] at this
      rw [this.2.1, this.2.2]
      exact ⟨h, rfl⟩
theorem apart_bad {aP aC aB : Nat} {bad : List Int} {c' : Chip} {e : Int} {t : TS} (hl : bad.length ≤ 4) (hf : formatC (newG (-1) 0 aP aC aB 30 bad) = (e, t, c')) (he : e ≠ 0) : c' = newG (-1) 0 aP aC aB 30 bad ∧ (badB c' 0 || badB c' 1) = true := by
  have hb0 : badB (newG (-1) 0 aP aC aB 30 bad) 0 = hasI bad 0 := new_bad (by omega)
  have hb1 : badB (newG (-1) 0 aP aC aB 30 bad) 1 = hasI bad 1 := new_bad (by omega)
  cases h0 : hasI bad 0 with
  | false =>
    cases h1 : hasI bad 1 with
    | false =>
      obtain ⟨c2, h2, _⟩ := new_table (aP := aP) (aC := aC) (aB := aB) hl h0 h1
      rw [h2] at hf
      simp only [Prod.mk.injEq] at hf
      exact absurd hf.1.symm he
    | true =>
      have : formatC (newG (-1) 0 aP aC aB 30 bad) = (34, ts0, newG (-1) 0 aP aC aB 30 bad) := by
        unfold formatC
        rw [if_neg (by rw [new_may (by omega) (by omega)]; simp), if_pos (by unfold fmtBad; rw [hb0, hb1, h1]; simp)]
      rw [this] at hf
      simp only [Prod.mk.injEq] at hf
      rw [← hf.2.2, hb0, hb1, h1]
      exact ⟨rfl, by simp⟩
  | true =>
    have : formatC (newG (-1) 0 aP aC aB 30 bad) = (34, ts0, newG (-1) 0 aP aC aB 30 bad) := by
      unfold formatC
      rw [if_neg (by rw [new_may (by omega) (by omega)]; simp), if_pos (by unfold fmtBad; rw [hb0, hb1, h0]; simp)]
    rw [this] at hf
    simp only [Prod.mk.injEq] at hf
    rw [← hf.2.2, hb0, hb1, h0]
    exact ⟨rfl, by simp⟩
theorem apart_ok {aP aC aB : Nat} {bad : List Int} {c' : Chip} {t : TS} (hl : bad.length ≤ 4) (hf : formatC (newG (-1) 0 aP aC aB 30 bad) = (0, t, c')) : bads c' = bads (newG (-1) 0 aP aC aB 30 bad) ∧ c'.aC = aC ∧ ApI (hasI bad) t := by
  have hb0 : badB (newG (-1) 0 aP aC aB 30 bad) 0 = hasI bad 0 := new_bad (by omega)
  have hb1 : badB (newG (-1) 0 aP aC aB 30 bad) 1 = hasI bad 1 := new_bad (by omega)
  have hno : ∀ x y : Bool, (x || y) = true → badB (newG (-1) 0 aP aC aB 30 bad) 0 = x → badB (newG (-1) 0 aP aC aB 30 bad) 1 = y → False := fun x y h e1 e2 => by
    have : formatC (newG (-1) 0 aP aC aB 30 bad) = (34, ts0, newG (-1) 0 aP aC aB 30 bad) := by
      unfold formatC
      rw [if_neg (by rw [new_may (by omega) (by omega)]; simp), if_pos (by unfold fmtBad; rw [e1, e2, h]; rfl)]
    rw [this] at hf
    simp at hf
  have h0 : hasI bad 0 = false := by
    cases h : hasI bad 0 with
    | false => rfl
    | true => exact (hno _ _ (by rw [h]; rfl) hb0 hb1).elim
  have h1 : hasI bad 1 = false := by
    cases h : hasI bad 1 with
    | false => rfl
    | true => exact (hno _ _ (by rw [h]; simp) hb0 hb1).elim
  obtain ⟨c2, h2, h3, h4, h5⟩ := new_table (aP := aP) (aC := aC) (aB := aB) hl h0 h1
  rw [h2] at hf
  simp only [Prod.mk.injEq] at hf
  rw [← hf.2.2, ← hf.2.1]
  exact ⟨h3, h4, h5⟩
theorem at_in {t : TS} {i : Int} (h0 : 0 ≤ i) (h1 : i < t.uses.length) : atT t i = (at0 t.uses i, true) := by
  unfold atT
  rw [if_neg (by simp; omega)]
theorem apart_row {B : Int → Bool} {t : TS} {c : Chip} (h : ApI B t) (hB : ∀ x : Int, 0 ≤ x → x < 30 → badB c x = B x) {l : Nat} (hl : l < t.uses.length) :
    at0 t.uses l ∉ t.uses.take l ∧ 2 ≤ at0 t.uses l ∧ at0 t.uses l < 30 ∧ badB c (at0 t.uses l) = false := by
  have hat : at0 t.uses l = t.uses[l] := by simp [at0, List.getD_eq_getElem?_getD, hl]
  rw [hat]
  obtain ⟨h1, h2, h3, _⟩ := h.us _ (List.getElem_mem hl)
  refine ⟨fun hm => ?_, h1, h2, (hB _ (by omega) h2).trans h3⟩
  obtain ⟨j, hj, e⟩ := List.getElem_of_mem hm
  rw [List.length_take] at hj
  rw [List.getElem_take] at e
  have hn := h.un
  rw [List.nodup_iff_pairwise_ne, List.pairwise_iff_getElem] at hn
  exact hn j l (by omega) hl (by omega) e
theorem take_at {l : List Int} {k : Nat} (h : k < l.length) : l.take (k + 1) = l.take k ++ [at0 l k] := by
  rw [List.take_add_one, List.getElem?_eq_getElem h]
  simp [at0, List.getD_eq_getElem?_getD, h]
theorem spareV_cases (t : TS) (n : Nat) : spareV t n = (0, false) ∨ ∃ b : Nat, spareV t n = ((b : Int), true) ∧ spareB t n b = true ∧ b < n := by
  unfold spareV
  cases h : spareU t n with
  | none => exact .inl rfl
  | some b =>
    unfold spareU at h
    exact .inr ⟨b, rfl, by simpa using List.find?_some h, List.mem_range.1 (List.mem_of_find?_eq_some h)⟩
theorem rd_seen {P : Program} {E : Env} {H : Hp} {t kt et : TypeId} {x y : Operand} {b : Nat} {l : List Int} {k : Int} {r : Bool} [ht : Und P t (.map kt et)] [hk : Und P kt (.int .i64)] [hz : ZerV P et (.bool false)]
    (hx : ev E x = some (.map (some b))) (hy : ev E y = some (.int .i64 k)) (hm : (b, r, mapO .i64 (seenL l)) ∈ H) : Rd P E H (.lookup t x y false) (.bool (hasI l k)) := by
  rw [← seen_mget]; exact rd_lookup hx hy hm
theorem apart_end {B : Int → Bool} {t : TS} {c : Chip} (h : ApI B t) (hB : ∀ x : Int, 0 ≤ x → x < 30 → badB c x = B x) :
    ((decide ((t.uses.length : Int) = 24) && (!(spareV t 30).2 || ((!hasI t.uses (spareV t 30).1 && !badB c (spareV t 30).1) && decide (2 ≤ (spareV t 30).1)))) && decide ((t.lost.length : Int) ≤ 4)) = true := by
  have h4 := h.lost4
  have h24 := h.len
  rcases spareV_cases t 30 with e | ⟨b, e, hs, hlt⟩
  · rw [e, h24]; simp; omega
  · rw [e, h24]
    obtain ⟨h1, h2, h3, h5⟩ := spare_facts hs
    have e1 : hasI t.uses b = false := by
      cases hh : hasI t.uses b with
      | false => rfl
      | true => exact absurd (has_mem.1 hh) h3
    have e2 : badB c b = false := (hB _ (by omega) (by omega)).trans (h.spareB _ hs)
    simp [e1, e2]; omega
theorem apart_fn {s : Sl Int} {sc : Sl OpV} : Does Try.prog 4 [s.val, sc.val] (s.hp tI ++ (sc.hp tOp ++ [])) (fun v H => v = .bool true) := by
  refine fn_enter (n := 137) Try.func4 Try.ntmps4 rfl (Nat.le_of_ble_eq_true rfl) ?_
  refine s_seq ?_
  refine s_region0 (fun ops => ?_)
  refine o_rd (rd_assign rfl) rfl ?_
  refine o_nil ?_
  refine n_K ?_
  refine s_seq ?_
  refine s_seq ?_
  refine s_region0 (fun ops => ?_)
  refine c_is rfl (speaks_fn) (by repeat (first | exact Split.nil | (apply Split.cons; next => repeat (first | exact Pick.here | apply Pick.there | apply Pick.app)) | (apply Split.chunk; next => repeat (first | exact PickL.here | exact PickL.last | apply PickL.there | apply PickL.app)) | (apply Split.lst; repeat (first | exact PickL.here | exact PickL.last | apply PickL.there | apply PickL.app)))) rfl (by repeat (first | exact Ap.nil | apply Ap.cons | apply Ap.app | exact Ap.one)) ?_
  refine o_rd (rd_not rfl) rfl ?_
  refine o_nil ?_
  refine n_K ?_
  refine s_condF rfl ?_
  refine s_skip ?_
  refine n_K ?_
  refine s_seq ?_
  refine s_seq ?_
  refine s_region [(3, 23)] rfl (fun ops y => ?_)
  refine o_rd (rd_move rfl) rfl ?_
  refine o_rd (rd_lenS rfl) rfl ?_
  refine o_rd (rd_bin rfl rfl rfl) rfl ?_
  refine o_rd (rd_move rfl) rfl ?_
  refine' o_or (j := 3) (k := 3) y rfl rfl rfl rfl rfl rfl rfl (fun hg23 => ?_) ?_
  rotate_left
  · try simp at hg23
    refine o_g y rfl rfl ?_
    refine o_rd (rd_move rfl) rfl ?_
    refine o_g y rfl rfl ?_
    refine o_rd (rd_lenS rfl) rfl ?_
    refine o_g y rfl rfl ?_
    refine o_rd (rd_bin rfl rfl rfl) rfl ?_
    exact o_nil ⟨rfl, rfl, ⟨_, (by repeat (first | exact Split.nil | (apply Split.cons; next => repeat (first | exact Pick.here | apply Pick.there | apply Pick.app)) | (apply Split.chunk; next => repeat (first | exact PickL.here | exact PickL.last | apply PickL.there | apply PickL.app)) | (apply Split.lst; repeat (first | exact PickL.here | exact PickL.last | apply PickL.there | apply PickL.app))))⟩⟩
  refine o_nil ?_
  refine n_K ?_
  refine s_cond rfl (fun c27 => ?_) (fun c27 => ?_)
  · skip
    refine s_seq ?_
    refine s_region0 (fun ops => ?_)
    refine o_rd (rd_assign rfl) rfl ?_
    refine o_nil ?_
    refine n_K ?_
    refine s_ret ?_
    refine r_K ?_
    exact leaf_r (rets1 Try.results4 (rv_tmp rfl)) (by rfl) (by repeat (first | exact Split.nil | (apply Split.cons; next => repeat (first | exact Pick.here | apply Pick.there | apply Pick.app)) | (apply Split.chunk; next => repeat (first | exact PickL.here | exact PickL.last | apply PickL.there | apply PickL.app)) | (apply Split.lst; repeat (first | exact PickL.here | exact PickL.last | apply PickL.there | apply PickL.app))))
  · skip
    have hsc : sc.list.length ≤ 30 ∧ s.list.length ≤ 4 := (by simp at c27; omega)
    refine s_skip ?_
    refine n_K ?_
    refine s_seq ?_
    refine s_region0 (fun ops => ?_)
    refine c_ex rfl (newPower_fn) (by repeat (first | exact Split.nil | (apply Split.cons; next => repeat (first | exact Pick.here | apply Pick.there | apply Pick.app)) | (apply Split.chunk; next => repeat (first | exact PickL.here | exact PickL.last | apply PickL.there | apply PickL.app)) | (apply Split.lst; repeat (first | exact PickL.here | exact PickL.last | apply PickL.there | apply PickL.app)))) rfl (fun v29 Y29 h29 => ?_)
    obtain ⟨p29, rfl, rfl⟩ := h29
    refine so_ap (by repeat (first | exact Ap.nil | apply Ap.cons | apply Ap.app | exact Ap.one)) ?_
    refine o_rd (rd_move rfl) rfl ?_
    refine c_ex rfl (new2_fn (n := 30) (s := s) (T := tI)) (by repeat (first | exact Split.nil | (apply Split.cons; next => repeat (first | exact Pick.here | apply Pick.there | apply Pick.app)) | (apply Split.chunk; next => repeat (first | exact PickL.here | exact PickL.last | apply PickL.there | apply PickL.app)) | (apply Split.lst; repeat (first | exact PickL.here | exact PickL.last | apply PickL.there | apply PickL.app)))) rfl (fun v31 Y31 h31 => ?_)
    rcases h31 with ⟨aC, aB, rfl, rfl, ok⟩ | ⟨rfl, rfl, ok⟩
    all_goals
      refine so_ap (by repeat (first | exact Ap.nil | apply Ap.cons | apply Ap.app | exact Ap.one)) ?_
      refine o_rd (rd_move rfl) rfl ?_
      refine o_rd (rd_extract rfl rfl) rfl ?_
      refine o_rd (rd_extract rfl rfl) rfl ?_
      refine o_rd (rd_assign rfl) rfl ?_
      refine o_rd (rd_assign rfl) rfl ?_
      refine o_nil ?_
      refine n_K ?_
      refine s_seq ?_
      refine s_seq ?_
      refine s_region0 (fun ops => ?_)
      refine o_rd (rd_move rfl) rfl ?_
      refine o_rd (rd_eqNil rfl rfl) rfl ?_
      refine o_nil ?_
      refine n_K ?_
      refine s_cond rfl (fun c35 => ?_) (fun c35 => ?_)
      · skip
        try (exfalso; (cases c35); done)
        all_goals
          refine s_seq ?_
          refine s_region0 (fun ops => ?_)
          refine o_rd (rd_assign rfl) rfl ?_
          refine o_nil ?_
          refine n_K ?_
          refine s_ret ?_
          refine r_K ?_
          exact leaf_r (rets1 Try.results4 (rv_tmp rfl)) (by rfl) (by repeat (first | exact Split.nil | (apply Split.cons; next => repeat (first | exact Pick.here | apply Pick.there | apply Pick.app)) | (apply Split.chunk; next => repeat (first | exact PickL.here | exact PickL.last | apply PickL.there | apply PickL.app)) | (apply Split.lst; repeat (first | exact PickL.here | exact PickL.last | apply PickL.there | apply PickL.app))))
      · skip
        try (exfalso; (cases c35); done)
        all_goals
          have hlen : (newG (-1) 0 p29 aC aB 30 s.list).blocks.length = 30 := new_len
          refine s_skip ?_
          refine n_K ?_
          refine s_seq ?_
          refine s_region0 (fun ops => ?_)
          refine o_rd (rd_move rfl) rfl ?_
          refine c_ex rfl (format_a (c := newG (-1) 0 p29 aC aB 30 s.list) (a := aC) rfl (by rw [hlen]; omega)) (by repeat (first | exact Split.nil | (apply Split.cons; next => repeat (first | exact Pick.here | apply Pick.there | apply Pick.app)) | (apply Split.chunk; next => repeat (first | exact PickL.here | exact PickL.last | apply PickL.there | apply PickL.app)) | (apply Split.lst; repeat (first | exact PickL.here | exact PickL.last | apply PickL.there | apply PickL.app)))) rfl (fun v38 Y38 h38 => ?_)
          rcases h38 with ⟨t, rfl, rfl, ht, ho⟩ | ⟨rfl, rfl, ho⟩
          all_goals
            refine so_ap (by repeat (first | exact Ap.nil | apply Ap.cons | apply Ap.app | exact Ap.one)) ?_
            refine o_rd (rd_move rfl) rfl ?_
            refine o_rd (rd_extract rfl rfl) rfl ?_
            refine o_rd (rd_extract rfl rfl) rfl ?_
            refine o_rd (rd_assign rfl) rfl ?_
            refine o_rd (rd_assign rfl) rfl ?_
            refine o_nil ?_
            refine n_K ?_
            refine s_seq ?_
            refine s_seq ?_
            refine s_region0 (fun ops => ?_)
            refine o_rd (rd_move rfl) rfl ?_
            refine o_rd (rd_eqNil rfl rfl) rfl ?_
            refine o_nil ?_
            refine n_K ?_
            refine s_cond rfl (fun c42 => ?_) (fun c42 => ?_)
            · skip
              try (exfalso; (cases c42); done)
              all_goals
                obtain ⟨hb1, hb2⟩ := apart_bad (aP := p29) (aC := aC) (aB := aB) (e := (formatC (newG (-1) 0 p29 aC aB 30 s.list)).1) (t := (formatC (newG (-1) 0 p29 aC aB 30 s.list)).2.1) (c' := (formatC (newG (-1) 0 p29 aC aB 30 s.list)).2.2) hsc.2 rfl ho
                rw [hb1]
                rw [hb1] at hb2
                refine s_seq ?_
                refine s_region [(2, 45)] rfl (fun ops y => ?_)
                refine o_rd (rd_move rfl) rfl ?_
                refine c_is rfl (bad_a (c := newG (-1) 0 p29 aC aB 30 s.list) (i := 0) rfl) (by repeat (first | exact Split.nil | (apply Split.cons; next => repeat (first | exact Pick.here | apply Pick.there | apply Pick.app)) | (apply Split.chunk; next => repeat (first | exact PickL.here | exact PickL.last | apply PickL.there | apply PickL.app)) | (apply Split.lst; repeat (first | exact PickL.here | exact PickL.last | apply PickL.there | apply PickL.app)))) rfl (by repeat (first | exact Ap.nil | apply Ap.cons | apply Ap.app | exact Ap.one)) ?_
                refine o_rd (rd_move rfl) rfl ?_
                refine' o_or (j := 2) (k := 2) y rfl rfl rfl rfl rfl rfl rfl (fun hg45 => ?_) ?_
                rotate_left
                · try simp at hg45
                  refine o_g y rfl rfl ?_
                  refine o_rd (rd_move rfl) rfl ?_
                  refine o_g y rfl rfl ?_
                  refine c_is rfl (bad_a (c := newG (-1) 0 p29 aC aB 30 s.list) (i := 1) rfl) (by repeat (first | exact Split.nil | (apply Split.cons; next => repeat (first | exact Pick.here | apply Pick.there | apply Pick.app)) | (apply Split.chunk; next => repeat (first | exact PickL.here | exact PickL.last | apply PickL.there | apply PickL.app)) | (apply Split.lst; repeat (first | exact PickL.here | exact PickL.last | apply PickL.there | apply PickL.app)))) rfl (by repeat (first | exact Ap.nil | apply Ap.cons | apply Ap.app | exact Ap.one)) ?_
                  exact o_nil ⟨rfl, rfl, ⟨_, (by repeat (first | exact Split.nil | (apply Split.cons; next => repeat (first | exact Pick.here | apply Pick.there | apply Pick.app)) | (apply Split.chunk; next => repeat (first | exact PickL.here | exact PickL.last | apply PickL.there | apply PickL.app)) | (apply Split.lst; repeat (first | exact PickL.here | exact PickL.last | apply PickL.there | apply PickL.app))))⟩⟩
                refine o_rd (rd_assign rfl) rfl ?_
                refine o_nil ?_
                refine n_K ?_
                refine s_ret ?_
                refine r_K ?_
                exact leaf_r (rets1 Try.results4 (rv_tmp rfl)) (by rw [hb2]) (by repeat (first | exact Split.nil | (apply Split.cons; next => repeat (first | exact Pick.here | apply Pick.there | apply Pick.app)) | (apply Split.chunk; next => repeat (first | exact PickL.here | exact PickL.last | apply PickL.there | apply PickL.app)) | (apply Split.lst; repeat (first | exact PickL.here | exact PickL.last | apply PickL.there | apply PickL.app))))
            · skip
              try (exfalso; (cases c42); done)
              all_goals
                obtain ⟨c', hc'⟩ : ∃ c', c' = (formatC (newG (-1) 0 p29 aC aB 30 s.list)).2.2 := ⟨_, rfl⟩
                rw [← hc']
                obtain ⟨a1, a2, a3⟩ := apart_ok (aP := p29) (aC := aC) (aB := aB) (t := t.ts) (c' := c') hsc.2 (Prod.ext ho (Prod.ext ht.symm hc'.symm))
                refine s_skip ?_
                refine n_K ?_
                refine s_seq ?_
                refine s_seq ?_
                refine s_region0 (fun ops => ?_)
                refine o_rd (rd_move rfl) rfl ?_
                refine o_rd (rd_lenS rfl) rfl ?_
                refine o_rd (rd_move rfl) rfl ?_
                refine o_nil ?_
                refine n_K ?_
                refine s_block ?_
                refine s_loop2 [5, 49, 50] (by repeat' first | exact Keep2.nil | apply Keep2.cons rfl) (fun (st : Nat × Tab × Chip) => [(51, .int .i64 st.1), (7, ptr st.2.1.b)]) (fun (st : Nat × Tab × Chip) => tabH aC st.2.1 ++ (chH st.2.2 ++ (s.hp tI ++ (sc.hp tOp ++ [])))) (fun (st : Nat × Tab × Chip) => st.1 ≤ sc.list.length ∧ st.2.2.aC = aC ∧ bads st.2.2 = bads (newG (-1) 0 p29 aC aB 30 s.list) ∧ ApI (hasI s.list) st.2.1.ts) (fun (st : Nat × Tab × Chip) => sc.list.length - st.1) ((0, t, c')) ⟨Nat.zero_le _, a2, a1, a3⟩ (by repeat' first | exact Keep.nil | refine Keep.cons rfl ?_) (by repeat (first | exact Split.nil | (apply Split.cons; next => repeat (first | exact Pick.here | apply Pick.there | apply Pick.app)) | (apply Split.chunk; next => repeat (first | exact PickL.here | exact PickL.last | apply PickL.there | apply PickL.app)) | (apply Split.lst; repeat (first | exact PickL.here | exact PickL.last | apply PickL.there | apply PickL.app)))) ?_
                rintro ⟨i, t1, c1⟩ ⟨g0, g1, g2, g3⟩
                simp only at g0 g1 g2 g3
                have hl1 : c1.blocks.length = 30 := (bads_len g2).trans hlen
                have hB : ∀ x : Int, 0 ≤ x → x < 30 → badB c1 x = hasI s.list x := fun x h0 h1 => (bads_badB g2 x).trans (new_bad (by omega))
                refine s_seq ?_
                refine s_region0 (fun ops => ?_)
                refine o_rd (rd_bin rfl rfl rfl) rfl ?_
                refine o_nil ?_
                refine n_K ?_
                refine s_seq ?_
                refine s_cond rfl (fun c52 => ?_) (fun c52 => ?_)
                · simp only [decide_eq_true_eq, decide_eq_false_iff_not] at c52
                  obtain ⟨z, hg⟩ : ∃ z, sc.list[i]? = some z := ⟨_, List.getElem?_eq_getElem (by omega)⟩
                  refine s_skip ?_
                  refine n_K ?_
                  refine s_seq ?_
                  refine s_block ?_
                  refine s_seq ?_
                  refine s_region0 (fun ops => ?_)
                  refine o_rd (rd_ixSl rfl rfl (by omega)) rfl ?_
                  refine o_rd (rd_ldSlA (o := 0) rfl (by repeat (first | exact PickL.here | exact PickL.last | apply PickL.there | apply PickL.app)) hg rfl rfl) rfl ?_
                  refine o_alloc rfl (fun b10 => ?_)
                  refine o_store rfl rfl (by repeat' first | exact Upd.here | apply Upd.there | apply Upd.app) rfl rfl rfl ?_
                  refine o_nil ?_
                  refine n_K ?_
                  refine s_seq ?_
                  refine s_region0 (fun ops => ?_)
                  refine o_rd (rd_field rfl) rfl ?_
                  refine o_rd (rd_ld rfl (by repeat' first | exact List.Mem.head _ | apply List.Mem.tail | apply List.mem_append_right) rfl) rfl ?_
                  refine o_rd (rd_assign rfl) rfl ?_
                  refine o_nil ?_
                  refine n_K ?_
                  refine s_seq ?_
                  refine s_seq ?_
                  refine s_region0 (fun ops => ?_)
                  refine o_rd (rd_field rfl) rfl ?_
                  refine o_rd (rd_ld rfl (by repeat' first | exact List.Mem.head _ | apply List.Mem.tail | apply List.mem_append_right) rfl) rfl ?_
                  refine o_nil ?_
                  refine n_K ?_
                  refine s_cond rfl (fun c58 => ?_) (fun c58 => ?_)
                  · skip
                    refine s_region0 (fun ops => ?_)
                    refine o_rd (rd_move rfl) rfl ?_
                    refine c_is rfl (spareM_fn (t := t1) (c := c1) g1 (by omega)) (by repeat (first | exact Split.nil | (apply Split.cons; next => repeat (first | exact Pick.here | apply Pick.there | apply Pick.app)) | (apply Split.chunk; next => repeat (first | exact PickL.here | exact PickL.last | apply PickL.there | apply PickL.app)) | (apply Split.lst; repeat (first | exact PickL.here | exact PickL.last | apply PickL.there | apply PickL.app)))) rfl (by repeat (first | exact Ap.nil | apply Ap.cons | apply Ap.app | exact Ap.one)) ?_
                    refine o_rd (rd_move rfl) rfl ?_
                    refine o_rd (rd_extract rfl rfl) rfl ?_
                    refine o_rd (rd_extract rfl rfl) rfl ?_
                    refine o_rd (rd_assign rfl) rfl ?_
                    refine o_nil ?_
                    refine n_K ?_
                    refine s_region0 (fun ops => ?_)
                    refine o_rd (rd_move rfl) rfl ?_
                    refine o_rd (rd_ldA rfl (by repeat' first | exact List.Mem.head _ | apply List.Mem.tail | apply List.mem_append_right) rfl) rfl ?_
                    refine o_rd (rd_move rfl) rfl ?_
                    refine c_ex rfl (do_fn (t := t1) (c := c1) (o := z) g1 (by have := g3.len; show t1.ts.uses.length ≤ 1000; omega) (by have := g3.lost4; show t1.ts.lost.length ≤ 11; omega) g3.next g3.area) (by repeat (first | exact Split.nil | (apply Split.cons; next => repeat (first | exact Pick.here | apply Pick.there | apply Pick.app)) | (apply Split.chunk; next => repeat (first | exact PickL.here | exact PickL.last | apply PickL.there | apply PickL.app)) | (apply Split.lst; repeat (first | exact PickL.here | exact PickL.last | apply PickL.there | apply PickL.app)))) rfl (fun v67 Y67 h67 => ?_)
                    obtain ⟨t', e, c2, hb', rfl, rfl, ha', hd⟩ := h67
                    refine so_ap (by repeat (first | exact Ap.nil | apply Ap.cons | apply Ap.app | exact Ap.one)) ?_
                    refine o_nil ?_
                    refine n_blk ?_
                    refine n_K ?_
                    refine s_region0 (fun ops => ?_)
                    refine o_rd (rd_add64 rfl rfl (by omega)) rfl ?_
                    refine o_rd (rd_move rfl) rfl ?_
                    refine o_nil ?_
                    refine n_K ?_
                    exact ⟨(i + 1, t', c2), ⟨by simp only; omega, ha', ((apI_do g3 hl1 hd).2).trans g2, (apI_do g3 hl1 hd).1⟩, (by simp only; omega), (by rw [hb']; exact (by repeat' first | exact Keep.nil | refine Keep.cons rfl ?_)), (by repeat' first | exact Keep.nil | refine Keep.cons rfl ?_), _, (by repeat (first | exact Split.nil | (apply Split.cons; next => repeat (first | exact Pick.here | apply Pick.there | apply Pick.app)) | (apply Split.chunk; next => repeat (first | exact PickL.here | exact PickL.last | apply PickL.there | apply PickL.app)) | (apply Split.lst; repeat (first | exact PickL.here | exact PickL.last | apply PickL.there | apply PickL.app))))⟩
                  · skip
                    refine s_skip ?_
                    refine n_K ?_
                    refine s_region0 (fun ops => ?_)
                    refine o_rd (rd_move rfl) rfl ?_
                    refine o_rd (rd_ldA rfl (by repeat' first | exact List.Mem.head _ | apply List.Mem.tail | apply List.mem_append_right) rfl) rfl ?_
                    refine o_rd (rd_move rfl) rfl ?_
                    refine c_ex rfl (do_fn (t := t1) (c := c1) (o := z) g1 (by have := g3.len; show t1.ts.uses.length ≤ 1000; omega) (by have := g3.lost4; show t1.ts.lost.length ≤ 11; omega) g3.next g3.area) (by repeat (first | exact Split.nil | (apply Split.cons; next => repeat (first | exact Pick.here | apply Pick.there | apply Pick.app)) | (apply Split.chunk; next => repeat (first | exact PickL.here | exact PickL.last | apply PickL.there | apply PickL.app)) | (apply Split.lst; repeat (first | exact PickL.here | exact PickL.last | apply PickL.there | apply PickL.app)))) rfl (fun v67 Y67 h67 => ?_)
                    obtain ⟨t', e, c2, hb', rfl, rfl, ha', hd⟩ := h67
                    refine so_ap (by repeat (first | exact Ap.nil | apply Ap.cons | apply Ap.app | exact Ap.one)) ?_
                    refine o_nil ?_
                    refine n_blk ?_
                    refine n_K ?_
                    refine s_region0 (fun ops => ?_)
                    refine o_rd (rd_add64 rfl rfl (by omega)) rfl ?_
                    refine o_rd (rd_move rfl) rfl ?_
                    refine o_nil ?_
                    refine n_K ?_
                    exact ⟨(i + 1, t', c2), ⟨by simp only; omega, ha', ((apI_do g3 hl1 hd).2).trans g2, (apI_do g3 hl1 hd).1⟩, (by simp only; omega), (by rw [hb']; exact (by repeat' first | exact Keep.nil | refine Keep.cons rfl ?_)), (by repeat' first | exact Keep.nil | refine Keep.cons rfl ?_), _, (by repeat (first | exact Split.nil | (apply Split.cons; next => repeat (first | exact Pick.here | apply Pick.there | apply Pick.app)) | (apply Split.chunk; next => repeat (first | exact PickL.here | exact PickL.last | apply PickL.there | apply PickL.app)) | (apply Split.lst; repeat (first | exact PickL.here | exact PickL.last | apply PickL.there | apply PickL.app))))⟩
                · simp only [decide_eq_true_eq, decide_eq_false_iff_not] at c52
                  refine s_exit ?_
                  refine x_K ?_
                  refine x_K ?_
                  refine x_blk ?_
                  refine n_K ?_
                  refine s_seq ?_
                  refine s_region0 (fun ops => ?_)
                  refine o_makeMap .i64 rfl (fun b69 => ?_)
                  refine o_rd (rd_assign rfl) rfl ?_
                  refine o_nil ?_
                  refine n_K ?_
                  refine s_seq ?_
                  refine s_seq ?_
                  refine s_region0 (fun ops => ?_)
                  refine o_rd (rd_assign rfl) rfl ?_
                  refine o_nil ?_
                  refine n_K ?_
                  refine s_block ?_
                  have h24 : t1.u.list.length = 24 := g3.len
                  refine s_loop2 [5, 7, 12] (by repeat' first | exact Keep2.nil | apply Keep2.cons rfl) (fun (l : Nat) => [(13, .int .i64 l)]) (fun (l : Nat) => (b69, true, mapO .i64 (seenL (t1.u.list.take l))) :: (tabH aC t1 ++ (chH c1 ++ []))) (fun (l : Nat) => l ≤ 24) (fun (l : Nat) => 24 - l) ((0 : Nat)) (Nat.zero_le _) (by repeat' first | exact Keep.nil | refine Keep.cons rfl ?_) (by repeat (first | exact Split.nil | (apply Split.cons; next => repeat (first | exact Pick.here | apply Pick.there | apply Pick.app)) | (apply Split.chunk; next => repeat (first | exact PickL.here | exact PickL.last | apply PickL.there | apply PickL.app)) | (apply Split.lst; repeat (first | exact PickL.here | exact PickL.last | apply PickL.there | apply PickL.app)))) ?_
                  rintro l k0
                  refine s_seq ?_
                  refine s_seq ?_
                  refine s_region0 (fun ops => ?_)
                  refine o_rd (rd_move rfl) rfl ?_
                  refine o_rd (rd_move rfl) rfl ?_
                  refine c_is rfl (tlen_fn (a := aC) (t := t1)) (by repeat (first | exact Split.nil | (apply Split.cons; next => repeat (first | exact Pick.here | apply Pick.there | apply Pick.app)) | (apply Split.chunk; next => repeat (first | exact PickL.here | exact PickL.last | apply PickL.there | apply PickL.app)) | (apply Split.lst; repeat (first | exact PickL.here | exact PickL.last | apply PickL.there | apply PickL.app)))) rfl (by repeat (first | exact Ap.nil | apply Ap.cons | apply Ap.app | exact Ap.one)) ?_
                  refine o_rd (rd_bin rfl rfl rfl) rfl ?_
                  refine o_nil ?_
                  refine n_K ?_
                  refine s_cond rfl (fun c73 => ?_) (fun c73 => ?_)
                  · simp only [decide_eq_true_eq, decide_eq_false_iff_not] at c73
                    have hr := apart_row (t := t1.ts) g3 hB (l := l) (by show l < t1.u.list.length; omega)
                    refine s_skip ?_
                    refine n_K ?_
                    refine s_seq ?_
                    refine s_block ?_
                    refine s_seq ?_
                    refine s_region0 (fun ops => ?_)
                    refine o_rd (rd_move rfl) rfl ?_
                    refine o_rd (rd_move rfl) rfl ?_
                    refine c_is rfl ((at_fn (a := aC) (t := t1) (i := (l : Int))).to (by rw [at_in (t := t1.ts) (i := (l : Int)) (by omega) (by show (l : Int) < t1.u.list.length; omega)]) rfl) (by repeat (first | exact Split.nil | (apply Split.cons; next => repeat (first | exact Pick.here | apply Pick.there | apply Pick.app)) | (apply Split.chunk; next => repeat (first | exact PickL.here | exact PickL.last | apply PickL.there | apply PickL.app)) | (apply Split.lst; repeat (first | exact PickL.here | exact PickL.last | apply PickL.there | apply PickL.app)))) rfl (by repeat (first | exact Ap.nil | apply Ap.cons | apply Ap.app | exact Ap.one)) ?_
                    refine o_rd (rd_move rfl) rfl ?_
                    refine o_rd (rd_extract rfl rfl) rfl ?_
                    refine o_rd (rd_extract rfl rfl) rfl ?_
                    refine o_rd (rd_assign rfl) rfl ?_
                    refine o_rd (rd_assign rfl) rfl ?_
                    refine o_nil ?_
                    refine n_K ?_
                    refine s_seq ?_
                    refine s_seq ?_
                    refine s_region [(2, 84), (7, 89), (11, 93), (15, 97)] rfl (fun ops y => ?_)
                    refine o_rd (rd_move rfl) rfl ?_
                    refine o_rd (rd_not rfl) rfl ?_
                    refine o_rd (rd_move rfl) rfl ?_
                    refine' o_or (j := 2) (k := 3) y rfl rfl rfl rfl rfl rfl rfl (fun hg84 => ?_) ?_
                    rotate_left
                    · try simp at hg84
                      refine o_g y rfl rfl ?_
                      refine o_rd (rd_move rfl) rfl ?_
                      refine o_g y rfl rfl ?_
                      refine o_rd (rd_move rfl) rfl ?_
                      refine o_g y rfl rfl ?_
                      refine o_rd (rd_seen rfl rfl (by repeat' first | exact List.Mem.head _ | apply List.Mem.tail | apply List.mem_append_right)) rfl ?_
                      exact o_nil ⟨rfl, rfl, ⟨_, (by repeat (first | exact Split.nil | (apply Split.cons; next => repeat (first | exact Pick.here | apply Pick.there | apply Pick.app)) | (apply Split.chunk; next => repeat (first | exact PickL.here | exact PickL.last | apply PickL.there | apply PickL.app)) | (apply Split.lst; repeat (first | exact PickL.here | exact PickL.last | apply PickL.there | apply PickL.app))))⟩⟩
                    refine o_rd (rd_move rfl) rfl ?_
                    refine' o_or (j := 7) (k := 2) y rfl rfl rfl rfl rfl rfl rfl (fun hg89 => ?_) ?_
                    rotate_left
                    · try simp at hg89
                      refine o_g y rfl rfl ?_
                      refine o_rd (rd_move rfl) rfl ?_
                      refine o_g y rfl rfl ?_
                      refine o_rd (rd_bin rfl rfl rfl) rfl ?_
                      exact o_nil ⟨rfl, rfl, ⟨_, (by repeat (first | exact Split.nil | (apply Split.cons; next => repeat (first | exact Pick.here | apply Pick.there | apply Pick.app)) | (apply Split.chunk; next => repeat (first | exact PickL.here | exact PickL.last | apply PickL.there | apply PickL.app)) | (apply Split.lst; repeat (first | exact PickL.here | exact PickL.last | apply PickL.there | apply PickL.app))))⟩⟩
                    refine o_rd (rd_move rfl) rfl ?_
                    refine' o_or (j := 11) (k := 2) y rfl rfl rfl rfl rfl rfl rfl (fun hg93 => ?_) ?_
                    rotate_left
                    · try simp at hg93
                      refine o_g y rfl rfl ?_
                      refine o_rd (rd_move rfl) rfl ?_
                      refine o_g y rfl rfl ?_
                      refine o_rd (rd_bin rfl rfl rfl) rfl ?_
                      exact o_nil ⟨rfl, rfl, ⟨_, (by repeat (first | exact Split.nil | (apply Split.cons; next => repeat (first | exact Pick.here | apply Pick.there | apply Pick.app)) | (apply Split.chunk; next => repeat (first | exact PickL.here | exact PickL.last | apply PickL.there | apply PickL.app)) | (apply Split.lst; repeat (first | exact PickL.here | exact PickL.last | apply PickL.there | apply PickL.app))))⟩⟩
                    refine o_rd (rd_move rfl) rfl ?_
                    refine' o_or (j := 15) (k := 3) y rfl rfl rfl rfl rfl rfl rfl (fun hg97 => ?_) ?_
                    rotate_left
                    · try simp at hg97
                      refine o_g y rfl rfl ?_
                      refine o_rd (rd_move rfl) rfl ?_
                      refine o_g y rfl rfl ?_
                      refine o_rd (rd_move rfl) rfl ?_
                      refine o_g y rfl rfl ?_
                      refine c_is rfl (bad_a (c := c1) g1) (by repeat (first | exact Split.nil | (apply Split.cons; next => repeat (first | exact Pick.here | apply Pick.there | apply Pick.app)) | (apply Split.chunk; next => repeat (first | exact PickL.here | exact PickL.last | apply PickL.there | apply PickL.app)) | (apply Split.lst; repeat (first | exact PickL.here | exact PickL.last | apply PickL.there | apply PickL.app)))) rfl (by repeat (first | exact Ap.nil | apply Ap.cons | apply Ap.app | exact Ap.one)) ?_
                      exact o_nil ⟨rfl, rfl, ⟨_, (by repeat (first | exact Split.nil | (apply Split.cons; next => repeat (first | exact Pick.here | apply Pick.there | apply Pick.app)) | (apply Split.chunk; next => repeat (first | exact PickL.here | exact PickL.last | apply PickL.there | apply PickL.app)) | (apply Split.lst; repeat (first | exact PickL.here | exact PickL.last | apply PickL.there | apply PickL.app))))⟩⟩
                    refine o_nil ?_
                    refine n_K ?_
                    refine s_cond rfl (fun c101 => ?_) (fun c101 => ?_)
                    · skip
                      exact absurd c101 (by have h1 : hasI (t1.u.list.take l) (at0 t1.ts.uses l) = false := (by cases hh : hasI (t1.u.list.take l) (at0 t1.ts.uses l) with | false => rfl | true => exact absurd (has_mem.1 hh) hr.1); rw [h1, hr.2.2.2]; simp; omega)
                    · skip
                      refine s_skip ?_
                      refine n_K ?_
                      refine s_region0 (fun ops => ?_)
                      refine o_rd (rd_move rfl) rfl ?_
                      refine o_rd (rd_move rfl) rfl ?_
                      refine o_mapNew rfl rfl rfl (seen_new hr.1) (by repeat' first | exact Upd.here | apply Upd.there | apply Upd.app) ?_
                      refine o_nil ?_
                      refine n_blk ?_
                      refine n_K ?_
                      refine s_region0 (fun ops => ?_)
                      refine o_rd (rd_move rfl) rfl ?_
                      refine o_rd (rd_add64 rfl rfl (by omega)) rfl ?_
                      refine o_rd (rd_assign rfl) rfl ?_
                      refine o_nil ?_
                      refine n_K ?_
                      exact ⟨l + 1, (by omega), (by omega), (by repeat' first | exact Keep.nil | refine Keep.cons rfl ?_), (by repeat' first | exact Keep.nil | refine Keep.cons rfl ?_), _, (by rw [take_at (by omega), seen_add]; exact (by repeat (first | exact Split.nil | (apply Split.cons; next => repeat (first | exact Pick.here | apply Pick.there | apply Pick.app)) | (apply Split.chunk; next => repeat (first | exact PickL.here | exact PickL.last | apply PickL.there | apply PickL.app)) | (apply Split.lst; repeat (first | exact PickL.here | exact PickL.last | apply PickL.there | apply PickL.app)))))⟩
                  · simp only [decide_eq_true_eq, decide_eq_false_iff_not] at c73
                    have hl24 : l = 24 := (by omega)
                    subst hl24
                    rw [List.take_of_length_le (by omega)]
                    refine s_exit ?_
                    refine x_K ?_
                    refine x_K ?_
                    refine x_blk ?_
                    refine n_K ?_
                    refine s_seq ?_
                    refine s_region0 (fun ops => ?_)
                    refine o_rd (rd_move rfl) rfl ?_
                    refine c_is rfl (spareM_fn (t := t1) (c := c1) g1 (by omega)) (by repeat (first | exact Split.nil | (apply Split.cons; next => repeat (first | exact Pick.here | apply Pick.there | apply Pick.app)) | (apply Split.chunk; next => repeat (first | exact PickL.here | exact PickL.last | apply PickL.there | apply PickL.app)) | (apply Split.lst; repeat (first | exact PickL.here | exact PickL.last | apply PickL.there | apply PickL.app)))) rfl (by repeat (first | exact Ap.nil | apply Ap.cons | apply Ap.app | exact Ap.one)) ?_
                    refine o_rd (rd_move rfl) rfl ?_
                    refine o_rd (rd_extract rfl rfl) rfl ?_
                    refine o_rd (rd_extract rfl rfl) rfl ?_
                    refine o_rd (rd_assign rfl) rfl ?_
                    refine o_rd (rd_assign rfl) rfl ?_
                    refine o_nil ?_
                    refine n_K ?_
                    refine s_seq ?_
                    refine s_region [(3, 112), (6, 115), (11, 120), (17, 126), (23, 132)] rfl (fun ops y => ?_)
                    refine o_rd (rd_move rfl) rfl ?_
                    refine c_is rfl (tlen_fn (a := aC) (t := t1)) (by repeat (first | exact Split.nil | (apply Split.cons; next => repeat (first | exact Pick.here | apply Pick.there | apply Pick.app)) | (apply Split.chunk; next => repeat (first | exact PickL.here | exact PickL.last | apply PickL.there | apply PickL.app)) | (apply Split.lst; repeat (first | exact PickL.here | exact PickL.last | apply PickL.there | apply PickL.app)))) rfl (by repeat (first | exact Ap.nil | apply Ap.cons | apply Ap.app | exact Ap.one)) ?_
                    refine o_rd (rd_bin rfl rfl rfl) rfl ?_
                    refine o_rd (rd_move rfl) rfl ?_
                    refine' o_and (j := 3) (k := 18) y rfl rfl rfl rfl rfl rfl rfl (fun hg112 => ?_) ?_
                    rotate_left
                    · try simp at hg112
                      refine o_g y rfl rfl ?_
                      refine o_rd (rd_move rfl) rfl ?_
                      refine o_g y rfl rfl ?_
                      refine o_rd (rd_not rfl) rfl ?_
                      refine o_g y rfl rfl ?_
                      refine o_rd (rd_move rfl) rfl ?_
                      refine' o_or (j := 6) (k := 14) y rfl rfl rfl rfl rfl rfl rfl (fun hg115 => ?_) ?_
                      rotate_left
                      · try simp at hg115
                        refine o_g y rfl rfl ?_
                        refine o_rd (rd_move rfl) rfl ?_
                        refine o_g y rfl rfl ?_
                        refine o_rd (rd_move rfl) rfl ?_
                        refine o_g y rfl rfl ?_
                        refine o_rd (rd_seen rfl rfl (by repeat' first | exact List.Mem.head _ | apply List.Mem.tail | apply List.mem_append_right)) rfl ?_
                        refine o_g y rfl rfl ?_
                        refine o_rd (rd_not rfl) rfl ?_
                        refine o_g y rfl rfl ?_
                        refine o_rd (rd_move rfl) rfl ?_
                        refine' o_and (j := 11) (k := 4) y rfl rfl rfl rfl rfl rfl rfl (fun hg120 => ?_) ?_
                        rotate_left
                        · try simp at hg120
                          refine o_g y rfl rfl ?_
                          refine o_rd (rd_move rfl) rfl ?_
                          refine o_g y rfl rfl ?_
                          refine o_rd (rd_move rfl) rfl ?_
                          refine o_g y rfl rfl ?_
                          refine c_is rfl (bad_a (c := c1) g1) (by repeat (first | exact Split.nil | (apply Split.cons; next => repeat (first | exact Pick.here | apply Pick.there | apply Pick.app)) | (apply Split.chunk; next => repeat (first | exact PickL.here | exact PickL.last | apply PickL.there | apply PickL.app)) | (apply Split.lst; repeat (first | exact PickL.here | exact PickL.last | apply PickL.there | apply PickL.app)))) rfl (by repeat (first | exact Ap.nil | apply Ap.cons | apply Ap.app | exact Ap.one)) ?_
                          refine o_g y rfl rfl ?_
                          refine o_rd (rd_not rfl) rfl ?_
                          exact o_nil ⟨rfl, rfl, ⟨_, (by repeat (first | exact Split.nil | (apply Split.cons; next => repeat (first | exact Pick.here | apply Pick.there | apply Pick.app)) | (apply Split.chunk; next => repeat (first | exact PickL.here | exact PickL.last | apply PickL.there | apply PickL.app)) | (apply Split.lst; repeat (first | exact PickL.here | exact PickL.last | apply PickL.there | apply PickL.app))))⟩⟩
                        refine o_g y rfl rfl ?_
                        refine o_rd (rd_move rfl) rfl ?_
                        refine' o_and (j := 17) (k := 2) y rfl rfl rfl rfl rfl rfl rfl (fun hg126 => ?_) ?_
                        rotate_left
                        · try simp at hg126
                          refine o_g y rfl rfl ?_
                          refine o_rd (rd_move rfl) rfl ?_
                          refine o_g y rfl rfl ?_
                          refine o_rd (rd_bin rfl rfl rfl) rfl ?_
                          exact o_nil ⟨rfl, rfl, ⟨_, (by repeat (first | exact Split.nil | (apply Split.cons; next => repeat (first | exact Pick.here | apply Pick.there | apply Pick.app)) | (apply Split.chunk; next => repeat (first | exact PickL.here | exact PickL.last | apply PickL.there | apply PickL.app)) | (apply Split.lst; repeat (first | exact PickL.here | exact PickL.last | apply PickL.there | apply PickL.app))))⟩⟩
                        exact o_nil ⟨rfl, rfl, ⟨_, (by repeat (first | exact Split.nil | (apply Split.cons; next => repeat (first | exact Pick.here | apply Pick.there | apply Pick.app)) | (apply Split.chunk; next => repeat (first | exact PickL.here | exact PickL.last | apply PickL.there | apply PickL.app)) | (apply Split.lst; repeat (first | exact PickL.here | exact PickL.last | apply PickL.there | apply PickL.app))))⟩⟩
                      exact o_nil ⟨rfl, rfl, ⟨_, (by repeat (first | exact Split.nil | (apply Split.cons; next => repeat (first | exact Pick.here | apply Pick.there | apply Pick.app)) | (apply Split.chunk; next => repeat (first | exact PickL.here | exact PickL.last | apply PickL.there | apply PickL.app)) | (apply Split.lst; repeat (first | exact PickL.here | exact PickL.last | apply PickL.there | apply PickL.app))))⟩⟩
                    refine o_rd (rd_move rfl) rfl ?_
                    refine' o_and (j := 23) (k := 3) y rfl rfl rfl rfl rfl rfl rfl (fun hg132 => ?_) ?_
                    rotate_left
                    · try simp at hg132
                      refine o_g y rfl rfl ?_
                      refine o_rd (rd_move rfl) rfl ?_
                      refine o_g y rfl rfl ?_
                      refine c_is rfl (tlost_fn (a := aC) (t := t1)) (by repeat (first | exact Split.nil | (apply Split.cons; next => repeat (first | exact Pick.here | apply Pick.there | apply Pick.app)) | (apply Split.chunk; next => repeat (first | exact PickL.here | exact PickL.last | apply PickL.there | apply PickL.app)) | (apply Split.lst; repeat (first | exact PickL.here | exact PickL.last | apply PickL.there | apply PickL.app)))) rfl (by repeat (first | exact Ap.nil | apply Ap.cons | apply Ap.app | exact Ap.one)) ?_
                      refine o_g y rfl rfl ?_
                      refine o_rd (rd_bin rfl rfl rfl) rfl ?_
                      exact o_nil ⟨rfl, rfl, ⟨_, (by repeat (first | exact Split.nil | (apply Split.cons; next => repeat (first | exact Pick.here | apply Pick.there | apply Pick.app)) | (apply Split.chunk; next => repeat (first | exact PickL.here | exact PickL.last | apply PickL.there | apply PickL.app)) | (apply Split.lst; repeat (first | exact PickL.here | exact PickL.last | apply PickL.there | apply PickL.app))))⟩⟩
                    refine o_rd (rd_assign rfl) rfl ?_
                    refine o_nil ?_
                    refine n_K ?_
                    refine s_ret ?_
                    exact leaf_r (rets1 Try.results4 (rv_tmp rfl)) (by rw [hl1]; exact congrArg Value.bool (apart_end g3 hB)) (by repeat (first | exact Split.nil | (apply Split.cons; next => repeat (first | exact Pick.here | apply Pick.there | apply Pick.app)) | (apply Split.chunk; next => repeat (first | exact PickL.here | exact PickL.last | apply PickL.there | apply PickL.app)) | (apply Split.lst; repeat (first | exact PickL.here | exact PickL.last | apply PickL.there | apply PickL.app))))
end Go.Proofs.Ytdfidkhbldedlaa
