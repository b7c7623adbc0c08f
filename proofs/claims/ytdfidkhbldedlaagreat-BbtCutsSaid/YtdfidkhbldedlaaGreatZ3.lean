/- Plain laws: tables and the document's. -/
import Derived.Test.YtdfidkhbldedlaaGreatZ2
namespace Go.Proofs.YtdfidkhbldedlaaGreat
open Go.K
set_option linter.unusedVariables false
set_option linter.unusedSimpArgs false
/-- A table's plan, of a chip of n blocks. -/
structure WF (n : Nat) (u l : List Int) : Prop where
  n1 : 16 ≤ n
  n2 : n ≤ 40
  un : u.Nodup
  len : u.length + 6 = n
  us : ∀ x ∈ u, 2 ≤ x ∧ x < n ∧ x ∉ l
  ln : l.Nodup
  ls : ∀ x ∈ l, 2 ≤ x ∧ x < n
theorem WF.lost4 {n : Nat} {u l : List Int} (h : WF n u l) : l.length ≤ 4 := by
  have h1 := h.n1
  have := nodup_le (l := u ++ l) (m := (List.range (n - 2)).map fun i => ((i : Nat) : Int) + 2) (by
    rw [List.nodup_append]
    exact ⟨h.un, h.ln, fun a ha b hb e => by subst e; exact (h.us a ha).2.2 hb⟩) (fun x hx => by
      have hr : 2 ≤ x ∧ x < n := by
        rcases List.mem_append.1 hx with h1 | h1
        · have := h.us x h1; exact ⟨this.1, this.2.1⟩
        · exact h.ls x h1
      exact List.mem_map.2 ⟨(x - 2).toNat, List.mem_range.2 (by omega), by omega⟩)
  have h2 := h.len
  simp at this
  omega
theorem WF.okP {n : Nat} {u l : List Int} (h : WF n u l) : OkP n u l :=
  ⟨h.n1, h.n2, h.len, by have := h.lost4; omega, fun x hx => by have := h.us x hx; have := h.n2; omega, fun x hx => by have := h.ls x hx; have := h.n2; omega⟩
theorem spare_n {t : TS} {n : Nat} {b : Int} (h : spareB t n b = true) : 2 ≤ b ∧ b < n ∧ b ∉ t.uses ∧ b ∉ t.lost := by
  unfold spareB at h
  simp only [Bool.and_eq_true, Bool.not_eq_true', decide_eq_true_eq] at h
  obtain ⟨⟨⟨h1, h2⟩, h3⟩, h4⟩ := h
  exact ⟨h1, h2, fun e => (by rw [has_mem.2 e] at h3; cases h3), fun e => (by rw [has_mem.2 e] at h4; cases h4)⟩
theorem WF.lose {n : Nat} {t : TS} {b : Int} {l : List Int} (h : WF n t.uses t.lost) (hb : spareB t n b = true) (hp : l.Perm (t.lost ++ [b])) : WF n t.uses l := by
  obtain ⟨b1, b2, b3, b4⟩ := spare_n hb
  have hm : ∀ x, x ∈ l ↔ x ∈ t.lost ∨ x = b := fun x => by rw [hp.mem_iff]; simp
  refine ⟨h.n1, h.n2, h.un, h.len, fun x hx => ?_, hp.nodup_iff.2 (nodup_snoc h.ln b4), fun x hx => ?_⟩
  · obtain ⟨h1, h2, h4⟩ := h.us x hx
    exact ⟨h1, h2, fun e => by rcases (hm x).1 e with e | e; exact h4 e; subst e; exact b3 hx⟩
  · rcases (hm x).1 hx with e | e
    · exact h.ls x e
    · subst e; exact ⟨b1, b2⟩
theorem at0_mem {l : List Int} {i : Int} (hi : 0 ≤ i ∧ i < l.length) : at0 l i ∈ l := List.mem_of_getElem? (at0_get hi.1 hi.2)
theorem WF.swap {n : Nat} {t : TS} {b i : Int} {l : List Int} (h : WF n t.uses t.lost) (hi : 0 ≤ i ∧ i < t.uses.length) (hb : spareB t n b = true) (hp : l.Perm (t.lost ++ [at0 t.uses i])) : WF n (t.uses.set i.toNat b) l := by
  obtain ⟨b1, b2, b3, b4⟩ := spare_n hb
  have hlt : i.toNat < t.uses.length := by omega
  have hat : at0 t.uses i = t.uses[i.toNat] := by simp [at0, List.getD_eq_getElem?_getD, hlt]
  rw [hat] at hp
  have hu := h.us _ (List.getElem_mem hlt)
  have hm : ∀ x, x ∈ l ↔ x ∈ t.lost ∨ x = t.uses[i.toNat] := fun x => by rw [hp.mem_iff]; simp
  refine ⟨h.n1, h.n2, nodup_set h.un b3, by rw [List.length_set]; exact h.len, fun x hx => ?_, hp.nodup_iff.2 (nodup_snoc h.ln hu.2.2), fun x hx => ?_⟩
  · rcases mem_set h.un hlt hx with e | ⟨e, hne⟩
    · subst e
      exact ⟨b1, b2, fun e => by rcases (hm _).1 e with e | e; exact b4 e; exact b3 (by rw [e]; exact List.getElem_mem hlt)⟩
    · obtain ⟨h1, h2, h4⟩ := h.us x e
      exact ⟨h1, h2, fun e => by rcases (hm x).1 e with e | e; exact h4 e; exact hne e⟩
  · rcases (hm x).1 hx with e | e
    · exact h.ls x e
    · subst e; exact ⟨hu.1, hu.2.1⟩
theorem has_perm {l m : List Int} (h : l.Perm m) (x : Int) : hasI l x = hasI m x := by
  cases h1 : hasI m x with
  | true => exact has_mem.2 (h.mem_iff.2 (has_mem.1 h1))
  | false =>
    cases h2 : hasI l x with
    | false => rfl
    | true => rw [has_mem.2 (h.mem_iff.1 (has_mem.1 h2))] at h1; cases h1
theorem RelT.of {t t' : TS} {u : List Int} {l : List Bool} {n : Nat} (h : RelT t u l n) (h1 : t'.uses = t.uses) (h2 : t'.lost = t.lost) : RelT t' u l n :=
  ⟨by rw [h1]; exact h.uu, h.ll, by rw [h2]; exact h.lo, by rw [h2]; exact h.ln, by rw [h2]; exact h.lr⟩
theorem RelT.mark {t t' : TS} {u u' : List Int} {l : List Bool} {n : Nat} {x : Int} {lost : List Int} (h : RelT t u l n) (hx : 0 ≤ x ∧ x < n) (hp : lost.Perm (t.lost ++ [x])) (hn : lost.Nodup) (h1 : t'.uses = u') (h2 : t'.lost = lost) : RelT t' u' (l.set x.toNat true) n := by
  have hm : ∀ y, y ∈ lost ↔ y ∈ t.lost ∨ y = x := fun y => by rw [hp.mem_iff]; simp
  refine ⟨h1.symm, by rw [List.length_set]; exact h.ll, fun b h3 h4 => ?_, by rw [h2]; exact hn, fun y hy => ?_⟩
  · rw [h2, has_perm hp, has_snoc, ← h.lo b h3 h4]
    unfold atB
    rw [List.getD_eq_getElem?_getD, List.getD_eq_getElem?_getD, List.getElem?_set]
    have hll := h.ll
    by_cases e : x = b
    · subst e
      rw [if_pos rfl, if_pos (by omega)]
      simp
    · rw [if_neg (by omega)]
      simp [e]
  · rw [h2] at hy
    rcases (hm y).1 hy with e | e
    · exact h.lr y e
    · subst e; exact hx
/-- A step of the document's table, and the call. -/
theorem do_step {t : TS} {c : Chip} {u u' : List Int} {l l' : List Bool} {o : OpV} {b : Int} {ok : Bool} {r : Int × TS × Chip} (hr : RelT t u l c.blocks.length) (hw : WF c.blocks.length t.uses t.lost) (hs : StepR u l o b ok u' l') (hd : DoD t c o b r) :
    (ok = false ∧ r = (1, t, c)) ∨ (ok = true ∧ ∃ lost, r = keepC t u' lost c ∧ WF c.blocks.length u' lost ∧ lost.length = t.lost.length + 1 ∧ ∀ t' : TS, t'.uses = u' → t'.lost = lost → RelT t' u' l' c.blocks.length) := by
  have hsp := hr.spare b
  have huu := hr.uu
  cases hk : evn o.kind with
  | true =>
    obtain ⟨s1, s2, s3⟩ := hs.1 hk
    obtain ⟨d1, d2⟩ := hd.1 hk
    cases hx : spareB t c.blocks.length b with
    | false =>
      rw [hsp, hx] at s1
      exact .inl ⟨s1, d2 hx⟩
    | true =>
      rw [hsp, hx] at s1
      subst s1
      obtain ⟨lost, hp, rfl⟩ := d1 hx
      have hw' := hw.lose hx hp
      rw [if_pos rfl] at s3
      have hb := spare_n hx
      refine .inr ⟨rfl, lost, by rw [s2, huu], by rw [s2, huu]; exact hw', by rw [hp.length_eq]; simp, fun t' h1 h2 => ?_⟩
      rw [s3]
      exact hr.mark (by omega) hp hw'.ln h1 h2
  | false =>
    obtain ⟨s1, s2, s3⟩ := hs.2 hk
    obtain ⟨d1, d2⟩ := hd.2 hk
    have hat : (atT t o.logical).2 = !(decide (o.logical < 0) || decide ((t.uses.length : Int) ≤ o.logical)) := by
      unfold atT
      split
      · rename_i h; rw [h]; rfl
      · rename_i h
        cases h2 : (decide (o.logical < 0) || decide ((t.uses.length : Int) ≤ o.logical)) with
        | true => exact absurd h2 h
        | false => rfl
    have hok : ok = ((atT t o.logical).2 && spareB t c.blocks.length b) := by
      rw [s1, hsp, hat, huu]
      cases (decide (o.logical < 0) || decide ((t.uses.length : Int) ≤ o.logical)) <;> cases spareB t c.blocks.length b <;> rfl
    cases hx : ((atT t o.logical).2 && spareB t c.blocks.length b) with
    | false =>
      rw [hx] at hok
      exact .inl ⟨hok, d2 hx⟩
    | true =>
      rw [hx] at hok
      subst hok
      obtain ⟨lost, hp, rfl⟩ := d1 hx
      simp only [Bool.and_eq_true] at hx
      have hi : 0 ≤ o.logical ∧ o.logical < t.uses.length := by
        have := hx.1
        rw [hat] at this
        simp at this
        omega
      have hw' := hw.swap hi hx.2 hp
      rw [if_pos rfl] at s2 s3
      have hxu := hw.us _ (at0_mem hi)
      refine .inr ⟨rfl, lost, by rw [s2, huu], by rw [s2, huu]; exact hw', by rw [hp.length_eq]; simp, fun t' h1 h2 => ?_⟩
      rw [s3, huu]
      exact hr.mark (by omega) hp hw'.ln h1 h2
/-- All that is known between two calls of a script: k calls were made. -/
structure JI (c : Chip) (t : TS) (u : List Int) (l : List Bool) (n k : Nat) : Prop where
  up : Up c
  ti : TI c t
  rel : RelT t u l n
  wf : WF n t.uses t.lost
  len : c.blocks.length = n
  ver : t.version.toNat ≤ k + 1
  cnt : Cnt c (1000 * k + 1000)
  pf : c.pf.list = []
  wfl : c.wf.list = []
  af : c.after < 0
theorem JI.keep {c : Chip} {t : TS} {u u' lost : List Int} {l l' : List Bool} {n k : Nat} {e : Int} {t' : TS} {c' : Chip} (h : JI c t u l n k) (hk : k ≤ 1000) (hr : (e, t', c') = keepC t u' lost c) (hw : WF n u' lost) (hrel : ∀ t' : TS, t'.uses = u' → t'.lost = lost → RelT t' u' l' n) : e = 0 ∧ JI c' t' u' l' n (k + 1) := by
  have hfp : FP c ≤ 7 := by unfold FP; rw [h.pf]; simp
  have hfw : FW c ≤ 3 := by unfold FW; rw [h.wfl]; simp
  obtain ⟨e2, t2, c2, h1, h2, h3, h4⟩ := keep_hold (u := u') (l := lost) (B := 1000 * k + 1000) h.up h.ti (by have := h.ver; omega) (by rw [h.len]; exact hw.okP) hfp hfw h.cnt (by omega)
  rw [h1] at hr
  simp only [Prod.mk.injEq] at hr
  obtain ⟨rfl, rfl, rfl⟩ := hr
  rcases h4 with ⟨h5, h6, h7, h8, h9, h10⟩ | ⟨_, _, h5, _⟩
  · refine ⟨h5, h6, h7, hrel _ h8 h9, by rw [h8, h9]; exact hw, h2.len.trans h.len, by have := h.ver; omega, ?_, by rw [h2.pf]; exact h.pf, by rw [h2.wf]; exact h.wfl, by rw [(h2.pos h.af).1]; exact h.af⟩
    have p := h3.p0
    have q := h3.w0
    exact ⟨by push_cast; omega, by push_cast; omega⟩
  · exact absurd h.af h5
theorem JI.mono {c : Chip} {t : TS} {u : List Int} {l : List Bool} {n k : Nat} (h : JI c t u l n k) : JI c t u l n (k + 1) :=
  ⟨h.up, h.ti, h.rel, h.wf, h.len, by have := h.ver; omega, ⟨by have := h.cnt.p0; push_cast; omega, by have := h.cnt.w0; push_cast; omega⟩, h.pf, h.wfl, h.af⟩
/-- The table that is opened behind it. -/
theorem JI.open {c : Chip} {t : TS} {u : List Int} {l : List Bool} {n k : Nat} (h : JI c t u l n k) : ∃ t', openC c = (0, t') ∧ JI c t' u l n k := by
  obtain ⟨a, ha, hh, _⟩ := h.ti
  obtain ⟨t', h1, h2, h3, h4, h5⟩ := open_hold h.up hh
  exact ⟨t', h1, h.up, h2, h.rel.of h3 h4, by rw [h3, h4]; exact h.wf, h.len, by rw [h5]; exact h.ver, h.cnt, h.pf, h.wfl, h.af⟩
theorem JI.refS {c : Chip} {t : TS} {u : List Int} {l : List Bool} {n k : Nat} (h : JI c t u l n k) : u.length ≤ 1000 ∧ l.length ≤ 1000 ∧ ∀ x ∈ u, 0 ≤ x ∧ x < l.length := by
  have h1 := h.wf.n2
  have h2 := h.wf.len
  have h3 := h.rel.uu
  have h4 := h.rel.ll
  refine ⟨by rw [h3]; omega, by omega, fun x hx => ?_⟩
  rw [h3] at hx
  have := h.wf.us x hx
  omega
theorem JI.tabS {c : Chip} {t : Tab} {u : List Int} {l : List Bool} {n k : Nat} (h : JI c t.ts u l n k) : t.u.list.length ≤ 1000 ∧ t.l.list.length ≤ 11 ∧ 0 ≤ t.next ∧ (0 ≤ t.area ∧ t.area ≤ 1) := by
  have h1 := h.wf.n2
  have h2 : t.u.list.length + 6 = n := h.wf.len
  have h3 : t.l.list.length ≤ 4 := h.wf.lost4
  obtain ⟨a, h4, h5, b, h6, h7, h8⟩ := h.ti
  have h9 := h5.a2
  have h10 : t.area = a := h4
  have h11 : 0 ≤ t.next := h7
  omega
/-! a new chip -/
section
variable {aP aC aB n : Nat} {bad : List Int}
theorem badL_at {i : Int} (h : 0 ≤ i ∧ i < n) : atB (badL n bad) i = hasI bad i := by
  have : i.toNat < (badL n bad).length := by rw [badL_len]; omega
  simp only [atB, List.getD_eq_getElem?_getD, List.getElem?_eq_getElem this, Option.getD_some]
  simp only [badL, List.getElem_map, List.getElem_range]
  congr 1; omega
theorem fmtV_eq (hn : 2 ≤ n) (size : Int) : ∀ i, i ≤ n → fmtV (badL n bad) size i = (fmtU (newG (-1) 0 aP aC aB n bad) size i).1
  | 0, _ => rfl
  | i + 1, h => by
    have ih := fmtV_eq hn size i (by omega)
    have hb : badB (newG (-1) 0 aP aC aB n bad) (i : Nat) = atB (badL n bad) (i : Nat) := by rw [new_bad (by omega), badL_at (by omega)]
    unfold fmtV fmtU
    simp only []
    rw [hb, ih]
    split
    · rfl
    · split <;> rfl
theorem new_size (hn : 16 ≤ n ∧ n ≤ 40) : fmtSize (newG (-1) 0 aP aC aB n bad) = (n : Int) - 6 := by
  unfold fmtSize
  rw [new_len, w64_in (x := (n : Int) - 2) (by omega), w64_in (by omega)]
  omega
theorem new_uses (hn : 16 ≤ n ∧ n ≤ 40) : (fmtT (newG (-1) 0 aP aC aB n bad)).uses = fmtV (badL n bad) ((n : Int) - 6) n := by
  rw [fmtT_uses, new_size hn, new_len, fmtV_eq (aP := aP) (aC := aC) (aB := aB) (by omega) _ n (Nat.le_refl _)]
theorem new_fmtX (hn : 16 ≤ n ∧ n ≤ 40) : fmtBad (newG (-1) 0 aP aC aB n bad) = fmtX (badL n bad) := by
  unfold fmtBad fmtX
  rw [new_bad (by omega), new_bad (by omega), new_size hn, new_uses hn, badL_len, badL_at (by omega), badL_at (by omega)]
theorem new_JI (hn : 16 ≤ n ∧ n ≤ 40) (hx : fmtX (badL n bad) = false) : ∃ t c', formatC (newG (-1) 0 aP aC aB n bad) = (0, t, c') ∧ JI c' t (fmtV (badL n bad) ((n : Int) - 6) n) (badL n bad) n 0 ∧ c'.aC = aC ∧ c'.aP = aP := by
  have hnb : fmtBad (newG (-1) 0 aP aC aB n bad) = false := (new_fmtX hn).trans hx
  have hI := fmtI (newG (-1) 0 aP aC aB n bad) (size := (n : Int) - 6) (by omega) n
  have hu := new_uses (aP := aP) (aC := aC) (aB := aB) (bad := bad) hn
  have hl : (fmtT (newG (-1) 0 aP aC aB n bad)).lost = (fmtU (newG (-1) 0 aP aC aB n bad) ((n : Int) - 6) n).2 := by rw [fmtT_lost, new_size hn, new_len]
  rw [← fmtV_eq (by omega) _ n (Nat.le_refl _), ← hl] at hI
  obtain ⟨c', h1, h2⟩ := new_format (after := -1) (keep := 0) (aP := aP) (aC := aC) (aB := aB) (n := n) (bad := bad) (by omega) (by omega) hnb
  rw [hu] at h1 h2
  generalize (fmtT (newG (-1) 0 aP aC aB n bad)).lost = lost at *
  generalize hus : fmtV (badL n bad) ((n : Int) - 6) n = us at *
  have hbd : ∀ x : Int, 0 ≤ x → x < n → badB (newG (-1) 0 aP aC aB n bad) x = hasI bad x := fun x h2 h3 => new_bad (by omega)
  have hx2 : hasI bad 0 = false ∧ hasI bad 1 = false ∧ ¬ ((us.length : Int) < (n : Int) - 6) := by
    unfold fmtX at hx
    rw [badL_len, hus, badL_at (by omega), badL_at (by omega)] at hx
    simp only [Bool.or_eq_false_iff, decide_eq_false_iff_not] at hx
    exact ⟨hx.1.1, hx.1.2, hx.2⟩
  obtain ⟨hb0, hb1, hlen⟩ := hx2
  have hlo : ∀ x ∈ lost, 2 ≤ x ∧ x < n := fun x hx => by
    have := hI.ls x hx
    rw [hbd x this.1 this.2.1] at this
    refine ⟨?_, this.2.1⟩
    rcases (show x < 2 ∨ 2 ≤ x by omega) with h | h
    · rcases (show x = 0 ∨ x = 1 by omega) with rfl | rfl
      · rw [hb0] at this; exact absurd this.2.2 (by simp)
      · rw [hb1] at this; exact absurd this.2.2 (by simp)
    · exact h
  have hw : WF n us lost := ⟨hn.1, hn.2, hI.un, by have := hI.len; omega, fun x hx => by
    have := hI.us x hx
    exact ⟨this.1, this.2.1, fun h => by have h5 := (hI.ls x h).2.2; rw [this.2.2] at h5; cases h5⟩, hI.ln, hlo⟩
  have hrel : RelT ⟨us, lost, 1, 0, 1, 0⟩ us (badL n bad) n := ⟨rfl, badL_len _ _, fun b h3 h4 => by
    rw [badL_at ⟨h3, h4⟩]
    show hasI bad b = hasI lost b
    have hb := hbd b h3 h4
    cases hh : hasI bad b with
    | true => rw [hh] at hb; exact (has_mem.2 (hI.lb b h3 h4 hb)).symm
    | false =>
      rw [hh] at hb
      cases h5 : hasI lost b with
      | false => rfl
      | true => (have := (hI.ls b (has_mem.1 h5)).2.2; rw [hb] at this; cases this), hI.ln, fun x hx => by have := hlo x hx; omega⟩
  have hblk : ∀ k < 2, (newG (-1) 0 aP aC aB n bad).blocks[k]? = some (newB false) := fun k hk => by
    rw [new_block (by omega)]
    rcases (show k = 0 ∨ k = 1 by omega) with rfl | rfl
    · rw [show (((0 : Nat) : Int)) = 0 from rfl, hb0]
    · rw [show (((1 : Nat) : Int)) = 1 from rfl, hb1]
  have hlen' : c'.blocks.length = n := by rw [h2, prg_len, new_len]
  have hc0 : c'.blocks[0]? = some ⟨(newB false).pages.setIfInBounds 0 (planP 1 n us lost), 1, false⟩ := by
    rw [h2]
    exact prg_same (by rw [new_len]; omega)
  have hc1 : c'.blocks[1]? = some (newB false) := by
    rw [h2, prg_other (by omega)]
    exact hblk 1 (by omega)
  have hnp : ∀ (j : Nat) (h : j < 8), (newB false).pages[j] = blankP := fun j h => by simp [newB]
  have hp0 : ∀ (j : Nat) (h : j < 8), ((newB false).pages.setIfInBounds 0 (planP 1 n us lost))[j] = if 0 = j then planP 1 n us lost else blankP := fun j h => by
    rw [Vector.getElem_setIfInBounds]
    split
    · rfl
    · exact hnp j h
  have hrp : RP n (planP 1 n us lost) = some (1, us, lost) := rp_plan hw.okP
  have hg : c'.off = false ∧ c'.dead = false ∧ c'.out = false ∧ c'.after < 0 ∧ c'.pf.list = [] ∧ c'.wf.list = [] ∧ c'.pc = 1 ∧ c'.wc = 0 ∧ c'.aC = aC ∧ c'.aP = aP := by
    rw [h2]
    refine ⟨rfl, rfl, rfl, by show (-1 : Int) < 0; omega, rfl, rfl, ?_, rfl, rfl, rfl⟩
    show w64 (0 + 1) = 1
    exact w64_in (by omega)
  obtain ⟨g1, g2, g3, g4, g5, g6, g7, g8, g9, g10⟩ := hg
  refine ⟨_, c', h1, ⟨⟨g1, g2, g3⟩, ⟨0, rfl, ⟨?_, by omega, fun k hk => ?_, fun k hk b hb j hj w u l hr => ?_, ?_⟩, _, hc0, (show (0 : Int) ≤ 1 by decide), (show (1 : Int) ≤ 1 by decide)⟩, hrel, hw, hlen', (show (1#64).toNat ≤ 0 + 1 by decide), ⟨by rw [g7]; omega, by rw [g8]; omega⟩, g5, g6, g4⟩, g9, g10⟩
  · rw [hlen']; exact hw.okP
  · rcases (show k = 0 ∨ k = 1 by omega) with rfl | rfl
    · exact ⟨_, hc0, ⟨⟨by simp, by simp⟩, fun j hj hle => by simp only at hle ⊢; rw [hp0 j hj, if_neg (by omega)]⟩, rfl⟩
    · exact ⟨_, hc1, ⟨⟨by simp [newB], by simp [newB]⟩, fun j hj _ => hnp j hj⟩, rfl⟩
  · rw [hlen'] at hr
    rcases (show k = 0 ∨ k = 1 by omega) with rfl | rfl
    · rw [hc0] at hb
      cases hb
      simp only at hr
      rw [hp0 j hj] at hr
      split at hr
      · rw [hrp] at hr
        simp only [Option.some.injEq, Prod.mk.injEq] at hr
        obtain ⟨rfl, rfl, rfl⟩ := hr
        exact ⟨Nat.le_refl _, fun _ => ⟨rfl, rfl⟩⟩
      · rw [rp_blank] at hr; cases hr
    · rw [hc1] at hb
      cases hb
      rw [hnp j hj, rp_blank] at hr; cases hr
  · refine ⟨_, hc0, 0, by omega, ?_⟩
    rw [hlen']
    simp only
    rw [hp0 0 (by omega), if_pos rfl]
    exact hrp
end
end Go.Proofs.YtdfidkhbldedlaaGreat
