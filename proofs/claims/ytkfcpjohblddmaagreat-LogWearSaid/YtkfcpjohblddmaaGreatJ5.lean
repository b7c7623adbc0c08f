/- What holds of chips, tables, disks and logs, for all of them; the conditions are the statement's own: part 5. -/
import Derived.Test.YtkfcpjohblddmaaGreatJ3
import Derived.Test.YtkfcpjohblddmaaGreatJ4
import Derived.Test.YtkfcpjohblddmaaGreatJ1
section
/- Plain laws of disks: what stands in the logical blocks. -/
namespace Go.Proofs.YtkfcpjohblddmaaGreat
open Go.K
set_option linter.unusedVariables false
set_option linter.unusedSimpArgs false
/-- What is known of a disk whose logical blocks are these. -/
structure DV (c : Chip) (t : TS) (n k : Nat) (V : Nat → Blk) : Prop where
  di : DI c t n k
  vw : ∀ l : Nat, l + 6 < n → c.blocks[(at0 t.uses (l : Nat)).toNat]? = some (V l)
def upV (V : Nat → Blk) (b : Nat) (v : Blk) : Nat → Blk := fun l => if l = b then v else V l
theorem upV_at (V : Nat → Blk) (b : Nat) (v : Blk) : upV V b v b = v := if_pos rfl
theorem upV_ne {V : Nat → Blk} {b l : Nat} {v : Blk} (h : l ≠ b) : upV V b v l = V l := if_neg h
theorem DV.mono {c : Chip} {t : TS} {n k k' : Nat} {V : Nat → Blk} (h : DV c t n k V) (hk : k ≤ k') : DV c t n k' V := ⟨h.di.mono hk, h.vw⟩
theorem JI.di {c : Chip} {t : TS} {u : List Int} {l : List Bool} {n : Nat} (h : JI c t u l n 0) (hb : ∀ i, 2 ≤ i → i < n → c.blocks[i]? = some (newB false)) : DV c t n 0 fun _ => newB false := by
  have hU : ∀ l : Nat, l + 6 < n → 2 ≤ at0 t.uses (l : Nat) ∧ at0 t.uses (l : Nat) < n := fun l hl => by
    have := h.wf.us _ (at0_mem (l := t.uses) (i := (l : Nat)) (by have := h.wf.len; omega))
    exact ⟨this.1, this.2.1⟩
  refine ⟨⟨h.up, h.ti, h.wf, h.len, fun i b hi => ?_, h.cnt, h.ver⟩, fun l hl => ?_⟩
  · by_cases e : i < 2
    · obtain ⟨a, _, hh, _⟩ := h.ti
      obtain ⟨b2, h1, h2, h3⟩ := hh.bs i e
      rw [h1] at hi
      cases hi
      exact ⟨h2, h3⟩
    · have hl : i < n := by
        have := (List.getElem?_eq_some_iff.1 hi).1
        have := h.len
        omega
      rw [hb i (by omega) hl] at hi
      cases hi
      refine ⟨⟨by simp [newB], fun j hj _ => by simp [newB]⟩, rfl⟩
  · have := hU l hl
    exact hb _ (by omega) (by omega)
theorem at0_inj {u : List Int} (h : u.Nodup) {l m : Nat} (hl : l < u.length) (hm : m < u.length) (e : at0 u (l : Nat) = at0 u (m : Nat)) : l = m := by
  have h1 : at0 u (l : Nat) = u[l] := by simp [at0, List.getD_eq_getElem?_getD, hl]
  have h2 : at0 u (m : Nat) = u[m] := by simp [at0, List.getD_eq_getElem?_getD, hm]
  rw [h1, h2] at e
  have hp := List.pairwise_iff_getElem.1 (List.nodup_iff_pairwise_ne.1 h)
  rcases Nat.lt_trichotomy l m with h3 | h3 | h3
  · exact absurd e (hp l m hl hm h3)
  · exact h3
  · exact absurd e.symm (hp m l hm hl h3)
theorem at0_set {u : List Int} {b l : Nat} {x : Int} (hb : b < u.length) : at0 (u.set b x) (l : Nat) = if l = b then x else at0 u (l : Nat) := by
  unfold at0
  rw [Int.toNat_natCast, List.getD_eq_getElem?_getD, List.getD_eq_getElem?_getD, List.getElem?_set]
  by_cases e : l = b
  · subst e; simp [hb]
  · rw [if_neg (fun h => e h.symm), if_neg e]
section
variable {c : Chip} {t : TS} {n k : Nat} {V : Nat → Blk}
theorem DV.us (h : DV c t n k V) {l : Nat} (hl : l + 6 < n) : 2 ≤ at0 t.uses (l : Nat) ∧ at0 t.uses (l : Nat) < n ∧ l < t.uses.length := by
  have h1 := h.di.wf.len
  have := h.di.wf.us _ (at0_mem (l := t.uses) (i := (l : Nat)) (by omega))
  exact ⟨this.1, this.2.1, by omega⟩
/-- An act on one logical block's block. -/
theorem DV.act {c' : Chip} {k' : Nat} {b : Nat} {v : Blk} (h : DV c t n k V) (hb : b + 6 < n) (f : Fr (at0 t.uses (b : Nat)).toNat c c') (hv : c'.blocks[(at0 t.uses (b : Nat)).toNat]? = some v) (hd : DI c' t n k') : DV c' t n k' (upV V b v) := by
  refine ⟨hd, fun l hl => ?_⟩
  by_cases e : l = b
  · subst e; rw [upV_at]; exact hv
  · rw [upV_ne e, f.oth _ (fun e2 => e ?_)]
    · exact h.vw l hl
    · have h1 := h.us hl
      have h2 := h.us hb
      exact at0_inj h.di.wf.un h1.2.2 h2.2.2 (by omega)
theorem same_u {c c' : Chip} {t : TS} {x l : Nat} (h : SameU t.uses c c') (hl : l < t.uses.length) : c'.blocks[(at0 t.uses (l : Nat)).toNat]? = c.blocks[(at0 t.uses (l : Nat)).toNat]? := h _ (at0_mem (by omega))
/-- A block was moved. -/
theorem DV.moved {c' : Chip} {t' : TS} {k' : Nat} {b x : Nat} {v : Blk} (h : DV c t n k V) (hb : b + 6 < n) (hS : SameU t.uses c c') (hu : t'.uses = t.uses.set b x) (hv : c'.blocks[x]? = some v) (hd : DI c' t' n k') : DV c' t' n k' (upV V b v) := by
  refine ⟨hd, fun l hl => ?_⟩
  have h1 := h.us hl
  have h2 := h.us hb
  rw [hu, at0_set h2.2.2]
  by_cases e : l = b
  · subst e; rw [upV_at, if_pos rfl]; exact hv
  · rw [upV_ne e, if_neg e, same_u (x := 0) hS h1.2.2]
    exact h.vw l hl
theorem DV.stay {c' : Chip} {t' : TS} {k' : Nat} (h : DV c t n k V) (hS : SameU t.uses c c') (hu : t'.uses = t.uses) (hd : DI c' t' n k') : DV c' t' n k' V := by
  refine ⟨hd, fun l hl => ?_⟩
  have h1 := h.us hl
  rw [hu, same_u (x := 0) hS h1.2.2]
  exact h.vw l hl
end
/-- What stands on a chip whose power went, once it is there again. -/
def Later (c : Chip) (n k m : Nat) (V : Nat → Blk) : Prop :=
  ∀ d : Chip, d.blocks = c.blocks → Up d → d.pc = c.pc → d.wc = c.wc → ∃ t2, openC d = (0, t2) ∧ DV d t2 n k V ∧ t2.lost.length + FP c + FW c ≤ m
theorem AllB.same {c c' : Chip} (h : AllB c) (hb : c'.blocks = c.blocks) : AllB c' := fun i b hi => h i b (by rw [← hb]; exact hi)
theorem later_of {c : Chip} {n k m v a : Nat} {u l : List Int} {V : Nat → Blk} (h : Hold c v u l a) (hw : WF n u l) (hl : c.blocks.length = n) (hb : AllB c) (hc : Cnt c (1000 * k + 1000)) (hv : v ≤ k + 1) (hm : l.length + FP c + FW c ≤ m)
    (hV : ∀ i : Nat, i + 6 < n → c.blocks[(at0 u (i : Nat)).toNat]? = some (V i)) : Later c n k m V := fun d h1 h2 h3 h4 => by
  obtain ⟨t, o1, o2, o3, o4⟩ := open_disk h2 (h.same h1) hw (by rw [h1]; exact hl) (hb.same h1) ⟨by rw [h3]; exact hc.p0, by rw [h4]; exact hc.w0⟩ hv
  exact ⟨t, o1, ⟨o2, fun i hi => by rw [o3, h1]; exact hV i hi⟩, by rw [o4]; exact hm⟩
/-- A block's first pages stay, or are mended. -/
def Kept (v w : Blk) (j : Nat) : Prop := ∀ (i : Nat) (h : i < 8), i < j → v.pages[i] = w.pages[i] ∨ v.pages[i] = mendP w.pages[i]
end Go.Proofs.YtkfcpjohblddmaaGreat
end
section
/- Plain laws of disks: what writing a page, and erasing a block, leave in the logical blocks. -/
namespace Go.Proofs.YtkfcpjohblddmaaGreat
open Go.K
set_option linter.unusedVariables false
set_option linter.unusedSimpArgs false
/-- What writing a block's next page leaves. -/
def PV (n k : Nat) (V : Nat → Blk) (b j : Nat) (p : Pg) (c : Chip) (t : TS) (r : Int × TS × Chip) : Prop :=
  FrA c r.2.2 ∧ ∃ v : Blk, v.next = ((j + 1 : Nat) : Int) ∧ Kept v (V b) j ∧
  ((r.1 = 0 ∧ DV r.2.2 r.2.1 n k (upV V b v) ∧ (∀ h : j < 8, v.pages[j] = p) ∧ r.2.1.lost.length + FP r.2.2 + FW r.2.2 ≤ t.lost.length + FP c + FW c ∧
      (((progC c (atD t (b : Nat)) j p).1 = 33 ∧ t.lost.length + 1 ≤ r.2.1.lost.length ∧ ∀ (i : Nat) (h : i < 8), i < j → v.pages[i] = mendP (V b).pages[i]) ∨ (progC c (atD t (b : Nat)) j p = (0, r.2.2) ∧ r.2.1 = t ∧ v = wrK (V b) j p))) ∨
   (r.1 = 34 ∧ DV r.2.2 r.2.1 n k (upV V b v) ∧ 4 ≤ r.2.1.lost.length ∧ r.2.1.lost.length + FP r.2.2 + FW r.2.2 + 1 ≤ t.lost.length + FP c + FW c) ∨
   (r.1 = 30 ∧ r.2.2.off = true ∧ ¬ c.after < 0 ∧ (∃ m, ∀ h : j < 8, v.pages[j] = andP m blankP p) ∧ Later r.2.2 n k (t.lost.length + FP c + FW c) (upV V b v)))
theorem wrK_kept {w : Blk} {j : Nat} {q : Pg} : Kept (wrK w j q) w j := fun i h hi => .inl (by rw [wrK_at h, if_neg (by omega)])
theorem filled_kept {w x v : Blk} {j : Nat} {more : List Pg} {q : Pg} (h : Filled (wrK w j q) v j more) : Kept v w j := fun i hi hlt => .inr (by rw [h.2.1 i hi hlt, wrK_at hi, if_neg (by omega)])
theorem filled_mended {w x v : Blk} {j : Nat} {more : List Pg} {q : Pg} (h : Filled (wrK w j q) v j more) : ∀ (i : Nat) (h : i < 8), i < j → v.pages[i] = mendP w.pages[i] := fun i hi hlt => by rw [h.2.1 i hi hlt, wrK_at hi, if_neg (by omega)]
theorem upV_up (V : Nat → Blk) (b : Nat) (v w : Blk) : upV (upV V b v) b w = upV V b w := by
  funext l
  unfold upV
  split <;> rfl
theorem prog_view {c : Chip} {t : TS} {n k b j : Nat} {V : Nat → Blk} {p : Pg} {r : Int × TS × Chip} (h : DV c t n k V) (hk : k ≤ 700000) (hf : FP c + FW c ≤ 3) (hb : b + 6 < n) (hj : j < 8) (hn : (V b).next = j) (hr : ProgD n (b : Nat) j p c t r) : PV n (k + 20) V b j p c t r := by
  have hu := h.us hb
  have hlen := h.di.len
  obtain ⟨a, ha⟩ : ∃ a : Nat, at0 t.uses (b : Nat) = (a : Nat) := ⟨(at0 t.uses (b : Nat)).toNat, by omega⟩
  have hva := h.vw b hb
  have hta : (at0 t.uses (b : Nat)).toNat = a := by omega
  rw [hta] at hva
  obtain ⟨m, c1, f, hw, hA, hcase⟩ := prog_disk h.di (by omega) hf (by omega) ha hva hj hn hr
  rcases hcase with ⟨h1, h2, rfl, h3⟩ | ⟨rfl, hpe, h1, h2, h0, hS, h3⟩ | ⟨rfl, hpe, h1, rfl⟩
  · refine ⟨f.all, wrK (V b) j (andP m blankP p), by show (j : Int) + 1 = _; omega, wrK_kept, .inr (.inr ⟨rfl, h1, h2, ⟨m, fun hj' => by rw [wrK_at hj', if_pos rfl]⟩, ?_⟩)⟩
    obtain ⟨a0, _, hh, _⟩ := h.di.ti
    have fp := f.fp
    have fw := f.fw
    have hv := h.di.ver
    refine later_of (hh.far (by omega) f) h.di.wf (f.len.trans hlen) hA ⟨by have := h3.p0; push_cast at this ⊢; omega, by have := h3.w0; push_cast at this ⊢; omega⟩ (by omega) (by simp only; omega) fun i hi => ?_
    by_cases e : i = b
    · subst e; rw [upV_at, hta]; exact hw
    · have hui := h.us hi
      rw [upV_ne e, f.oth _ (fun e2 => e (at0_inj h.di.wf.un hui.2.2 hu.2.2 (by omega)))]
      exact h.vw i hi
  · have fw := f.fw
    have hD := h.act hb (by rw [hta]; exact f) (by rw [hta]; exact hw) h1
    refine ⟨f.all.trans h0, ?_⟩
    rcases h3 with ⟨q1, q2, q3, q4, q5⟩ | ⟨q1, q2, q3, q4, x, b', q5, q6, q7, q8, q9⟩ | ⟨q1, q2, q3, q4, q5, v, uu, ll, a0, q6, q6', q7, q8, q9⟩
    · refine ⟨_, by show (j : Int) + 1 = _; omega, wrK_kept, .inr (.inl ⟨q1, (hD.stay hS q3 q2).mono (by omega), no_spare q2.wf q4, by omega⟩)⟩
    · refine ⟨b', by rw [q9.1]; simp, filled_kept (x := b') q9, .inl ⟨q1, ?_, fun hj' => q9.2.2 p hj' rfl, by omega, .inl ⟨hpe, q4, filled_mended (x := b') q9⟩⟩⟩
      have := (hD.moved hb hS (by rw [Int.toNat_natCast] at q7; exact q7) q8 q2).mono (k' := k + 20) (by omega)
      rwa [upV_up] at this
    · have q3' : ¬ c.after < 0 := fun hp => q3 (by rw [(f.pos hp).1]; exact hp)
      have hc' : Cnt r.2.2 (1000 * ((k + 20 : Nat) : Int) + 1000) := ⟨by have := q4.p0; push_cast at this ⊢; omega, by have := q4.w0; push_cast at this ⊢; omega⟩
      have hl' : r.2.2.blocks.length = n := h0.len.trans h1.len
      rcases q9 with q9 | ⟨x, b', r1, r2, r3, r4, r5⟩
      · refine ⟨_, by show (j : Int) + 1 = _; omega, wrK_kept, .inr (.inr ⟨q1, q2, q3', ⟨129, fun hj' => by rw [wrK_at hj', if_pos rfl]⟩, ?_⟩)⟩
        refine later_of q7 q8 hl' q5 hc' (by omega) (by omega) fun i hi => ?_
        rw [q9, same_u (x := 0) hS (h.us hi).2.2]
        exact hD.vw i hi
      · refine ⟨b', by rw [r5.1]; simp, filled_kept (x := b') r5, .inr (.inr ⟨q1, q2, q3', ⟨258, fun hj' => by rw [and_full (Nat.le_refl _)]; exact r5.2.2 p hj' rfl⟩, ?_⟩)⟩
        refine later_of q7 q8 hl' q5 hc' (by omega) (by omega) fun i hi => ?_
        rw [r3, Int.toNat_natCast, at0_set hu.2.2]
        by_cases e : i = b
        · subst e; rw [if_pos rfl, upV_at]; exact r4
        · rw [if_neg e, upV_ne e, same_u (x := 0) hS (h.us hi).2.2, hD.vw i hi, upV_ne e]
  · refine ⟨f.all, _, by show (j : Int) + 1 = _; omega, wrK_kept, .inl ⟨rfl, (h.act hb (by rw [hta]; exact f) (by rw [hta]; exact hw) h1).mono (by omega), fun hj' => by rw [wrK_at hj', if_pos rfl]; exact and_full (Nat.le_refl _), ?_, .inr ⟨hpe, rfl, by rw [and_full (Nat.le_refl _)]⟩⟩⟩
    have fp := f.fp
    have fw := f.fw
    simp only
    omega
/-- What erasing a block leaves. -/
def EV (n k : Nat) (V : Nat → Blk) (b : Nat) (c : Chip) (t : TS) (r : Int × TS × Chip) : Prop :=
  FrA c r.2.2 ∧ ∃ v : Blk, (∀ (j : Nat) (h : j < 8), v.pages[j] = blankP ∨ v.pages[j] = (V b).pages[j]) ∧
  ((r.1 = 0 ∧ DV r.2.2 r.2.1 n k (upV V b v) ∧ v.next = 0 ∧ r.2.1.lost.length + FP r.2.2 + FW r.2.2 ≤ t.lost.length + FP c + FW c) ∨
   (r.1 = 34 ∧ DV r.2.2 r.2.1 n k (upV V b v) ∧ 4 ≤ r.2.1.lost.length ∧ r.2.1.lost.length + FP r.2.2 + FW r.2.2 + 1 ≤ t.lost.length + FP c + FW c) ∨
   (r.1 = 30 ∧ r.2.2.off = true ∧ ¬ c.after < 0 ∧ Later r.2.2 n k (t.lost.length + FP c + FW c) (upV V b v)))
theorem DV.blk {c : Chip} {t : TS} {n k : Nat} {V : Nat → Blk} (h : DV c t n k V) {l : Nat} (hl : l + 6 < n) : BI (V l) ∧ (V l).bad = false := h.di.bs _ _ (h.vw l hl)
theorem BI.none {b : Blk} (h : BI b) (h0 : b.next = 0) (j : Nat) (hj : j < 8) : b.pages[j] = blankP := h.bl j hj (by omega)
theorem erase_view {c : Chip} {t : TS} {n k b : Nat} {V : Nat → Blk} {r : Int × TS × Chip} (h : DV c t n k V) (hk : k ≤ 700000) (hf : FP c + FW c ≤ 3) (hb : b + 6 < n) (hr : EraseD n (b : Nat) c t r) : EV n (k + 20) V b c t r := by
  have hu := h.us hb
  have hlen := h.di.len
  obtain ⟨a, ha⟩ : ∃ a : Nat, at0 t.uses (b : Nat) = (a : Nat) := ⟨(at0 t.uses (b : Nat)).toNat, by omega⟩
  have hva := h.vw b hb
  have hta : (at0 t.uses (b : Nat)).toNat = a := by omega
  rw [hta] at hva
  obtain ⟨b1, c1, f, hw, hbi, hA, hpg, hcase⟩ := erase_disk h.di (by omega) hf (by omega) ha hva hr
  rcases hcase with ⟨h1, h2, rfl, h3⟩ | ⟨h1, h2, h0, hS, h3⟩ | ⟨h1, h2, rfl⟩
  · refine ⟨f.all, b1, hpg, .inr (.inr ⟨rfl, h1, h2, ?_⟩)⟩
    obtain ⟨a0, _, hh, _⟩ := h.di.ti
    have fp := f.fp
    have fw := f.fw
    have hv := h.di.ver
    refine later_of (hh.far (by omega) f) h.di.wf (f.len.trans hlen) hA ⟨by have := h3.p0; push_cast at this ⊢; omega, by have := h3.w0; push_cast at this ⊢; omega⟩ (by omega) (by simp only; omega) fun i hi => ?_
    by_cases e : i = b
    · subst e; rw [upV_at, hta]; exact hw
    · have hui := h.us hi
      rw [upV_ne e, f.oth _ (fun e2 => e (at0_inj h.di.wf.un hui.2.2 hu.2.2 (by omega)))]
      exact h.vw i hi
  · have fp := f.fp
    have hD := h.act hb (by rw [hta]; exact f) (by rw [hta]; exact hw) h1
    refine ⟨f.all.trans h0, ?_⟩
    rcases h3 with ⟨q1, q2, q3, q4, q5⟩ | ⟨q1, q2, q3, q4, x, b', q5, q6, q7, q8, q9⟩ | ⟨q1, q2, q3, q4, q5, v, uu, ll, a0, q6, q6', q7, q8, q9⟩
    · exact ⟨b1, hpg, .inr (.inl ⟨q1, (hD.stay hS q3 q2).mono (by omega), no_spare q2.wf q4, by omega⟩)⟩
    · have hb0 : b'.next = 0 := by rw [q9.1]; rfl
      have hbi' := (q2.bs _ _ q8).1
      refine ⟨b', fun j hj => .inl (hbi'.none hb0 j hj), .inl ⟨q1, ?_, hb0, by omega⟩⟩
      have := (hD.moved hb hS (by rw [Int.toNat_natCast] at q7; exact q7) q8 q2).mono (k' := k + 20) (by omega)
      rwa [upV_up] at this
    · have q3' : ¬ c.after < 0 := fun hp => q3 (by rw [(f.pos hp).1]; exact hp)
      have hc' : Cnt r.2.2 (1000 * ((k + 20 : Nat) : Int) + 1000) := ⟨by have := q4.p0; push_cast at this ⊢; omega, by have := q4.w0; push_cast at this ⊢; omega⟩
      have hl' : r.2.2.blocks.length = n := h0.len.trans h1.len
      rcases q9 with q9 | ⟨x, b', r1, r2, r3, r4, r5⟩
      · refine ⟨b1, hpg, .inr (.inr ⟨q1, q2, q3', ?_⟩)⟩
        refine later_of q7 q8 hl' q5 hc' (by omega) (by omega) fun i hi => ?_
        rw [q9, same_u (x := 0) hS (h.us hi).2.2]
        exact hD.vw i hi
      · have hb0 : b'.next = 0 := by rw [r5.1]; rfl
        have hbi' := (q5 _ _ r4).1
        refine ⟨b', fun j hj => .inl (hbi'.none hb0 j hj), .inr (.inr ⟨q1, q2, q3', ?_⟩)⟩
        refine later_of q7 q8 hl' q5 hc' (by omega) (by omega) fun i hi => ?_
        rw [r3, Int.toNat_natCast, at0_set hu.2.2]
        by_cases e : i = b
        · subst e; rw [if_pos rfl, upV_at]; exact r4
        · rw [if_neg e, upV_ne e, same_u (x := 0) hS (h.us hi).2.2, hD.vw i hi, upV_ne e]
  · exact ⟨f.all, b1, hpg, .inl ⟨rfl, (h.act hb (by rw [hta]; exact f) (by rw [hta]; exact hw) h1).mono (by omega), h2, by have fp := f.fp; have fw := f.fw; simp only; omega⟩⟩
end Go.Proofs.YtkfcpjohblddmaaGreat
end
section
/- Plain laws of disks: calls that are refused; what fails, and what does not. -/
namespace Go.Proofs.YtkfcpjohblddmaaGreat
open Go.K
set_option linter.unusedVariables false
set_option linter.unusedSimpArgs false
section
variable {c : Chip} {t : TS} {n k : Nat} {V : Nat → Blk} {b j : Int} {p : Pg} {r : Int × TS × Chip}
theorem prog_arg (h : DV c t n k V) (hx : ¬ (0 ≤ b ∧ b + 6 < n) ∨ ¬ (0 ≤ j ∧ j < 8)) (hr : ProgD n b j p c t r) : r = (1, t, c) := by
  have hl := h.di.wf.len
  have hm : mayE c (atD t b) j = 1 := read_bad h.di (by rcases hx with hx | hx; exact .inl (by omega); exact .inr hx)
  have hp := prog_may (d := p) (c := c) (i := atD t b) (j := j) (by rw [hm]; decide)
  rw [hm] at hp
  have := hr.2 (by rw [hp]; simp)
  rw [hp] at this
  exact this
theorem prog_ord (h : DV c t n k V) {b j : Nat} (hb : b + 6 < n) (hj : j < 8) (hn : (V b).next ≠ j) (hr : ProgD n (b : Nat) (j : Nat) p c t r) : r = (32, t, c) := by
  have hu := h.us hb
  have hv := h.vw b hb
  have hat : atD t (b : Nat) = ((at0 t.uses (b : Nat)).toNat : Nat) := atD_in (by omega) (by omega)
  have hp := prog_skip h.di.up (d := p) hv hj hn
  rw [← hat] at hp
  have := hr.2 (by rw [hp]; simp)
  rw [hp] at this
  exact this
theorem erase_arg (h : DV c t n k V) (hx : ¬ (0 ≤ b ∧ b + 6 < n)) (hr : EraseD n b c t r) : r = (1, t, c) := by
  have hl := h.di.wf.len
  have hm : mayE c (atD t b) 0 = 1 := read_bad h.di (.inl (by omega))
  have hp := erase_may (c := c) (i := atD t b) (by rw [hm]; decide)
  rw [hm] at hp
  have := hr.2 (by rw [hp]; simp)
  rw [hp] at this
  exact this
/-- Which program fails, told exactly. -/
theorem prog_tells (h : DV c t n k V) (hk : k ≤ 700000) (hp : c.after < 0) {b j : Nat} (hb : b + 6 < n) (hj : j < 8) (hn : (V b).next = j) :
    (progC c (atD t (b : Nat)) j p).1 = (if hasI c.pf.list c.pc = true then 33 else 0) ∧ (progC c (atD t (b : Nat)) j p).2.pc = c.pc + 1 := by
  have hu := h.us hb
  have hv := h.vw b hb
  have hat : atD t (b : Nat) = ((at0 t.uses (b : Nat)).toNat : Nat) := atD_in (by omega) (by omega)
  obtain ⟨h1, h2⟩ := h.di.bs _ _ hv
  have := prog_exact (d := p) h.di.up hp hv hj h2 h1 hn h.di.cnt (by omega)
  rw [← hat] at this
  exact ⟨this.1, this.2.1⟩
/-- A page whose program does not fail. -/
theorem prog_well (h : DV c t n k V) (hk : k ≤ 700000) (hf : FP c + FW c ≤ 3) (hp : c.after < 0) (hno : hasI c.pf.list c.pc = false) {b j : Nat} (hb : b + 6 < n) (hj : j < 8) (hn : (V b).next = j) (hr : ProgD n (b : Nat) (j : Nat) p c t r) :
    r.1 = 0 ∧ r.2.1 = t ∧ DV r.2.2 t n (k + 20) (upV V b (wrK (V b) j p)) ∧ r.2.2.pc = c.pc + 1 ∧ FrA c r.2.2 := by
  obtain ⟨h1, h2⟩ := prog_tells (p := p) h hk hp hb hj hn
  rw [hno, if_neg (by simp)] at h1
  obtain ⟨f, v, _, _, hc⟩ := prog_view h hk hf hb hj hn hr
  rcases hc with ⟨q1, q2, q3, q4, q5⟩ | ⟨q1, _⟩ | ⟨_, _, q3, _⟩
  · rcases q5 with ⟨q5, _⟩ | ⟨q5, q6, q7⟩
    · rw [h1] at q5; cases q5
    · rw [q6, q7] at q2
      rw [q5] at h2
      exact ⟨q1, q6, q2, h2, f⟩
  · have := hr.2 (by rw [h1]; decide)
    rw [this] at q1
    simp only at q1
    omega
  · exact absurd hp q3
/-- A page whose program fails. -/
theorem prog_fails (h : DV c t n k V) (hk : k ≤ 700000) (hf : FP c + FW c ≤ 3) (hp : c.after < 0) (hyes : hasI c.pf.list c.pc = true) {b j : Nat} (hb : b + 6 < n) (hj : j < 8) (hn : (V b).next = j) (hr : ProgD n (b : Nat) (j : Nat) p c t r) :
    FrA c r.2.2 ∧ ∃ v : Blk, v.next = ((j + 1 : Nat) : Int) ∧ Kept v (V b) j ∧ DV r.2.2 r.2.1 n (k + 20) (upV V b v) ∧
    ((r.1 = 0 ∧ (∀ h : j < 8, v.pages[j] = p) ∧ t.lost.length + 1 ≤ r.2.1.lost.length ∧ (∀ (i : Nat) (h : i < 8), i < j → v.pages[i] = mendP (V b).pages[i]) ∧ r.2.1.lost.length + FP r.2.2 + FW r.2.2 ≤ t.lost.length + FP c + FW c) ∨
     (r.1 = 34 ∧ 4 ≤ r.2.1.lost.length ∧ r.2.1.lost.length + FP r.2.2 + FW r.2.2 + 1 ≤ t.lost.length + FP c + FW c)) := by
  obtain ⟨h1, h2⟩ := prog_tells (p := p) h hk hp hb hj hn
  rw [hyes, if_pos rfl] at h1
  obtain ⟨f, v, hv1, hv2, hc⟩ := prog_view h hk hf hb hj hn hr
  refine ⟨f, v, hv1, hv2, ?_⟩
  rcases hc with ⟨q1, q2, q3, q4, q5⟩ | ⟨q1, q2, q3, q4⟩ | ⟨_, _, q3, _⟩
  · rcases q5 with ⟨_, q5, q6⟩ | ⟨q5, _⟩
    · exact ⟨q2, .inl ⟨q1, q3, q5, q6, q4⟩⟩
    · rw [q5] at h1; cases h1
  · exact ⟨q2, .inr ⟨q1, q3, q4⟩⟩
  · exact absurd hp q3
theorem dread_at (h : DV c t n k V) {b j : Nat} (hb : b + 6 < n) (hj : j < 8) : mayE c (atD t (b : Nat)) j = 0 ∧ readP c (atD t (b : Nat)) j = (V b).pages[j] := by
  have hu := h.us hb
  exact read_disk h.di (by omega) (by omega) (h.vw b hb) hj
theorem dread_bad (h : DV c t n k V) (hx : ¬ (0 ≤ b ∧ b + 6 < n) ∨ ¬ (0 ≤ j ∧ j < 8)) : mayE c (atD t b) j = 1 := by
  have hl := h.di.wf.len
  exact read_bad h.di (by rcases hx with hx | hx; exact .inl (by omega); exact .inr hx)
/-- Acts that are to fail. -/
theorem DV.fail (h : DV c t n k V) (pr : Bool) (s : Sl Int) : DV (failC c pr s) t n k V := by
  have e : (failC c pr s).blocks = c.blocks := by unfold failC; split <;> rfl
  refine ⟨⟨?_, h.di.ti.same e, h.di.wf, by rw [e]; exact h.di.len, h.di.bs.same e, ?_, h.di.ver⟩, by rw [e]; exact h.vw⟩
  · unfold failC; split <;> exact ⟨h.di.up.off, h.di.up.dead, h.di.up.out⟩
  · have h1 := h.di.cnt.p0
    have h2 := h.di.cnt.w0
    unfold failC; split
    · exact ⟨by simp only; omega, by simp only; omega⟩
    · exact ⟨by simp only; omega, by simp only; omega⟩
end
end Go.Proofs.YtkfcpjohblddmaaGreat
end
section
/- A disk in one shut piece of memory: contracts of its calls. -/
namespace Go.Proofs.YtkfcpjohblddmaaGreat
open Go.K
set_option linter.unusedVariables false
set_option linter.unusedSimpArgs false
/-- A disk: its block of memory, its table, its chip. -/
structure Dsk where
  dk : Nat
  t : Tab
  c : Chip
@[irreducible] def dkH (d : Dsk) : Hp := (d.dk, true, C [ptr d.c.aC, ptr d.t.b] tDk) :: (tabH d.c.aC d.t ++ (chH d.c ++ []))
theorem dkH_eq (d : Dsk) : dkH d = (d.dk, true, C [ptr d.c.aC, ptr d.t.b] tDk) :: (tabH d.c.aC d.t ++ (chH d.c ++ [])) := by unfold dkH; rfl
def DD (d : Dsk) (n k : Nat) (V : Nat → Blk) : Prop := DV d.c d.t.ts n k V
theorem rd_dc {P : Program} {E : Env} {H F : Hp} {t : TypeId} {x : Operand} {d : Dsk} [ht : Agg P t false] (hx : ev E x = some (.pointer (some ⟨d.dk, 0, none⟩))) (hm : PickL (dkH d) H F) : Rd P E H (.load t x) (ptr d.c.aC) :=
  rd_ld hx (hm.sub (by rw [dkH_eq]; exact .head _)) rfl
theorem chH_in (d : Dsk) : ∀ x ∈ chH d.c, x ∈ dkH d := fun x hx => by
  rw [dkH_eq]
  exact .tail _ (List.mem_append_right _ (List.mem_append_left _ hx))
theorem rd_dp {P : Program} {E : Env} {H F : Hp} {t : TypeId} {x : Operand} {d : Dsk} [ht : Agg P t false] (hx : ev E x = some (.pointer (some ⟨d.c.aC, 0, none⟩))) (hm : PickL (dkH d) H F) : Rd P E H (.load t x) (ptr d.c.aP) :=
  rd_ld hx (hm.sub (chH_in d _ (by rw [chH_eq]; exact .tail _ (.head _)))) rfl
section
variable {d : Dsk}
theorem dk_len : Does Tryz.prog 13 [ptr d.dk] (dkH d) (Is (.int .i64 d.t.u.list.length) (dkH d)) := by
  rw [dkH_eq]; exact (dlen_fn (a := d.c.aC) (t := d.t) (dk := d.dk)).inIs sP aQ sP
theorem dk_read {b k : Int} : Does Tryz.prog 37 [ptr d.dk, .int .i64 b, .int .i64 k] (dkH d)
    (Is (.tuple #[.agg (vbc (readP d.c (atD d.t.ts b) k)).toArray, .int .i64 (mayE d.c (atD d.t.ts b) k)]) (dkH d)) := by
  rw [dkH_eq]; exact (dread_fn (c := d.c) (t := d.t) (dk := d.dk) rfl).inIs sP aQ sP
theorem dk_program {n k : Nat} {V : Nat → Blk} (h : DD d n k V) {b j : Int} {p : Pg} : Does Tryz.prog 49 [ptr d.dk, .int .i64 b, .int .i64 j, .agg (vbc p).toArray] (dkH d)
    (fun v H => ∃ (t' : Tab) (c' : Chip) (e : Int), v = .int .i64 e ∧ H = dkH ⟨d.dk, t', c'⟩ ++ [] ∧ ProgD n b j p d.c d.t.ts (e, t'.ts, c')) := by
  rw [dkH_eq]
  refine (dprogram_fn (c := d.c) (t := d.t) (dk := d.dk) (n := n) rfl h.di.len h.di.wt).inn sP fun v Y ⟨t', e, c', h1, h2, h3, h4, h5⟩ => ?_
  refine ⟨_, ⟨t', c', e, h2, rfl, h5⟩, ?_⟩
  rw [h3, dkH_eq]
  simp only [h4, List.append_nil]
  exact ⟨_, _, aQ, sP⟩
theorem dk_erase {n k : Nat} {V : Nat → Blk} (h : DD d n k V) {b : Int} : Does Tryz.prog 51 [ptr d.dk, .int .i64 b] (dkH d)
    (fun v H => ∃ (t' : Tab) (c' : Chip) (e : Int), v = .int .i64 e ∧ H = dkH ⟨d.dk, t', c'⟩ ++ [] ∧ EraseD n b d.c d.t.ts (e, t'.ts, c')) := by
  rw [dkH_eq]
  refine (derase_fn (c := d.c) (t := d.t) (dk := d.dk) (n := n) rfl h.di.len h.di.wt).inn sP fun v Y ⟨t', e, c', h1, h2, h3, h4, h5⟩ => ?_
  refine ⟨_, ⟨t', c', e, h2, rfl, h5⟩, ?_⟩
  rw [h3, dkH_eq]
  simp only [h4, List.append_nil]
  exact ⟨_, _, aQ, sP⟩
theorem failC_aC (c : Chip) (pr : Bool) (s : Sl Int) : (failC c pr s).aC = c.aC := by unfold failC; split <;> rfl
end
theorem count_no (m : Nat) : (badL m []).countP id = 0 := by
  unfold badL
  rw [List.countP_map]
  exact List.countP_eq_zero.2 fun x _ => (show ¬ false = true from Bool.false_ne_true)
/-- What a new disk is. -/
structure New0 (d : Dsk) (m : Nat) : Prop where
  dd : DD d m 0 fun _ => newB false
  pf : d.c.pf.list = []
  wf : d.c.wf.list = []
  af : d.c.after < 0
  lost : d.t.ts.lost.length = 0
  uses : d.t.ts.uses = fmtV (badL m []) ((m : Int) - 6) m
theorem dk_format {pp aC aB m : Nat} (hm : 16 ≤ m ∧ m ≤ 40) (hX : fmtX (badL m []) = false) : Does Tryz.prog 23 [ptr aC] (chH (newG (-1) 0 pp aC aB m []))
    (fun v H => ∃ d : Dsk, v = .tuple #[ptr d.dk, .int .i64 0] ∧ H = dkH d ++ [] ∧ New0 d m) := by
  refine (dformat_fn (pp := pp) (aC := aC) (aB := aB) hm hX).mono fun v H ⟨dk, tb, c', h1, h2, h3, _, h4, h5⟩ => ?_
  refine ⟨⟨dk, tb, c'⟩, h1, by rw [dkH_eq, h2, ← h3]; simp, h4.di h5, h4.pf, h4.wfl, h4.af, ?_, h4.rel.uu.symm⟩
  have := h4.rel.count
  rw [count_no] at this
  exact this.symm
theorem fx16 : fmtX (badL 16 []) = false := by decide +kernel
theorem fp_nil {c : Chip} (h : c.pf.list = []) : FP c = 0 := by unfold FP; rw [h]; rfl
theorem fw_nil {c : Chip} (h : c.wf.list = []) : FW c = 0 := by unfold FW; rw [h]; rfl
end Go.Proofs.YtkfcpjohblddmaaGreat
end
section
/- Plain laws of logs: what a block's pages tell. -/
namespace Go.Proofs.YtkfcpjohblddmaaGreat
open Go.K
set_option linter.unusedVariables false
set_option linter.unusedSimpArgs false
/-- A number that a page's record tells, and whether it is such a record. -/
def nF (p : Pg) (kind : By) : Wd × Bool := ((rdNum 8 (readF p).2.1 false).1, (decide ((readF p).2.2.2 = 0) && decide (((readF p).1.toNat : Int) = kind.toNat)) && decide (((readF p).2.1.length : Int) = 8))
def numP (kind : By) (x : Wd) : Pg := pageW kind (numB 8 x)
theorem numP_right {kind : By} (h : 0 < kind.toNat ∧ kind.toNat < 255) (x : Wd) : wrong kind (numB 8 x) = false := by
  unfold wrong
  rw [numB_len]
  simp
  omega
theorem nF_num {kind : By} (h : 0 < kind.toNat ∧ kind.toNat < 255) (x : Wd) : nF (numP kind x) kind = (x, true) := by
  have hr := readF_page (numP_right h x)
  unfold nF numP
  rw [hr]
  have h1 : (numB 8 x).length = 8 := numB_len 8 x
  have h2 : rdNum 8 (numB 8 x) false = (valUp (numB 8 x) 8, [], false) := by
    have := rdNum_app (k := 8) (xs := numB 8 x) (r := []) (bad := false) h1
    rwa [List.append_nil] at this
  simp [h2, val_num8, h1]
theorem nF_err {p : Pg} {kind : By} (h : (readF p).2.2.2 ≠ 0) : (nF p kind).2 = false := by
  unfold nF
  simp [h]
theorem nF_kind {p : Pg} {kind : By} (h : (readF p).1 ≠ kind) : (nF p kind).2 = false := by
  unfold nF
  have : ¬ (((readF p).1.toNat : Int) = kind.toNat) := fun e => h (BitVec.eq_of_toNat_eq (by omega))
  simp [this]
theorem nF_blank {kind : By} : (nF blankP kind).2 = false := nF_err (by rw [readF_blank blankP_b]; decide)
theorem mend_num {kind : By} (h : 0 < kind.toNat ∧ kind.toNat < 255) (x : Wd) : mendP (numP kind x) = numP kind x := mend_page (numP_right h x)
abbrev wearP (x : Wd) : Pg := numP 2 x
abbrev headP (x : Wd) : Pg := numP 3 x
/-- What a log knows of a block. -/
structure LB where
  wear : Wd
  known : Bool
  seq : Wd
  ready : Bool
  next : Int
def lbC (x : LB) : List Value := [wv x.wear, .bool x.known, wv x.seq, .bool x.ready, .int .i64 x.next]
instance : Cel LB := ⟨5, lbC, fun _ => rfl, fun _ => rfl⟩
def lbs (l : List LB) : List Value := l.flatMap lbC
def pgAt (v : Blk) (i : Nat) : Pg := if h : i < 8 then v.pages[i] else blankP
/-- The first page behind which all look blank: k were looked at, from the end. -/
def nextU (v : Blk) : Nat → Nat
  | 0 => 8
  | k + 1 => if nextU v k = 8 - k ∧ blankB (pgAt v (7 - k)) = true then 7 - k else nextU v k
def nextF (v : Blk) : Nat := nextU v 8
theorem nextU_le (v : Blk) : ∀ k, k ≤ 8 → 8 - k ≤ nextU v k ∧ nextU v k ≤ 8
  | 0, _ => ⟨Nat.le_refl _, Nat.le_refl _⟩
  | k + 1, h => by
    have ih := nextU_le v k (by omega)
    unfold nextU
    split <;> omega
/-- Pages from j on hold nothing, the one ahead of it doesn't look so. -/
theorem nextF_eq {v : Blk} {j : Nat} (hj : j ≤ 8) (h0 : ∀ (i : Nat) (h : i < 8), j ≤ i → blankB v.pages[i] = true) (h1 : 0 < j → blankB (pgAt v (j - 1)) = false) : nextF v = j := by
  have key : ∀ k, k ≤ 8 → nextU v k = max j (8 - k) := fun k => by
    induction k with
    | zero => intro _; show 8 = _; omega
    | succ k ih =>
      intro hk
      have ih := ih (by omega)
      unfold nextU
      rw [ih]
      by_cases hle : j ≤ 7 - k
      · have hb : blankB (pgAt v (7 - k)) = true := by
          unfold pgAt
          rw [dif_pos (by omega)]
          exact h0 _ (by omega) hle
        rw [if_pos ⟨by omega, hb⟩]; omega
      · by_cases e : max j (8 - k) = 8 - k
        · have hb := h1 (by omega)
          rw [show j - 1 = 7 - k by omega] at hb
          rw [if_neg (by rw [hb]; simp)]; omega
        · rw [if_neg (fun h => e h.1)]; omega
  have := key 8 (Nat.le_refl _)
  unfold nextF
  omega
/-- What looking at a block tells. -/
@[irreducible] def lookB (v : Blk) : LB := ⟨(nF (pgAt v 0) 2).1, (nF (pgAt v 0) 2).2, if (nF (pgAt v 1) 3).2 = true then (nF (pgAt v 1) 3).1 else 0, false, if (nF (pgAt v 1) 3).2 = true then (nextF v : Int) else 8⟩
theorem nextU_stop {v : Blk} {k : Nat} (h : nextU v k = 8 - k) (hb : blankB (pgAt v (7 - k)) = false) (hk : k ≤ 8) : ∀ m, k < m → m ≤ 8 → nextU v m = 8 - k
  | 0, h1, _ => by omega
  | m + 1, h1, h2 => by
    unfold nextU
    by_cases e : m = k
    · subst e
      rw [if_neg (by rw [hb]; simp)]; exact h
    · have ih := nextU_stop h hb hk m (by omega) (by omega)
      rw [ih, if_neg (by omega)]
theorem nextU_go {v : Blk} {k : Nat} (h : nextU v k = 8 - k) (hb : blankB (pgAt v (7 - k)) = true) : nextU v (k + 1) = 7 - k := by
  unfold nextU
  rw [if_pos ⟨h, hb⟩]
theorem nextF_stop {v : Blk} {k : Nat} (h : nextU v k = 8 - k) (hb : blankB (pgAt v (7 - k)) = false) (hk : k < 8) : nextF v = 8 - k := nextU_stop h hb (by omega) 8 hk (Nat.le_refl _)
def bAt (bs : List LB) (b : Nat) : LB := bs.getD b ⟨0, false, 0, false, 0⟩
theorem bAt_get {bs : List LB} {b : Nat} {x : LB} (h : bs[b]? = some x) : bAt bs b = x := by simp [bAt, List.getD_eq_getElem?_getD, h]
theorem bAt_in {bs : List LB} {b : Nat} (h : b < bs.length) : bs[b]? = some (bAt bs b) := by
  rw [List.getElem?_eq_getElem h]
  simp [bAt, List.getD_eq_getElem?_getD, h]
/-- The last segment: so many blocks were looked at. -/
def lastU (bs : List LB) : Nat → Int
  | 0 => -1
  | k + 1 => if 0 < (bAt bs k).seq.toNat ∧ (lastU bs k < 0 ∨ (bAt bs (lastU bs k).toNat).seq.toNat < (bAt bs k).seq.toNat) then k else lastU bs k
theorem lastU_spec (bs : List LB) : ∀ k, (lastU bs k = -1 ∧ ∀ j < k, (bAt bs j).seq.toNat = 0) ∨ (∃ l : Nat, lastU bs k = l ∧ l < k ∧ 0 < (bAt bs l).seq.toNat ∧ ∀ j < k, (bAt bs j).seq.toNat ≤ (bAt bs l).seq.toNat)
  | 0 => .inl ⟨rfl, fun j hj => by omega⟩
  | k + 1 => by
    rcases lastU_spec bs k with ⟨h1, h2⟩ | ⟨l, h1, h2, h3, h4⟩
    · unfold lastU
      rw [h1]
      by_cases h : 0 < (bAt bs k).seq.toNat
      · rw [if_pos ⟨h, .inl (by omega)⟩]
        refine .inr ⟨k, rfl, by omega, h, fun j hj => ?_⟩
        by_cases e : j = k
        · subst e; exact Nat.le_refl _
        · rw [h2 j (by omega)]; omega
      · rw [if_neg (fun h5 => h h5.1)]
        refine .inl ⟨rfl, fun j hj => ?_⟩
        by_cases e : j = k
        · subst e; omega
        · exact h2 j (by omega)
    · unfold lastU
      rw [h1, Int.toNat_natCast]
      by_cases h : (bAt bs l).seq.toNat < (bAt bs k).seq.toNat
      · rw [if_pos ⟨by omega, .inr h⟩]
        refine .inr ⟨k, rfl, by omega, by omega, fun j hj => ?_⟩
        by_cases e : j = k
        · subst e; exact Nat.le_refl _
        · have := h4 j (by omega); omega
      · rw [if_neg (fun h5 => by rcases h5.2 with h6 | h6 <;> omega)]
        refine .inr ⟨l, rfl, by omega, h3, fun j hj => ?_⟩
        by_cases e : j = k
        · subst e; omega
        · exact h4 j (by omega)
/-- The greatest wear. -/
def mostU (bs : List LB) : Nat → Wd
  | 0 => 0
  | k + 1 => if (mostU bs k).toNat < (bAt bs k).wear.toNat then (bAt bs k).wear else mostU bs k
def knownL (m : Wd) (x : LB) : LB := if x.known = true then x else { x with wear := m }
def openL (V : Nat → Blk) (nb : Nat) : List LB × Int :=
  let bs := (List.range nb).map fun b => lookB (V b)
  (bs.map (knownL (mostU bs nb)), lastU bs nb)
end Go.Proofs.YtkfcpjohblddmaaGreat
end
section
/- Disks: what is known of any disk, moved here from the laws' texts. -/
namespace Go.Proofs.YtkfcpjohblddmaaGreat
open Go.K
set_option linter.unusedVariables false
set_option linter.unusedSimpArgs false
instance ent35 : Ent Tryz.prog 35 := ⟨fun _ _ => by kernel_rfl⟩
set_option maxRecDepth 20000
theorem fp_one {c : Chip} {x : Int} (h : c.pf.list = [x]) : FP c ≤ 1 := by
  unfold FP; rw [h]
  exact List.length_filter_le _ _
theorem fp_zero {c : Chip} {x : Int} (h : c.pf.list = [x]) (hx : x < c.pc) : FP c = 0 := by
  unfold FP; rw [h]
  simp; omega
theorem has_one {x y : Int} : hasI [x] y = decide (x = y) := by
  by_cases h : x = y
  · subst h
    rw [decide_eq_true rfl]
    exact has_mem.2 (by simp)
  · rw [decide_eq_false h]
    cases h2 : hasI [x] y with
    | false => rfl
    | true =>
      have := has_mem.1 h2
      simp at this
      exact absurd this.symm h
theorem dopen_fn {c : Chip} {t2 : TS} (hb : 2 ≤ c.blocks.length ∧ c.blocks.length ≤ 1000) (ho : openC c = (0, t2)) : Does Tryz.prog 35 [ptr c.aC] (chH c)
    (fun v H => ∃ (dk : Nat) (tb : Tab), v = .tuple #[ptr dk, .int .i64 0] ∧ H = (dk, true, C [ptr c.aC, ptr tb.b] tDk) :: (tabH c.aC tb ++ (chH c ++ [])) ∧ tb.ts = t2) := by
  refine fn_enter (n := 17) Tryz.func35 Tryz.ntmps35 rfl (Nat.le_of_ble_eq_true rfl) <| s_seq <| s_region0 fun ops => oA rfl <| oA rfl <| o_nil <| n_K <| s_seq <| s_region0 fun ops => oM rfl ?_
  refine c_ex rfl (open_b (c := c) rfl (by omega) ho) sP rfl fun v8 Y8 h8 => ?_
  obtain ⟨tb, rfl, rfl, htb⟩ := h8
  refine so_ap aQ ?_
  refine oM rfl <| oE rfl rfl <| oE rfl rfl <| oA rfl <| oA rfl <| o_nil <| n_K <| s_seq <| s_region0 fun ops => oM rfl <| oM rfl <| oM rfl ?_
  refine c_ex rfl (disk_ok (a := c.aC) (tb := tb.b)) sP rfl fun v14 Y14 h14 => ?_
  obtain ⟨dk, rfl, rfl⟩ := h14
  refine so_ap aQ ?_
  refine oE rfl rfl <| oE rfl rfl <| oA rfl <| oA rfl <| o_nil <| n_K <| s_ret ?_
  exact leaf_r (rets2 Tryz.results35 (rv_tmp rfl) (rv_tmp rfl)) (by exact ⟨dk, tb, rfl, rfl, htb⟩) sP
theorem dk_open {d : Dsk} {t2 : TS} (hb : 2 ≤ d.c.blocks.length ∧ d.c.blocks.length ≤ 1000) (ho : openC d.c = (0, t2)) : Does Tryz.prog 35 [ptr d.c.aC] (dkH d)
    (fun v H => ∃ (dk' : Nat) (tb : Tab), v = .tuple #[ptr dk', .int .i64 0] ∧ H = dkH ⟨dk', tb, d.c⟩ ++ [] ∧ tb.ts = t2) := by
  rw [dkH_eq]
  refine (dopen_fn hb ho).inn sP fun v Y ⟨dk', tb, h1, h2, h3⟩ => ?_
  refine ⟨_, ⟨dk', tb, h1, rfl, h3⟩, ?_⟩
  rw [h2, dkH_eq]
  simp only [List.append_nil]
  exact ⟨_, _, aQ, sP⟩
theorem DV.reopen {c : Chip} {t : TS} {n k : Nat} {V : Nat → Blk} (h : DV c t n k V) : ∃ t2, openC c = (0, t2) ∧ t2.lost = t.lost ∧ t2.uses = t.uses := by
  obtain ⟨a, _, hh, _⟩ := h.di.ti
  obtain ⟨t2, o1, _, o3, o4, _⟩ := open_hold h.di.up hh
  exact ⟨t2, o1, o4, o3⟩
theorem and_le (b : Int) (m : Nat) (hm : m < 65536) : ∃ k : Nat, ibits .and .i64 b (m : Nat) = (k : Int) ∧ k ≤ m := by
  have hm' : (BitVec.ofInt 64 (m : Int)).toNat = m := by
    rw [BitVec.toNat_ofInt]
    omega
  have h : (BitVec.ofInt 64 b &&& BitVec.ofInt 64 (m : Int)).toNat ≤ m := by
    rw [BitVec.toNat_and, hm']
    exact Nat.and_le_right
  refine ⟨(BitVec.ofInt 64 b &&& BitVec.ofInt 64 (m : Int)).toNat, ?_, h⟩
  show IntKind.i64.wrap ((BitVec.ofInt 64 b &&& BitVec.ofInt 64 (m : Int)).toNat : Int) = _
  exact wrap64_in (by omega)
theorem fr_setB (c : Chip) (i : Nat) (b : Blk) : Fr i c (setB c i b) :=
  ⟨fun k hk => by simp [setB, List.getElem?_set_ne (fun e => hk e.symm)], by simp [setB], rfl, rfl, rfl, rfl, rfl, rfl, rfl, Nat.le_refl _, Nat.le_refl _, fun _ => ⟨rfl, rfl⟩, rfl⟩
theorem dk_flip {d : Dsk} {i j k : Nat} {w : Blk} (hw : d.c.blocks[i]? = some w) (hj : j < 8) (hk : k < 2064) : Does Tryz.prog 18 [ptr d.c.aC, .int .i64 (i : Nat), .int .i64 (j : Nat), .int .i64 (k : Nat)] (dkH d) (Is (.int .i64 0) (dkH ⟨d.dk, d.t, setB d.c i (setPg w j (flipP w.pages[j] k))⟩)) := by
  rw [dkH_eq, dkH_eq]
  exact (flip_fn (c := d.c) rfl hw hj hk).inIs sP aQ sP
/-- What any write comes to. -/
theorem prog_any {c : Chip} {t : TS} {n k : Nat} {V : Nat → Blk} {b j : Int} {p : Pg} {r : Int × TS × Chip} (h : DV c t n k V) (hk : k ≤ 700000) (hf : FP c + FW c ≤ 3) (hp : c.after < 0) (hr : ProgD n b j p c t r) :
    FrA c r.2.2 ∧ ∃ V', DV r.2.2 r.2.1 n (k + 20) V' ∧ ∀ l : Nat, (l : Int) ≠ b → V' l = V l := by
  by_cases hin : (0 ≤ b ∧ b + 6 < n) ∧ (0 ≤ j ∧ j < 8)
  · obtain ⟨b', rfl⟩ : ∃ b' : Nat, b = b' := ⟨b.toNat, by omega⟩
    obtain ⟨j', rfl⟩ : ∃ j' : Nat, j = j' := ⟨j.toNat, by omega⟩
    by_cases hn : (V b').next = j'
    · obtain ⟨f, v, _, _, hc⟩ := prog_view h hk hf (by omega) (by omega) hn hr
      have hV : ∀ l : Nat, (l : Int) ≠ b' → upV V b' v l = V l := fun l hl => upV_ne (by omega)
      rcases hc with ⟨_, q2, _⟩ | ⟨_, q2, _⟩ | ⟨_, _, q3, _⟩
      · exact ⟨f, _, q2, hV⟩
      · exact ⟨f, _, q2, hV⟩
      · exact absurd hp q3
    · rw [prog_ord h (b := b') (j := j') (by omega) (by omega) hn hr]
      exact ⟨.refl _, V, h.mono (by omega), fun _ _ => rfl⟩
  · rw [prog_arg h (by omega) hr]
    exact ⟨.refl _, V, h.mono (by omega), fun _ _ => rfl⟩
theorem erase_any {c : Chip} {t : TS} {n k : Nat} {V : Nat → Blk} {b : Int} {r : Int × TS × Chip} (h : DV c t n k V) (hk : k ≤ 700000) (hf : FP c + FW c ≤ 3) (hp : c.after < 0) (hr : EraseD n b c t r) :
    FrA c r.2.2 ∧ ∃ V', DV r.2.2 r.2.1 n (k + 20) V' ∧ ∀ l : Nat, (l : Int) ≠ b → V' l = V l := by
  by_cases hin : 0 ≤ b ∧ b + 6 < n
  · obtain ⟨b', rfl⟩ : ∃ b' : Nat, b = b' := ⟨b.toNat, by omega⟩
    obtain ⟨f, v, _, hc⟩ := erase_view h hk hf (b := b') (by omega) hr
    have hV : ∀ l : Nat, (l : Int) ≠ b' → upV V b' v l = V l := fun l hl => upV_ne (by omega)
    rcases hc with ⟨_, q2, _⟩ | ⟨_, q2, _⟩ | ⟨_, _, q3, _⟩
    · exact ⟨f, _, q2, hV⟩
    · exact ⟨f, _, q2, hV⟩
    · exact absurd hp q3
  · rw [erase_arg h hin hr]
    exact ⟨.refl _, V, h.mono (by omega), fun _ _ => rfl⟩
theorem fp_len (c : Chip) : FP c ≤ c.pf.list.length := List.length_filter_le _ _
theorem fw_len (c : Chip) : FW c ≤ c.wf.list.length := List.length_filter_le _ _
theorem DV.same {c c' : Chip} {t : TS} {n k : Nat} {V : Nat → Blk} (h : DV c t n k V) (hb : c'.blocks = c.blocks) (up : Up c') (hp : c'.pc = c.pc) (hw : c'.wc = c.wc) : DV c' t n k V :=
  ⟨⟨up, h.di.ti.same hb, h.di.wf, by rw [hb]; exact h.di.len, h.di.bs.same hb, ⟨by rw [hp]; exact h.di.cnt.p0, by rw [hw]; exact h.di.cnt.w0⟩, h.di.ver⟩, by rw [hb]; exact h.vw⟩
section
variable {d : Dsk}
theorem dk_off : Does Tryz.prog 123 [ptr d.c.aP] (dkH d) (Is (.bool d.c.off) (dkH d)) := by
  rw [dkH_eq, chH_eq]
  simp only [List.cons_append, List.append_assoc, List.nil_append]
  exact (off_fn (c := d.c)).inIs sP aQ sP
end
theorem Up.onC {c c' : Chip} (h : Up c) (hd : c'.dead = c.dead) (ho : c'.out = c.out) : Up (onC c') := ⟨rfl, hd.trans h.dead, ho.trans h.out⟩
theorem Later.blk {c c' : Chip} {n k m : Nat} {V : Nat → Blk} (h : Later c' n k m V) (up : Up c) (f : FrA c c') {l : Nat} (hl : l + 6 < n) : BI (V l) := by
  obtain ⟨t2, _, hd, _⟩ := h (onC c') rfl (up.onC f.dead f.out) rfl rfl
  exact (hd.blk hl).1
end Go.Proofs.YtkfcpjohblddmaaGreat
end
section
/- Walks of package chiplog: a number's record; a block is looked at. -/
namespace Go.Proofs.YtkfcpjohblddmaaGreat
open Go.K
set_option linter.unusedVariables false
set_option linter.unusedSimpArgs false
instance und33 : Und Tryz.prog 33 (.pointer 44) := ⟨Tryz.underlying33⟩
instance agg33 : Agg Tryz.prog 33 false := ⟨⟨_, Tryz.underlying33, rfl⟩⟩
instance siz33 : Siz Tryz.prog 33 1 := ⟨by kernel_rfl⟩
instance und34 : Und Tryz.prog 34 (.slice 73) := ⟨Tryz.underlying34⟩
instance agg34 : Agg Tryz.prog 34 false := ⟨⟨_, Tryz.underlying34, rfl⟩⟩
instance siz34 : Siz Tryz.prog 34 1 := ⟨by kernel_rfl⟩
instance agg36 : Agg Tryz.prog 36 true := ⟨⟨_, Tryz.underlying36, rfl⟩⟩
instance siz36 : Siz Tryz.prog 36 3 := ⟨by kernel_rfl⟩
instance agg73 : Agg Tryz.prog 73 true := ⟨⟨_, Tryz.underlying73, rfl⟩⟩
instance siz73 : Siz Tryz.prog 73 5 := ⟨by kernel_rfl⟩
instance zer73 : Zer Tryz.prog 73 ([.int .u64 0, .bool false, .int .u64 0, .bool false, .int .i64 0]) := ⟨by kernel_rfl⟩
instance fld36_0 : Fld Tryz.prog 36 0 0 := ⟨⟨_, _, 0, Tryz.underlying36, rfl, by kernel_rfl, rfl⟩⟩
instance fld36_1 : Fld Tryz.prog 36 1 1 := ⟨⟨_, _, 0, Tryz.underlying36, rfl, by kernel_rfl, rfl⟩⟩
instance fld73_0 : Fld Tryz.prog 73 0 0 := ⟨⟨_, _, 0, Tryz.underlying73, rfl, by kernel_rfl, rfl⟩⟩
instance fld73_1 : Fld Tryz.prog 73 1 1 := ⟨⟨_, _, 0, Tryz.underlying73, rfl, by kernel_rfl, rfl⟩⟩
instance fld73_2 : Fld Tryz.prog 73 2 2 := ⟨⟨_, _, 0, Tryz.underlying73, rfl, by kernel_rfl, rfl⟩⟩
instance fld73_4 : Fld Tryz.prog 73 4 4 := ⟨⟨_, _, 0, Tryz.underlying73, rfl, by kernel_rfl, rfl⟩⟩
instance plc73 : Plc Tryz.prog 73 [(0, 1), (1, 1), (2, 1), (3, 1), (4, 1)] := ⟨⟨_, Tryz.underlying73, fun _ => by kernel_rfl⟩⟩
instance ent50 : Ent Tryz.prog 50 := ⟨fun _ _ => by kernel_rfl⟩
instance ent82 : Ent Tryz.prog 82 := ⟨fun _ _ => by kernel_rfl⟩
set_option maxRecDepth 20000
abbrev tLg : TypeId := 36
abbrev tLB : TypeId := 73
theorem lbC_len (x : LB) : (lbC x).length = 5 := rfl
section
variable {bs : List LB} {b : Nat} {x : LB}
theorem lb_nth {o : Nat} {v : Value} (h : bs[b]? = some x) (ho : o < 5) (hv : nth (lbC x) o = some v) : nth (lbs bs) (b * 5 + o) = some v := by
  rw [lbs, nth_row (n := 5) (fun b _ => lbC_len b) h ho]; exact hv
theorem lb_cut (h : bs[b]? = some x) : cut (lbs bs) (b * 5) 5 = some (lbC x) := by
  have := cut_row (f := lbC) (n := 5) (o := 0) (m := 5) (fun b _ => lbC_len b) h rfl
  rw [Nat.add_zero] at this; exact this
theorem lb_set {o : Nat} {vs : List Value} {y : LB} (h : bs[b]? = some x) (hs : splice (lbC x) o vs = some (lbC y)) : splice (lbs bs) (b * 5 + o) vs = some (lbs (bs.set b y)) :=
  splice_row (f := lbC) (n := 5) (fun b _ => lbC_len b) h hs
end
abbrev lgC (dk bb nb : Nat) (last : Int) : List Value := [ptr dk, .slice (some ⟨bb, 0, none⟩) nb nb, .int .i64 last]
theorem dread_pg {d : Dsk} {n k : Nat} {V : Nat → Blk} (h : DD d n k V) {b j : Nat} (hb : b + 6 < n) (hj : j < 8) : mayE d.c (atD d.t.ts (b : Nat)) j = 0 ∧ readP d.c (atD d.t.ts (b : Nat)) j = pgAt (V b) j := by
  have := dread_at h hb hj
  unfold pgAt
  rw [dif_pos hj]
  exact this
section
variable {d : Dsk} {n k lg bb nb : Nat} {last : Int} {V : Nat → Blk}
theorem number_fn (h : DD d n k V) {b j : Nat} {kind : By} (hb : b + 6 < n) (hj : j < 8) : Does Tryz.prog 82 [ptr lg, .int .i64 (b : Nat), .int .i64 (j : Nat), bv kind] ((lg, true, C (lgC d.dk bb nb last) tLg) :: (dkH d ++ []))
    (Is (.tuple #[wv (nF (pgAt (V b) j) kind).1, .bool (nF (pgAt (V b) j) kind).2, .int .i64 0]) ((lg, true, C (lgC d.dk bb nb last) tLg) :: (dkH d ++ []))) := by
  have hrd := dread_pg h hb hj
  refine fn_enter (n := 52) Tryz.func82 Tryz.ntmps82 rfl (Nat.le_of_ble_eq_true rfl) <| s_seq <| s_region0 fun ops => oA rfl <| oA rfl <| oA rfl <| o_nil <| n_K <| s_seq <| s_region0 fun ops => oM rfl <| oN rfl <| oF rfl ?_
  refine oR (rd_ld rfl mM rfl) ?_
  refine oM rfl <| oM rfl ?_
  refine c_is rfl ((dk_read (d := d) (b := (b : Nat)) (k := (j : Nat))).to (by rw [hrd.1, hrd.2]) rfl) sP rfl aQ ?_
  refine oM rfl <| oE rfl rfl <| oE rfl rfl ?_
  refine o_alloc rfl fun b11 => ?_
  rw [zeroP_eq]
  first | refine o_store rfl rfl uD (vc_vb) (vbc_len) (spl_vb (by first | exact vbc_len | exact List.length_replicate ..)) ?_ | refine o_store rfl rfl uD rfl rfl rfl ?_
  refine oA rfl <| o_nil <| n_K <| s_seq <| s_seq <| s_region0 fun ops => oM rfl <| oR (rd_bin rfl rfl rfl) <| o_nil <| n_K ?_
  refine s_condF rfl ?_
  refine s_skip <| n_K <| s_seq <| s_region0 fun ops => ?_
  refine oR (rd_ldA rfl mM (by first | exact cut_vb | rfl)) ?_
  refine c_ex rfl (fread_fn (p := pgAt (V b) j)) sP rfl fun v32 Y32 h32 => ?_
  obtain ⟨s, rfl, rfl, hs, ho⟩ := h32
  refine so_ap aQ ?_
  refine oM rfl <| oE rfl rfl <| oE rfl rfl <| oE rfl rfl <| oE rfl rfl <| oA rfl <| oA rfl <| oA rfl <| oA rfl <| o_nil <| n_K <| s_seq ?_
  refine s_region [(5, 42), (10, 47)] rfl fun ops y => ?_
  refine oM rfl ?_
  have hsl : s.list.length ≤ 70000000000000 := (by have := readF_len (pgAt (V b) j); rw [hs]; omega)
  refine c_ex rfl (newReader_fn (s := s) (T := tU8) hsl) sP rfl fun v38 Y38 h38 => ?_
  obtain ⟨r, rfl, rfl, hr1, hr2⟩ := h38
  refine so_ap aQ ?_
  refine c_ex rfl (rnum_fn (r := r) (n := 8) (by rw [hr1]; exact hsl)) sP rfl fun v39 Y39 h39 => ?_
  obtain ⟨x, sl, bad, rfl, rfl, hx, _, _⟩ := h39
  refine so_ap aQ ?_
  refine oM rfl <| oR (rd_bin rfl rfl rfl) <| oM rfl ?_
  refine' o_and (j := 5) (k := 3) y rfl rfl rfl rfl rfl rfl rfl (fun hg42 => ?_) ?_
  rotate_left
  · try (simp at hg42; show _)
    refine o_g y rfl rfl ?_
    refine oM rfl ?_
    refine o_g y rfl rfl ?_
    refine oM rfl ?_
    refine o_g y rfl rfl ?_
    refine oR (rd_bin rfl rfl rfl) ?_
    exact o_nil ⟨rfl, rfl, ⟨_, sP⟩⟩
  refine oM rfl ?_
  refine' o_and (j := 10) (k := 3) y rfl rfl rfl rfl rfl rfl rfl (fun hg47 => ?_) ?_
  rotate_left
  · try (simp at hg47; show _)
    refine o_g y rfl rfl ?_
    refine oM rfl ?_
    refine o_g y rfl rfl ?_
    refine oR (rd_lenS rfl) ?_
    refine o_g y rfl rfl ?_
    refine oR (rd_bin rfl rfl rfl) ?_
    exact o_nil ⟨rfl, rfl, ⟨_, sP⟩⟩
  refine oA rfl <| oA rfl <| oA rfl <| o_nil <| n_K <| s_ret ?_
  refine leaf_is (rets3 Tryz.results82 (rv_tmp rfl) (rv_tmp rfl) (rv_tmp rfl)) ?_ sP
  rw [hr1, hr2, hs, show clampN 8 8 = 8 from rfl] at hx; rw [hx, hs]; rfl
theorem look_fn (h : DD d n k V) {b : Nat} {bs : List LB} (hb : b + 6 < n) (hn : bs.length = nb) (hbn : b < nb) : Does Tryz.prog 50 [ptr lg, .int .i64 (b : Nat)] ((lg, true, C (lgC d.dk bb nb last) tLg) :: (bb, true, C (lbs bs) tLB) :: (dkH d ++ []))
    (Is (.int .i64 0) ((lg, true, C (lgC d.dk bb nb last) tLg) :: (bb, true, C (lbs (bs.set b (lookB (V b)))) tLB) :: (dkH d ++ []))) := by
  have hg : bs[b]? = some bs[b] := List.getElem?_eq_getElem (by omega)
  refine fn_enter (n := 70) Tryz.func50 Tryz.ntmps50 rfl (Nat.le_of_ble_eq_true rfl) <| s_seq <| s_region0 fun ops => oA rfl <| o_nil <| n_K <| s_seq <| s_region0 fun ops => oR (rd_build_s rfl rfl) ?_
  refine o_alloc rfl fun b5 => ?_
  refine o_store rfl rfl uD rfl rfl rfl ?_
  refine o_nil <| n_K <| s_seq <| s_region0 fun ops => oA rfl <| o_nil <| n_K <| s_seq <| s_region0 fun ops => oA rfl <| o_nil <| n_K <| s_seq <| s_seq ?_
  refine s_region0 fun ops => oM rfl <| oM rfl ?_
  refine c_is rfl (number_fn (d := d) (bb := bb) (nb := nb) (last := last) h (b := b) (j := 0) (kind := 2) hb (by omega)) sP rfl aQ ?_
  refine oM rfl <| oE rfl rfl <| oE rfl rfl <| oE rfl rfl <| oF rfl ?_
  refine o_store rfl rfl uD rfl rfl rfl ?_
  refine oF rfl ?_
  refine o_store rfl rfl uD rfl rfl rfl ?_
  refine oA rfl <| o_nil <| n_K <| s_seq <| s_region0 fun ops => oM rfl <| oR (rd_bin rfl rfl rfl) <| o_nil <| n_K ?_
  refine s_condF rfl ?_
  refine s_skip <| n_K <| s_seq <| s_seq <| s_region0 fun ops => oM rfl <| oM rfl ?_
  refine c_is rfl (number_fn (d := d) (bb := bb) (nb := nb) (last := last) h (b := b) (j := 1) (kind := 3) hb (by omega)) sP rfl aQ ?_
  refine oM rfl <| oE rfl rfl <| oE rfl rfl <| oE rfl rfl <| oF rfl ?_
  refine o_store rfl rfl uD rfl rfl rfl ?_
  refine oA rfl <| oA rfl <| o_nil <| n_K <| s_seq <| s_region0 fun ops => oM rfl <| oR (rd_bin rfl rfl rfl) <| o_nil <| n_K ?_
  refine s_condF rfl ?_
  refine s_skip <| n_K <| s_seq <| s_seq <| s_region0 fun ops => oM rfl <| oR (rd_not rfl) <| o_nil <| n_K ?_
  refine s_cond rfl (fun c36 => ?_) (fun c36 => ?_)
  · skip
    have hokF : ¬ (nF (pgAt (V b) 1) 3).2 = true := (by simpa using c36)
    refine s_region0 fun ops => oF rfl ?_
    refine o_store rfl rfl uD rfl rfl rfl ?_
    refine o_nil <| n_K <| s_seq <| s_seq <| s_region0 fun ops => oA rfl <| o_nil <| n_K <| s_block ?_
    refine s_loop2 [0, 1, 5, 6] kQ (fun (kk : Nat) => [(8, .int .i64 (7 - (kk : Int)))]) (fun (kk : Nat) => (b5, true, C (lbC ⟨(nF (pgAt (V b) 0) 2).1, (nF (pgAt (V b) 0) 2).2, (if (nF (pgAt (V b) 1) 3).2 = true then (nF (pgAt (V b) 1) 3).1 else 0), false, 8 - (kk : Int)⟩) tLB) :: (lg, true, C (lgC d.dk bb nb last) tLg) :: (bb, true, C (lbs bs) tLB) :: (dkH d ++ [])) (fun (kk : Nat) => kk ≤ 8 ∧ nextU (V b) kk = 8 - kk ∧ ((nF (pgAt (V b) 1) 3).2 = false → kk = 0)) (fun (kk : Nat) => 8 - kk) (0) ⟨Nat.zero_le _, rfl, fun _ => rfl⟩ kP (by first | (rw [if_neg hokF]; exact sP) | (rw [if_pos hok]; exact sP)) ?_
    rintro kk ⟨h0, h1, h2⟩
    refine s_seq <| s_seq ?_
    refine s_region [(2, 40)] rfl fun ops y => ?_
    refine oM rfl <| oR (rd_bin rfl rfl rfl) <| oM rfl ?_
    refine' o_and (j := 2) (k := 1) y rfl rfl rfl rfl rfl rfl rfl (fun hg40 => ?_) ?_
    rotate_left
    · try (simp at hg40; show _)
      refine o_g y rfl rfl ?_
      refine oM rfl ?_
      exact o_nil ⟨rfl, rfl, ⟨_, sP⟩⟩
    refine o_nil <| n_K ?_
    refine s_cond rfl (fun c42 => ?_) (fun c42 => ?_)
    · simp only [Bool.and_eq_true, Bool.and_eq_false_iff, decide_eq_true_eq, decide_eq_false_iff_not] at c42
      have hok := c42.2
      have hk8 : kk < 8 := (by omega)
      have e7 : (7 - (kk : Int)) = ((7 - kk : Nat) : Int) := (by omega)
      have hrd := dread_pg h hb (j := 7 - kk) (by omega)
      refine s_skip <| n_K <| s_seq <| s_block <| s_seq <| s_region0 fun ops => oM rfl <| oN rfl <| oF rfl ?_
      refine oR (rd_ld rfl mM rfl) ?_
      refine oM rfl <| oM rfl ?_
      refine c_is rfl ((dk_read (d := d) (b := (b : Nat)) (k := 7 - (kk : Int))).to (by rw [e7, hrd.1, hrd.2]) rfl) sP rfl aQ ?_
      refine oM rfl <| oE rfl rfl <| oE rfl rfl ?_
      refine o_alloc rfl fun b9 => ?_
      rw [zeroP_eq]
      first | refine o_store rfl rfl uD (vc_vb) (vbc_len) (spl_vb (by first | exact vbc_len | exact List.length_replicate ..)) ?_ | refine o_store rfl rfl uD rfl rfl rfl ?_
      refine oA rfl <| o_nil <| n_K <| s_seq <| s_seq <| s_region0 fun ops => oM rfl <| oR (rd_bin rfl rfl rfl) <| o_nil <| n_K ?_
      refine s_condF rfl ?_
      refine s_skip <| n_K <| s_seq <| s_seq <| s_region0 fun ops => ?_
      refine oR (rd_ldA rfl mM (by first | exact cut_vb | rfl)) ?_
      refine c_is rfl (blankp_fn (p := pgAt (V b) (7 - kk))) sP rfl aQ ?_
      refine oR (rd_not rfl) <| o_nil <| n_K ?_
      refine s_cond rfl (fun c60 => ?_) (fun c60 => ?_)
      · skip
        have hbl : blankB (pgAt (V b) (7 - kk)) = false := (by simpa using c60)
        have hfin : (⟨(nF (pgAt (V b) 0) 2).1, (nF (pgAt (V b) 0) 2).2, (if (nF (pgAt (V b) 1) 3).2 = true then (nF (pgAt (V b) 1) 3).1 else 0), false, 8 - (kk : Int)⟩ : LB) = lookB (V b) := (by unfold lookB; rw [if_pos hok, if_pos hok, nextF_stop h1 hbl hk8]; congr 1; omega)
        refine s_exit <| x_K <| x_blk' rfl <| x_K <| x_K <| x_blk <| n_K <| s_seq ?_
        refine s_draw [] [(7, [(0, false), (1, false), (2, false), (3, false), (4, false), (5, false), (6, false)]), (8, [(7, true)])] (by kernel_rfl) rfl fun ops w0 H0 y => ?_
        refine p_all <| xM rfl <| xN rfl <| xF rfl ?_
        refine xR (rd_ld rfl mM rfl) ?_
        refine xM rfl ?_
        refine xR (rd_ldA rfl mM (show cut (lbC ⟨(nF (pgAt (V b) 0) 2).1, (nF (pgAt (V b) 0) 2).2, (if (nF (pgAt (V b) 1) 3).2 = true then (nF (pgAt (V b) 1) 3).1 else 0), false, 8 - (kk : Int)⟩) 0 5 = some (lbC ⟨(nF (pgAt (V b) 0) 2).1, (nF (pgAt (V b) 0) 2).2, (if (nF (pgAt (V b) 1) 3).2 = true then (nF (pgAt (V b) 1) 3).1 else 0), false, 8 - (kk : Int)⟩) from rfl)) ?_
        refine xR (rd_ixS0 rfl rfl (by omega)) ?_
        refine x_nil <| p_none <| x_so ?_
        refine o_store (cs' := lbs (bs.set b (lookB (V b)))) rfl rfl uD rfl rfl (by simp only [Int.toNat_natCast]; rw [hfin]; exact lb_set (o := 0) (vs := lbC (lookB (V b))) (y := lookB (V b)) hg rfl) ?_
        refine o_nil ⟨rfl, ⟨_, sP⟩, ?_⟩
        refine x_nil <| p_end <| n_K <| s_seq <| s_region0 fun ops => oA rfl <| o_nil <| n_K <| s_ret ?_
        refine leaf_is (rets1 Tryz.results50 (rv_tmp rfl)) ?_ sP
        rfl
      · skip
        have hbl : blankB (pgAt (V b) (7 - kk)) = true := (by simpa using c60)
        refine s_skip <| n_K <| s_region0 fun ops => ?_
        refine oR (show Rd _ _ _ _ (.int .i64 (8 - ((kk + 1 : Nat) : Int))) from (by rw [show (8 - ((kk + 1 : Nat) : Int)) = 7 - (kk : Int) by omega]; exact rd_move rfl)) ?_
        refine oF rfl ?_
        refine o_store rfl rfl uD rfl rfl rfl ?_
        refine o_nil <| n_blk <| n_K <| s_region0 fun ops => oM rfl ?_
        refine oR (show Rd _ _ _ _ (.int .i64 (7 - ((kk + 1 : Nat) : Int))) from (by rw [show (7 - ((kk + 1 : Nat) : Int)) = 7 - (kk : Int) - 1 by omega]; exact rd_sub64 rfl rfl (by omega))) ?_
        refine oA rfl <| o_nil <| n_K ?_
        exact ⟨kk + 1, ⟨by omega, (by rw [nextU_go h1 hbl]; omega), fun h9 => (by rw [hok] at h9; cases h9)⟩, (by omega), lZ⟩
    · simp only [Bool.and_eq_true, Bool.and_eq_false_iff, decide_eq_true_eq, decide_eq_false_iff_not] at c42
      have hfin : (⟨(nF (pgAt (V b) 0) 2).1, (nF (pgAt (V b) 0) 2).2, (if (nF (pgAt (V b) 1) 3).2 = true then (nF (pgAt (V b) 1) 3).1 else 0), false, 8 - (kk : Int)⟩ : LB) = lookB (V b) := (by unfold lookB; rcases c42 with h9 | h9; (have h8 : kk = 8 := by omega); subst h8; (by_cases hok : (nF (pgAt (V b) 1) 3).2 = true); (rw [if_pos hok, if_pos hok, show nextF (V b) = 0 from h1]; rfl); (exact absurd (h2 (by simpa using hok)) (by omega)); (rw [h2 h9, if_neg (by rw [h9]; simp), if_neg (by rw [h9]; simp)]; rfl))
      refine s_exit <| x_K <| x_K <| x_blk <| n_K <| s_seq ?_
      refine s_draw [] [(7, [(0, false), (1, false), (2, false), (3, false), (4, false), (5, false), (6, false)]), (8, [(7, true)])] (by kernel_rfl) rfl fun ops w0 H0 y => ?_
      refine p_all <| xM rfl <| xN rfl <| xF rfl ?_
      refine xR (rd_ld rfl mM rfl) ?_
      refine xM rfl ?_
      refine xR (rd_ldA rfl mM (show cut (lbC ⟨(nF (pgAt (V b) 0) 2).1, (nF (pgAt (V b) 0) 2).2, (if (nF (pgAt (V b) 1) 3).2 = true then (nF (pgAt (V b) 1) 3).1 else 0), false, 8 - (kk : Int)⟩) 0 5 = some (lbC ⟨(nF (pgAt (V b) 0) 2).1, (nF (pgAt (V b) 0) 2).2, (if (nF (pgAt (V b) 1) 3).2 = true then (nF (pgAt (V b) 1) 3).1 else 0), false, 8 - (kk : Int)⟩) from rfl)) ?_
      refine xR (rd_ixS0 rfl rfl (by omega)) ?_
      refine x_nil <| p_none <| x_so ?_
      refine o_store (cs' := lbs (bs.set b (lookB (V b)))) rfl rfl uD rfl rfl (by simp only [Int.toNat_natCast]; rw [hfin]; exact lb_set (o := 0) (vs := lbC (lookB (V b))) (y := lookB (V b)) hg rfl) ?_
      refine o_nil ⟨rfl, ⟨_, sP⟩, ?_⟩
      refine x_nil <| p_end <| n_K <| s_seq <| s_region0 fun ops => oA rfl <| o_nil <| n_K <| s_ret ?_
      refine leaf_is (rets1 Tryz.results50 (rv_tmp rfl)) ?_ sP
      rfl
  · skip
    have hok : (nF (pgAt (V b) 1) 3).2 = true := (by simpa using c36)
    refine s_skip <| n_K <| s_seq <| s_seq <| s_region0 fun ops => oA rfl <| o_nil <| n_K <| s_block ?_
    refine s_loop2 [0, 1, 5, 6] kQ (fun (kk : Nat) => [(8, .int .i64 (7 - (kk : Int)))]) (fun (kk : Nat) => (b5, true, C (lbC ⟨(nF (pgAt (V b) 0) 2).1, (nF (pgAt (V b) 0) 2).2, (if (nF (pgAt (V b) 1) 3).2 = true then (nF (pgAt (V b) 1) 3).1 else 0), false, 8 - (kk : Int)⟩) tLB) :: (lg, true, C (lgC d.dk bb nb last) tLg) :: (bb, true, C (lbs bs) tLB) :: (dkH d ++ [])) (fun (kk : Nat) => kk ≤ 8 ∧ nextU (V b) kk = 8 - kk ∧ ((nF (pgAt (V b) 1) 3).2 = false → kk = 0)) (fun (kk : Nat) => 8 - kk) (0) ⟨Nat.zero_le _, rfl, fun _ => rfl⟩ kP (by first | (rw [if_neg hokF]; exact sP) | (rw [if_pos hok]; exact sP)) ?_
    rintro kk ⟨h0, h1, h2⟩
    refine s_seq <| s_seq ?_
    refine s_region [(2, 40)] rfl fun ops y => ?_
    refine oM rfl <| oR (rd_bin rfl rfl rfl) <| oM rfl ?_
    refine' o_and (j := 2) (k := 1) y rfl rfl rfl rfl rfl rfl rfl (fun hg40 => ?_) ?_
    rotate_left
    · try (simp at hg40; show _)
      refine o_g y rfl rfl ?_
      refine oM rfl ?_
      exact o_nil ⟨rfl, rfl, ⟨_, sP⟩⟩
    refine o_nil <| n_K ?_
    refine s_cond rfl (fun c42 => ?_) (fun c42 => ?_)
    · simp only [Bool.and_eq_true, Bool.and_eq_false_iff, decide_eq_true_eq, decide_eq_false_iff_not] at c42
      have hok := c42.2
      have hk8 : kk < 8 := (by omega)
      have e7 : (7 - (kk : Int)) = ((7 - kk : Nat) : Int) := (by omega)
      have hrd := dread_pg h hb (j := 7 - kk) (by omega)
      refine s_skip <| n_K <| s_seq <| s_block <| s_seq <| s_region0 fun ops => oM rfl <| oN rfl <| oF rfl ?_
      refine oR (rd_ld rfl mM rfl) ?_
      refine oM rfl <| oM rfl ?_
      refine c_is rfl ((dk_read (d := d) (b := (b : Nat)) (k := 7 - (kk : Int))).to (by rw [e7, hrd.1, hrd.2]) rfl) sP rfl aQ ?_
      refine oM rfl <| oE rfl rfl <| oE rfl rfl ?_
      refine o_alloc rfl fun b9 => ?_
      rw [zeroP_eq]
      first | refine o_store rfl rfl uD (vc_vb) (vbc_len) (spl_vb (by first | exact vbc_len | exact List.length_replicate ..)) ?_ | refine o_store rfl rfl uD rfl rfl rfl ?_
      refine oA rfl <| o_nil <| n_K <| s_seq <| s_seq <| s_region0 fun ops => oM rfl <| oR (rd_bin rfl rfl rfl) <| o_nil <| n_K ?_
      refine s_condF rfl ?_
      refine s_skip <| n_K <| s_seq <| s_seq <| s_region0 fun ops => ?_
      refine oR (rd_ldA rfl mM (by first | exact cut_vb | rfl)) ?_
      refine c_is rfl (blankp_fn (p := pgAt (V b) (7 - kk))) sP rfl aQ ?_
      refine oR (rd_not rfl) <| o_nil <| n_K ?_
      refine s_cond rfl (fun c60 => ?_) (fun c60 => ?_)
      · skip
        have hbl : blankB (pgAt (V b) (7 - kk)) = false := (by simpa using c60)
        have hfin : (⟨(nF (pgAt (V b) 0) 2).1, (nF (pgAt (V b) 0) 2).2, (if (nF (pgAt (V b) 1) 3).2 = true then (nF (pgAt (V b) 1) 3).1 else 0), false, 8 - (kk : Int)⟩ : LB) = lookB (V b) := (by unfold lookB; rw [if_pos hok, if_pos hok, nextF_stop h1 hbl hk8]; congr 1; omega)
        refine s_exit <| x_K <| x_blk' rfl <| x_K <| x_K <| x_blk <| n_K <| s_seq ?_
        refine s_draw [] [(7, [(0, false), (1, false), (2, false), (3, false), (4, false), (5, false), (6, false)]), (8, [(7, true)])] (by kernel_rfl) rfl fun ops w0 H0 y => ?_
        refine p_all <| xM rfl <| xN rfl <| xF rfl ?_
        refine xR (rd_ld rfl mM rfl) ?_
        refine xM rfl ?_
        refine xR (rd_ldA rfl mM (show cut (lbC ⟨(nF (pgAt (V b) 0) 2).1, (nF (pgAt (V b) 0) 2).2, (if (nF (pgAt (V b) 1) 3).2 = true then (nF (pgAt (V b) 1) 3).1 else 0), false, 8 - (kk : Int)⟩) 0 5 = some (lbC ⟨(nF (pgAt (V b) 0) 2).1, (nF (pgAt (V b) 0) 2).2, (if (nF (pgAt (V b) 1) 3).2 = true then (nF (pgAt (V b) 1) 3).1 else 0), false, 8 - (kk : Int)⟩) from rfl)) ?_
        refine xR (rd_ixS0 rfl rfl (by omega)) ?_
        refine x_nil <| p_none <| x_so ?_
        refine o_store (cs' := lbs (bs.set b (lookB (V b)))) rfl rfl uD rfl rfl (by simp only [Int.toNat_natCast]; rw [hfin]; exact lb_set (o := 0) (vs := lbC (lookB (V b))) (y := lookB (V b)) hg rfl) ?_
        refine o_nil ⟨rfl, ⟨_, sP⟩, ?_⟩
        refine x_nil <| p_end <| n_K <| s_seq <| s_region0 fun ops => oA rfl <| o_nil <| n_K <| s_ret ?_
        refine leaf_is (rets1 Tryz.results50 (rv_tmp rfl)) ?_ sP
        rfl
      · skip
        have hbl : blankB (pgAt (V b) (7 - kk)) = true := (by simpa using c60)
        refine s_skip <| n_K <| s_region0 fun ops => ?_
        refine oR (show Rd _ _ _ _ (.int .i64 (8 - ((kk + 1 : Nat) : Int))) from (by rw [show (8 - ((kk + 1 : Nat) : Int)) = 7 - (kk : Int) by omega]; exact rd_move rfl)) ?_
        refine oF rfl ?_
        refine o_store rfl rfl uD rfl rfl rfl ?_
        refine o_nil <| n_blk <| n_K <| s_region0 fun ops => oM rfl ?_
        refine oR (show Rd _ _ _ _ (.int .i64 (7 - ((kk + 1 : Nat) : Int))) from (by rw [show (7 - ((kk + 1 : Nat) : Int)) = 7 - (kk : Int) - 1 by omega]; exact rd_sub64 rfl rfl (by omega))) ?_
        refine oA rfl <| o_nil <| n_K ?_
        exact ⟨kk + 1, ⟨by omega, (by rw [nextU_go h1 hbl]; omega), fun h9 => (by rw [hok] at h9; cases h9)⟩, (by omega), lZ⟩
    · simp only [Bool.and_eq_true, Bool.and_eq_false_iff, decide_eq_true_eq, decide_eq_false_iff_not] at c42
      have hfin : (⟨(nF (pgAt (V b) 0) 2).1, (nF (pgAt (V b) 0) 2).2, (if (nF (pgAt (V b) 1) 3).2 = true then (nF (pgAt (V b) 1) 3).1 else 0), false, 8 - (kk : Int)⟩ : LB) = lookB (V b) := (by unfold lookB; rcases c42 with h9 | h9; (have h8 : kk = 8 := by omega); subst h8; (by_cases hok : (nF (pgAt (V b) 1) 3).2 = true); (rw [if_pos hok, if_pos hok, show nextF (V b) = 0 from h1]; rfl); (exact absurd (h2 (by simpa using hok)) (by omega)); (rw [h2 h9, if_neg (by rw [h9]; simp), if_neg (by rw [h9]; simp)]; rfl))
      refine s_exit <| x_K <| x_K <| x_blk <| n_K <| s_seq ?_
      refine s_draw [] [(7, [(0, false), (1, false), (2, false), (3, false), (4, false), (5, false), (6, false)]), (8, [(7, true)])] (by kernel_rfl) rfl fun ops w0 H0 y => ?_
      refine p_all <| xM rfl <| xN rfl <| xF rfl ?_
      refine xR (rd_ld rfl mM rfl) ?_
      refine xM rfl ?_
      refine xR (rd_ldA rfl mM (show cut (lbC ⟨(nF (pgAt (V b) 0) 2).1, (nF (pgAt (V b) 0) 2).2, (if (nF (pgAt (V b) 1) 3).2 = true then (nF (pgAt (V b) 1) 3).1 else 0), false, 8 - (kk : Int)⟩) 0 5 = some (lbC ⟨(nF (pgAt (V b) 0) 2).1, (nF (pgAt (V b) 0) 2).2, (if (nF (pgAt (V b) 1) 3).2 = true then (nF (pgAt (V b) 1) 3).1 else 0), false, 8 - (kk : Int)⟩) from rfl)) ?_
      refine xR (rd_ixS0 rfl rfl (by omega)) ?_
      refine x_nil <| p_none <| x_so ?_
      refine o_store (cs' := lbs (bs.set b (lookB (V b)))) rfl rfl uD rfl rfl (by simp only [Int.toNat_natCast]; rw [hfin]; exact lb_set (o := 0) (vs := lbC (lookB (V b))) (y := lookB (V b)) hg rfl) ?_
      refine o_nil ⟨rfl, ⟨_, sP⟩, ?_⟩
      refine x_nil <| p_end <| n_K <| s_seq <| s_region0 fun ops => oA rfl <| o_nil <| n_K <| s_ret ?_
      refine leaf_is (rets1 Tryz.results50 (rv_tmp rfl)) ?_ sP
      rfl
end
end Go.Proofs.YtkfcpjohblddmaaGreat
end
section
/- Walks of package chiplog: a log is opened. -/
namespace Go.Proofs.YtkfcpjohblddmaaGreat
open Go.K
set_option linter.unusedVariables false
set_option linter.unusedSimpArgs false
instance zer36 : Zer Tryz.prog 36 ([.pointer none, .slice none 0 0, .int .i64 0]) := ⟨by kernel_rfl⟩
instance fld36_2 : Fld Tryz.prog 36 2 2 := ⟨⟨_, _, 0, Tryz.underlying36, rfl, by kernel_rfl, rfl⟩⟩
instance plc36 : Plc Tryz.prog 36 [(0, 1), (1, 1), (2, 1)] := ⟨⟨_, Tryz.underlying36, fun _ => by kernel_rfl⟩⟩
instance byt73 : Byt Tryz.prog 73 40 := ⟨by kernel_rfl⟩
instance ent27 : Ent Tryz.prog 27 := ⟨fun _ _ => by kernel_rfl⟩
set_option maxRecDepth 20000
def zeroLB : LB := ⟨0, false, 0, false, 0⟩
theorem zrep_lb (n : Nat) : zrep n [Value.int .u64 0, .bool false, .int .u64 0, .bool false, .int .i64 0] = lbs (List.replicate n zeroLB) := by
  induction n with
  | zero => rfl
  | succ n ih =>
    show [Value.int .u64 0, .bool false, .int .u64 0, .bool false, .int .i64 0] ++ zrep n [Value.int .u64 0, .bool false, .int .u64 0, .bool false, .int .i64 0] = lbs (zeroLB :: List.replicate n zeroLB)
    rw [ih]
    rfl
def lookL (V : Nat → Blk) (nb : Nat) : List LB := (List.range nb).map fun b => lookB (V b)
theorem lookL_at {V : Nat → Blk} {nb j : Nat} (h : j < nb) : bAt (lookL V nb) j = lookB (V j) := by
  simp [bAt, lookL, List.getD_eq_getElem?_getD, h]
theorem lookL_len (V : Nat → Blk) (nb : Nat) : (lookL V nb).length = nb := by simp [lookL]
theorem bAt_set {bs : List LB} {i j : Nat} {x : LB} (h : i < bs.length) : bAt (bs.set i x) j = if j = i then x else bAt bs j := by
  unfold bAt
  rw [List.getD_eq_getElem?_getD, List.getD_eq_getElem?_getD, List.getElem?_set]
  by_cases e : j = i
  · subst e; simp [h]
  · rw [if_neg (fun h => e h.symm), if_neg e]
theorem bs_ext {bs cs : List LB} (hl : bs.length = cs.length) (h : ∀ j < bs.length, bAt bs j = bAt cs j) : bs = cs := by
  apply List.ext_getElem hl
  intro j h1 h2
  have := h j h1
  rwa [bAt_get (List.getElem?_eq_getElem h1), bAt_get (List.getElem?_eq_getElem h2)] at this
theorem lastU_rng (bs : List LB) (k : Nat) : -1 ≤ lastU bs k ∧ lastU bs k < k := by
  rcases lastU_spec bs k with ⟨h, _⟩ | ⟨l, h, h2, _⟩ <;> omega
theorem rd_maxW {P : Program} {E : Env} {H : Hp} {x y : Operand} {ts : Array TypeId} {a b : Wd} (hx : ev E x = some (wv a)) (hy : ev E y = some (wv b)) : Rd P E H (.call ⟨.builtin .max, #[x, y], ts⟩) (wv (if a.toNat < b.toNat then b else a)) := by
  have h := rd_max (P := P) (H := H) (ts := ts) hx hy
  have e : (Value.int .u64 (max (a.toNat : Int) (b.toNat : Int))) = wv (if a.toNat < b.toNat then b else a) := by
    unfold wv
    congr 1
    split <;> omega
  rw [← e]
  exact h
section
variable {d : Dsk} {n k nb : Nat} {V : Nat → Blk}
theorem open8_fn (h : DD d n k V) (hnb : nb + 6 = n) : Does Tryz.prog 27 [ptr d.dk] (dkH d)
    (fun v H => ∃ lg bb, v = .tuple #[ptr lg, .int .i64 0] ∧ H = (lg, true, C (lgC d.dk bb nb (openL V nb).2) tLg) :: (bb, true, C (lbs (openL V nb).1) tLB) :: (dkH d ++ [])) := by
  have hul : d.t.u.list.length = nb := by have : d.t.u.list.length + 6 = n := h.di.wf.len; omega
  have hn40 := h.di.wf.n2
  refine fn_enter (n := 99) Tryz.func27 Tryz.ntmps27 rfl (Nat.le_of_ble_eq_true rfl) <| s_seq <| s_region0 fun ops => oA rfl <| oA rfl <| o_nil <| n_K <| s_seq <| s_region0 fun ops => oM rfl <| oM rfl ?_
  refine c_is rfl ((dk_len (d := d)).to (by rw [hul]) rfl) sP rfl aQ ?_
  refine o_make rfl rfl (by omega) rfl fun b13 => ?_
  rw [Int.toNat_natCast, zrep_lb]
  refine oR (rd_build_s rfl rfl) ?_
  refine o_box rfl rfl fun b15 => ?_
  refine oA rfl <| o_nil <| n_K <| s_seq <| s_region0 fun ops => oA rfl <| o_nil <| n_K <| s_seq <| s_seq <| s_region0 fun ops => oM rfl <| oN rfl <| oF rfl ?_
  refine oR (rd_ld rfl mM rfl) ?_
  refine oR (rd_lenS rfl) <| oM rfl <| o_nil <| n_K <| s_block ?_
  refine s_loop2 [4, 20] kQ (fun (st : Nat × List LB × Int × Wd) => [(21, .int .i64 st.1), (5, wv st.2.2.2)]) (fun (st : Nat × List LB × Int × Wd) => (b15, true, C (lgC d.dk b13 nb st.2.2.1) tLg) :: (b13, true, C (lbs st.2.1) tLB) :: (dkH d ++ [])) (fun (st : Nat × List LB × Int × Wd) => st.1 ≤ nb ∧ st.2.1.length = nb ∧ (∀ j < st.1, bAt st.2.1 j = bAt (lookL V nb) j) ∧ st.2.2.1 = lastU (lookL V nb) st.1 ∧ st.2.2.2 = mostU (lookL V nb) st.1) (fun (st : Nat × List LB × Int × Wd) => nb - st.1) ((0, List.replicate nb zeroLB, -1, 0)) ⟨Nat.zero_le _, List.length_replicate, fun j hj => (by cases hj), rfl, rfl⟩ kP sP ?_
  rintro ⟨i, bs, last, most⟩ ⟨g0, g1, g2, g3, g4⟩
  simp only at g0 g1 g2 g3 g4
  refine s_seq <| s_region0 fun ops => oR (rd_bin rfl rfl rfl) <| o_nil <| n_K <| s_seq ?_
  refine s_cond rfl (fun c22 => ?_) (fun c22 => ?_)
  · simp only [decide_eq_true_eq, decide_eq_false_iff_not] at c22
    have hi : i < nb := (by omega)
    have hset : (bs.set i (lookB (V i))).length = nb := (by rw [List.length_set]; exact g1)
    have hgi : (bs.set i (lookB (V i)))[i]? = some (lookB (V i)) := (by simp [g1, hi])
    have hrg := lastU_rng (lookL V nb) i
    have hb1 : ∀ j < i + 1, bAt (bs.set i (lookB (V i))) j = bAt (lookL V nb) j := (fun j hj => by rw [bAt_set (by omega)]; by_cases e : j = i; (subst e; rw [if_pos rfl, lookL_at hi]); (rw [if_neg e]; exact g2 j (by omega)))
    refine s_skip <| n_K <| s_seq <| s_block <| s_seq <| s_region0 fun ops => oM rfl <| oA rfl <| o_nil <| n_K <| s_seq <| s_seq <| s_region0 fun ops => oM rfl ?_
    refine oM rfl ?_
    refine c_is rfl (look_fn (d := d) (bb := b13) (nb := nb) (last := last) h (b := i) (bs := bs) (by omega) g1 hi) sP rfl aQ ?_
    refine oA rfl <| o_nil <| n_K <| s_seq <| s_region0 fun ops => oM rfl <| oR (rd_bin rfl rfl rfl) <| o_nil <| n_K ?_
    refine s_condF rfl ?_
    refine s_skip <| n_K <| s_seq <| s_region0 fun ops => oM rfl <| oN rfl <| oF rfl ?_
    refine oR (rd_ld rfl mM rfl) ?_
    refine oM rfl ?_
    refine oR (rd_ixS0 rfl rfl (by omega)) ?_
    refine oR (rd_ldA rfl mM (by simp only [Int.toNat_natCast]; exact lb_cut hgi)) ?_
    refine o_alloc rfl fun b8 => ?_
    refine o_store rfl rfl uD rfl rfl rfl ?_
    refine o_nil <| n_K <| s_seq <| s_region0 fun ops => oM rfl <| oF rfl ?_
    refine oR (rd_ld rfl mM rfl) ?_
    refine oR (rd_maxW rfl rfl) <| oA rfl <| o_nil <| n_K <| s_seq ?_
    refine s_draw [(3, 44), (9, 50)] [(26, [(0, false), (1, false), (2, false), (3, false), (4, false), (5, false), (6, false), (7, false), (8, false), (9, false), (10, false), (11, false), (12, false), (13, false), (14, false), (15, false), (16, false), (17, false), (18, false), (19, false), (20, false), (21, false), (22, false), (23, false), (24, false), (25, false)])] (by kernel_rfl) rfl fun ops w0 H0 y => ?_
    refine p_all <| xF rfl ?_
    refine xR (rd_ld rfl mM rfl) ?_
    refine xR (rd_bin rfl rfl rfl) <| xM rfl ?_
    refine' x_and (j := 3) (k := 21) y rfl rfl rfl rfl rfl rfl rfl (fun hg44 => ?_) ?_
    rotate_left
    · try (simp at hg44; show _)
      refine x_g y rfl rfl ?_
      refine xM rfl ?_
      refine x_g y rfl rfl ?_
      refine xN rfl ?_
      refine x_g y rfl rfl ?_
      refine xF rfl ?_
      refine x_g y rfl rfl ?_
      refine xR (rd_ld rfl mM rfl) ?_
      refine x_g y rfl rfl ?_
      refine xR (rd_bin rfl rfl rfl) ?_
      refine x_g y rfl rfl ?_
      refine xM rfl ?_
      refine' x_or (j := 9) (k := 14) y rfl rfl rfl rfl rfl rfl rfl (fun hg50 => ?_) ?_
      rotate_left
      · try (simp at hg50; show _)
        refine x_g y rfl rfl ?_
        refine xF rfl ?_
        refine x_g y rfl rfl ?_
        refine xR (rd_ld rfl mM rfl) ?_
        refine x_g y rfl rfl ?_
        refine xM rfl ?_
        refine x_g y rfl rfl ?_
        refine xN rfl ?_
        refine x_g y rfl rfl ?_
        refine xF rfl ?_
        refine x_g y rfl rfl ?_
        refine xR (rd_ld rfl mM rfl) ?_
        refine x_g y rfl rfl ?_
        refine xM rfl ?_
        refine x_g y rfl rfl ?_
        refine xN rfl ?_
        refine x_g y rfl rfl ?_
        refine xF rfl ?_
        refine x_g y rfl rfl ?_
        refine xR (rd_ld rfl mM rfl) ?_
        refine x_g y rfl rfl ?_
        refine xR (rd_ixS0 rfl rfl (by omega)) ?_
        refine x_g y rfl rfl ?_
        refine xF rfl ?_
        refine x_g y rfl rfl ?_
        refine xR (show Rd _ _ _ _ (wv (bAt (bs.set i (lookB (V i))) last.toNat).seq) from rd_ld rfl mM (lb_nth (o := 2) (bAt_in (by omega)) (by omega) rfl)) ?_
        refine x_g y rfl rfl ?_
        refine xR (rd_bin rfl rfl rfl) ?_
        exact x_nil ⟨rfl, ⟨_, sP⟩⟩
      exact x_nil ⟨rfl, ⟨_, sP⟩⟩
    refine x_nil <| p_end <| n_K ?_
    refine s_cond rfl (fun c66 => ?_) (fun c66 => ?_)
    · simp only [Bool.and_eq_true, Bool.or_eq_true, Bool.and_eq_false_iff, Bool.or_eq_false_iff, decide_eq_true_eq, decide_eq_false_iff_not] at c66
      have hl : lastU (lookL V nb) (i + 1) = i := (by unfold lastU; rw [← g3, lookL_at hi]; rw [if_pos]; refine ⟨by omega, ?_⟩; rcases c66.2 with h9 | h9; exact .inl h9; by_cases h8 : last < 0; exact .inl h8; rw [hb1 _ (by omega)] at h9; exact .inr (by omega))
      refine s_region0 fun ops => oM rfl <| oM rfl <| oN rfl <| oF rfl ?_
      refine o_store rfl rfl uD rfl rfl rfl ?_
      refine o_nil <| n_blk <| n_K <| s_region0 fun ops => ?_
      refine oR (rd_add64 rfl rfl (by omega)) ?_
      refine oM rfl <| o_nil <| n_K ?_
      first | exact ⟨(i + 1, bs.set i (lookB (V i)), (i : Int), (if most.toNat < (lookB (V i)).wear.toNat then (lookB (V i)).wear else most)), ⟨by simp only; omega, hset, hb1, hl.symm, (by simp only; rw [mostU, lookL_at hi, ← g4])⟩, by simp only; omega, lZ⟩ | exact ⟨(i + 1, bs.set i (lookB (V i)), last, (if most.toNat < (lookB (V i)).wear.toNat then (lookB (V i)).wear else most)), ⟨by simp only; omega, hset, hb1, hl.symm, (by simp only; rw [mostU, lookL_at hi, ← g4])⟩, by simp only; omega, lZ⟩
    · simp only [Bool.and_eq_true, Bool.or_eq_true, Bool.and_eq_false_iff, Bool.or_eq_false_iff, decide_eq_true_eq, decide_eq_false_iff_not] at c66
      have hl : lastU (lookL V nb) (i + 1) = last := (by unfold lastU; rw [← g3, lookL_at hi]; rw [if_neg]; rintro ⟨h8, h9⟩; rcases c66 with h7 | ⟨h6, h7⟩; omega; rcases h9 with h9 | h9; exact h6 h9; rw [hb1 _ (by omega)] at h7; omega)
      refine s_skip <| n_blk <| n_K <| s_region0 fun ops => ?_
      refine oR (rd_add64 rfl rfl (by omega)) ?_
      refine oM rfl <| o_nil <| n_K ?_
      first | exact ⟨(i + 1, bs.set i (lookB (V i)), (i : Int), (if most.toNat < (lookB (V i)).wear.toNat then (lookB (V i)).wear else most)), ⟨by simp only; omega, hset, hb1, hl.symm, (by simp only; rw [mostU, lookL_at hi, ← g4])⟩, by simp only; omega, lZ⟩ | exact ⟨(i + 1, bs.set i (lookB (V i)), last, (if most.toNat < (lookB (V i)).wear.toNat then (lookB (V i)).wear else most)), ⟨by simp only; omega, hset, hb1, hl.symm, (by simp only; rw [mostU, lookL_at hi, ← g4])⟩, by simp only; omega, lZ⟩
  · simp only [decide_eq_true_eq, decide_eq_false_iff_not] at c22
    have hi : i = nb := (by omega)
    subst hi
    refine s_exit <| x_K <| x_K <| x_blk <| n_K <| s_seq <| s_seq <| s_region0 fun ops => oM rfl <| oN rfl <| oF rfl ?_
    refine oR (rd_ld rfl mM rfl) ?_
    refine oR (rd_lenS rfl) <| oM rfl <| o_nil <| n_K <| s_block ?_
    refine s_loop2 [4, 5, 76] kQ (fun (st : Nat × List LB) => [(77, .int .i64 st.1)]) (fun (st : Nat × List LB) => (b15, true, C (lgC d.dk b13 i last) tLg) :: (b13, true, C (lbs st.2) tLB) :: (dkH d ++ [])) (fun (st : Nat × List LB) => st.1 ≤ i ∧ st.2.length = i ∧ (∀ j < i, bAt st.2 j = if j < st.1 then knownL most (bAt (lookL V i) j) else bAt (lookL V i) j)) (fun (st : Nat × List LB) => i - st.1) ((0, bs)) ⟨Nat.zero_le _, g1, fun j hj => (by simp only; rw [if_neg (by omega)]; exact g2 j hj)⟩ kP sP ?_
    rintro ⟨m, cs⟩ ⟨k0, k1, k2⟩
    simp only at k0 k1 k2
    refine s_seq <| s_region0 fun ops => oR (rd_bin rfl rfl rfl) <| o_nil <| n_K <| s_seq ?_
    refine s_cond rfl (fun c78 => ?_) (fun c78 => ?_)
    · simp only [decide_eq_true_eq, decide_eq_false_iff_not] at c78
      have hm : m < i := (by omega)
      have hgm : cs[m]? = some (bAt cs m) := bAt_in (by omega)
      have hkm := k2 m hm
      rw [if_neg (Nat.lt_irrefl m)] at hkm
      refine s_skip <| n_K <| s_seq <| s_block <| s_seq <| s_region0 fun ops => oM rfl <| oA rfl <| o_nil <| n_K <| s_seq <| s_region0 fun ops => oM rfl <| oN rfl ?_
      refine oF rfl ?_
      refine oR (rd_ld rfl mM rfl) ?_
      refine oM rfl ?_
      refine oR (rd_ixS0 rfl rfl (by omega)) ?_
      refine oF rfl ?_
      refine oR (rd_ld rfl mM (by simp only [Int.toNat_natCast]; exact lb_nth (o := 1) hgm (by omega) rfl)) ?_
      refine oR (rd_not rfl) <| o_nil <| n_K ?_
      refine s_cond rfl (fun c88 => ?_) (fun c88 => ?_)
      · skip
        have hkn : (bAt cs m).known = false := (by simpa using c88)
        have hnT : ∀ j < i, bAt (cs.set m { bAt cs m with wear := most }) j = if j < m + 1 then knownL most (bAt (lookL V i) j) else bAt (lookL V i) j := (fun j hj => by (rw [bAt_set (by omega)]; by_cases e : j = m; (subst e; rw [if_pos rfl, if_pos (by omega), ← hkm]; unfold knownL; rw [if_neg (by rw [hkn]; simp)]); (rw [if_neg e, k2 j hj]; by_cases e2 : j < m; (rw [if_pos e2, if_pos (by omega)]); (rw [if_neg e2, if_neg (by omega)]))))
        refine s_region0 fun ops => oM rfl <| oN rfl <| oF rfl ?_
        refine oR (rd_ld rfl mM rfl) ?_
        refine oM rfl <| oM rfl ?_
        refine oR (rd_ixS0 rfl rfl (by omega)) ?_
        refine oF rfl ?_
        refine o_store (cs' := lbs (cs.set m { bAt cs m with wear := most })) rfl rfl uD rfl rfl (by simp only [Int.toNat_natCast]; exact lb_set (o := 0) (vs := [wv most]) hgm rfl) ?_
        refine o_nil <| n_blk <| n_K <| s_region0 fun ops => ?_
        refine oR (rd_add64 rfl rfl (by omega)) ?_
        refine oM rfl <| o_nil <| n_K ?_
        first | exact ⟨(m + 1, cs.set m { bAt cs m with wear := most }), ⟨by simp only; omega, by simp only [List.length_set]; exact k1, hnT⟩, by simp only; omega, lZ⟩ | exact ⟨(m + 1, cs), ⟨by simp only; omega, k1, hnF⟩, by simp only; omega, lZ⟩
      · skip
        have hkn : (bAt cs m).known = true := (by simpa using c88)
        have hnF : ∀ j < i, bAt cs j = if j < m + 1 then knownL most (bAt (lookL V i) j) else bAt (lookL V i) j := (fun j hj => by (rw [k2 j hj]; by_cases e : j = m; (subst e; rw [if_neg (Nat.lt_irrefl _), if_pos (by omega), ← hkm]; unfold knownL; rw [if_pos hkn]); (by_cases e2 : j < m; (rw [if_pos e2, if_pos (by omega)]); (rw [if_neg e2, if_neg (by omega)]))))
        refine s_skip <| n_blk <| n_K <| s_region0 fun ops => ?_
        refine oR (rd_add64 rfl rfl (by omega)) ?_
        refine oM rfl <| o_nil <| n_K ?_
        first | exact ⟨(m + 1, cs.set m { bAt cs m with wear := most }), ⟨by simp only; omega, by simp only [List.length_set]; exact k1, hnT⟩, by simp only; omega, lZ⟩ | exact ⟨(m + 1, cs), ⟨by simp only; omega, k1, hnF⟩, by simp only; omega, lZ⟩
    · simp only [decide_eq_true_eq, decide_eq_false_iff_not] at c78
      have hm : m = i := (by omega)
      subst hm
      have hcs : cs = (openL V m).1 := (by apply bs_ext; (show cs.length = ((lookL V m).map _).length; rw [List.length_map, lookL_len, k1]); (intro j hj; rw [k2 j (by omega), if_pos (by omega), g4]; show _ = bAt ((lookL V m).map (knownL (mostU (lookL V m) m))) j; have hj2 : j < (lookL V m).length := (by rw [lookL_len]; omega); rw [bAt_get (List.getElem?_eq_getElem hj2), bAt_get (by rw [List.getElem?_map, List.getElem?_eq_getElem hj2]; rfl)]))
      refine s_exit <| x_K <| x_K <| x_blk <| n_K <| s_seq <| s_region0 fun ops => oM rfl <| oA rfl <| oA rfl <| o_nil <| n_K <| s_ret ?_
      exact leaf_r (rets2 Tryz.results27 (rv_tmp rfl) (rv_tmp rfl)) (by exact ⟨b15, b13, rfl, rfl⟩) (by rw [← hcs, show (openL V m).2 = last from g3.symm]; exact sP)
end
end Go.Proofs.YtkfcpjohblddmaaGreat
end
section
/- Walks of package chiplog: a block is wiped; a page is written; is a block clean? -/
namespace Go.Proofs.YtkfcpjohblddmaaGreat
open Go.K
set_option linter.unusedVariables false
set_option linter.unusedSimpArgs false
instance fld73_3 : Fld Tryz.prog 73 3 3 := ⟨⟨_, _, 0, Tryz.underlying73, rfl, by kernel_rfl, rfl⟩⟩
instance ent26 : Ent Tryz.prog 26 := ⟨fun _ _ => by kernel_rfl⟩
instance ent28 : Ent Tryz.prog 28 := ⟨fun _ _ => by kernel_rfl⟩
instance ent48 : Ent Tryz.prog 48 := ⟨fun _ _ => by kernel_rfl⟩
instance ent78 : Ent Tryz.prog 78 := ⟨fun _ _ => by kernel_rfl⟩
instance ent79 : Ent Tryz.prog 79 := ⟨fun _ _ => by kernel_rfl⟩
instance ent108 : Ent Tryz.prog 108 := ⟨fun _ _ => by kernel_rfl⟩
set_option maxRecDepth 20000
theorem pgAt_in {v : Blk} {j : Nat} (h : j < 8) : pgAt v j = v.pages[j] := dif_pos h
/-- How much may fail yet, and, where nothing does, which blocks are in use. -/
structure Qt where
  n : Nat
  u : List Int
def Acc (q : Qt) (c : Chip) (t : TS) : Prop := t.lost.length + FP c + FW c ≤ q.n ∧ (q.n = 0 → t.uses = q.u)
section
variable {c : Chip} {t : TS} {n k : Nat} {q : Qt} {V : Nat → Blk} {r : Int × TS × Chip}
theorem DV.keepE {b : Nat} (h : DV c t n k V) (hk : k ≤ 700000) (hq : FP c + FW c = 0) (hb : b + 6 < n) (hr : EraseD n (b : Nat) c t r) : r.2.1 = t := by
  have hu := h.us hb
  obtain ⟨b1, c1, _, _, _, _, _, hc⟩ := erase_disk (a := (at0 t.uses (b : Nat)).toNat) h.di (by omega) (by omega) (b := (b : Nat)) (by omega) (by omega) (h.vw b hb) hr
  rcases hc with ⟨_, _, hc, _⟩ | ⟨_, hc, _⟩ | ⟨_, _, hc⟩
  · rw [hc]
  · omega
  · rw [hc]
theorem DV.keepP {b j : Nat} {p : Pg} (h : DV c t n k V) (hk : k ≤ 700000) (hq : FP c + FW c = 0) (hb : b + 6 < n) (hj : j < 8) (hn : (V b).next = j) (hr : ProgD n (b : Nat) (j : Nat) p c t r) : r.2.1 = t := by
  have hu := h.us hb
  obtain ⟨m, c1, _, _, _, hc⟩ := prog_disk (a := (at0 t.uses (b : Nat)).toNat) h.di (by omega) (by omega) (b := (b : Nat)) (by omega) (by omega) (h.vw b hb) hj hn hr
  rcases hc with ⟨_, _, hc, _⟩ | ⟨_, _, _, hc, _⟩ | ⟨_, _, _, hc⟩
  · rw [hc]
  · omega
  · rw [hc]
theorem erase_out {b : Nat} (h : DV c t n k V) (hk : k ≤ 700000) (hq : q.n ≤ 3) (hacc : Acc q c t) (hb : b + 6 < n) (hr : EraseD n (b : Nat) c t r) :
    FrA c r.2.2 ∧ ∃ v : Blk, (∀ (j : Nat) (h : j < 8), v.pages[j] = blankP ∨ v.pages[j] = (V b).pages[j]) ∧
      ((r.1 = 0 ∧ DV r.2.2 r.2.1 n (k + 20) (upV V b v) ∧ v.next = 0 ∧ Acc q r.2.2 r.2.1) ∨ (r.1 = 30 ∧ r.2.2.off = true ∧ ¬ c.after < 0 ∧ Later r.2.2 n (k + 20) q.n (upV V b v))) := by
  obtain ⟨hac, hau⟩ := hacc
  obtain ⟨f, v, hv, hc⟩ := erase_view h hk (by omega) hb hr
  refine ⟨f, v, hv, ?_⟩
  rcases hc with ⟨q1, q2, q3, q4⟩ | ⟨q1, _, q3, q4⟩ | ⟨q1, q2, q3, q4⟩
  · exact .inl ⟨q1, q2, q3, by omega, fun h0 => by rw [h.keepE hk (by omega) hb hr]; exact hau h0⟩
  · omega
  · refine .inr ⟨q1, q2, q3, fun d a1 a2 a3 a4 => ?_⟩
    obtain ⟨t2, x1, x2, x3⟩ := q4 d a1 a2 a3 a4
    exact ⟨t2, x1, x2, by omega⟩
theorem prog_out {b j : Nat} {p : Pg} (h : DV c t n k V) (hk : k ≤ 700000) (hq : q.n ≤ 3) (hacc : Acc q c t) (hb : b + 6 < n) (hj : j < 8) (hn : (V b).next = j) (hr : ProgD n (b : Nat) (j : Nat) p c t r) :
    FrA c r.2.2 ∧ ∃ v : Blk, v.next = ((j + 1 : Nat) : Int) ∧ Kept v (V b) j ∧
      ((r.1 = 0 ∧ DV r.2.2 r.2.1 n (k + 20) (upV V b v) ∧ pgAt v j = p ∧ Acc q r.2.2 r.2.1) ∨ (r.1 = 30 ∧ r.2.2.off = true ∧ ¬ c.after < 0 ∧ (∃ m, pgAt v j = andP m blankP p) ∧ Later r.2.2 n (k + 20) q.n (upV V b v))) := by
  obtain ⟨hac, hau⟩ := hacc
  obtain ⟨f, v, hv1, hv2, hc⟩ := prog_view h hk (by omega) hb hj hn hr
  refine ⟨f, v, hv1, hv2, ?_⟩
  rcases hc with ⟨q1, q2, q3, q4, _⟩ | ⟨q1, _, q3, q4⟩ | ⟨q1, q2, q3, ⟨m, q4⟩, q5⟩
  · exact .inl ⟨q1, q2, by rw [pgAt_in hj]; exact q3 hj, by omega, fun h0 => by rw [h.keepP hk (by omega) hb hj hn hr]; exact hau h0⟩
  · omega
  · refine .inr ⟨q1, q2, q3, ⟨m, by rw [pgAt_in hj]; exact q4 hj⟩, fun d a1 a2 a3 a4 => ?_⟩
    obtain ⟨t2, x1, x2, x3⟩ := q5 d a1 a2 a3 a4
    exact ⟨t2, x1, x2, by omega⟩
end
theorem writeF_num {kind : By} (h : 0 < kind.toNat ∧ kind.toNat < 255) (x : Wd) : writeF kind (numB 8 x) = (numP kind x, 0) := by
  unfold writeF numP
  rw [if_neg (by rw [numP_right h]; simp)]
/-- What a wiped block may be, once the power went. -/
def EraB (w v : Blk) (x : Wd) : Prop := (∀ (j : Nat) (h : j < 8), v.pages[j] = blankP ∨ v.pages[j] = w.pages[j]) ∨ (v.next = 1 ∧ ∃ m, pgAt v 0 = andP m blankP (wearP x))
def wiped (x : Wd) : LB := ⟨x, true, 0, true, 8⟩
def WipeR (n nb k : Nat) (q : Qt) (V : Nat → Blk) (b : Nat) (bs : List LB) (c : Chip) (bs' : List LB) (e : Int) (t' : TS) (c' : Chip) : Prop :=
  bs'.length = nb ∧ FrA c c' ∧ ∃ v : Blk, (e = 0 ∧ DV c' t' n k (upV V b v) ∧ Acc q c' t' ∧ bs' = bs.set b (wiped ((bAt bs b).wear + 1)) ∧ v.next = 1 ∧ pgAt v 0 = wearP ((bAt bs b).wear + 1)) ∨
    (e = 30 ∧ c'.off = true ∧ ¬ c.after < 0 ∧ Later c' n k q.n (upV V b v) ∧ EraB (V b) v ((bAt bs b).wear + 1))
def WriteR (n k : Nat) (q : Qt) (V : Nat → Blk) (b j : Nat) (p : Pg) (c : Chip) (t : TS) (e : Int) (t' : TS) (c' : Chip) : Prop :=
  FrA c c' ∧ ((e = 32 ∧ (V b).next ≠ j ∧ t' = t ∧ c' = c) ∨ ((V b).next = j ∧ ∃ v : Blk, v.next = ((j + 1 : Nat) : Int) ∧ Kept v (V b) j ∧
    ((e = 0 ∧ DV c' t' n k (upV V b v) ∧ Acc q c' t' ∧ pgAt v j = p) ∨ (e = 30 ∧ c'.off = true ∧ ¬ c.after < 0 ∧ (∃ m, pgAt v j = andP m blankP p) ∧ Later c' n k q.n (upV V b v)))))
section
variable {d : Dsk} {n k : Nat} {q : Qt} {lg bb nb : Nat} {last : Int} {V : Nat → Blk}
theorem lwipe_fn (h : DD d n k V) (hk : k ≤ 600000) (hq : q.n ≤ 3) (hacc : Acc q d.c d.t.ts) {b : Nat} {bs : List LB} (hnb : nb + 6 = n) (hl : bs.length = nb) (hb : b < nb) :
    Does Tryz.prog 28 [ptr lg, .int .i64 (b : Nat)] ((lg, true, C (lgC d.dk bb nb last) tLg) :: (bb, true, C (lbs bs) tLB) :: (dkH d ++ []))
    (fun v H => ∃ (t' : Tab) (c' : Chip) (bs' : List LB) (e : Int), v = .int .i64 e ∧ H = (lg, true, C (lgC d.dk bb nb last) tLg) :: (bb, true, C (lbs bs') tLB) :: (dkH ⟨d.dk, t', c'⟩ ++ []) ∧ WipeR n nb (k + 40) q V b bs d.c bs' e t'.ts c') := by
  have hg : bs[b]? = some (bAt bs b) := bAt_in (by omega)
  refine fn_enter (n := 56) Tryz.func28 Tryz.ntmps28 rfl (Nat.le_of_ble_eq_true rfl) <| s_seq <| s_region0 fun ops => oA rfl <| o_nil <| n_K <| s_seq <| s_seq <| s_region0 fun ops => oM rfl <| oN rfl <| oF rfl ?_
  refine oR (rd_ld rfl mM rfl) ?_
  refine oM rfl ?_
  refine c_ex rfl (dk_erase (d := d) h (b := (b : Nat))) sP rfl fun v15 Y15 h15 => ?_
  obtain ⟨t1, c1, e1, rfl, rfl, hE⟩ := h15
  obtain ⟨f1, w1, hw1, hc1⟩ := erase_out h (by omega) hq hacc (by omega) hE
  simp only at f1 hc1
  refine so_ap aQ ?_
  refine oA rfl <| o_nil <| n_K <| s_seq <| s_region0 fun ops => oM rfl <| oR (rd_bin rfl rfl rfl) <| o_nil <| n_K ?_
  refine s_cond rfl (fun c17 => ?_) (fun c17 => ?_)
  · skip
    have he1 : e1 ≠ 0 := (by simpa using c17)
    have hc30 := hc1.resolve_left (fun h9 => he1 h9.1)
    refine s_seq <| s_region0 fun ops => oM rfl <| oA rfl <| o_nil <| n_K <| s_ret <| r_K ?_
    exact leaf_r (rets1 Tryz.results28 (rv_tmp rfl)) (by exact ⟨t1, c1, bs, e1, rfl, rfl, hl, f1, w1, .inr ⟨hc30.1, hc30.2.1, hc30.2.2.1, fun d a1 a2 a3 a4 => (by obtain ⟨x0, x1, x2, x3⟩ := hc30.2.2.2 d a1 a2 a3 a4; exact ⟨x0, x1, x2.mono (by omega), x3⟩), .inl hw1⟩⟩) sP
  · skip
    have he1 : e1 = 0 := (by simpa using c17)
    obtain ⟨_, hD1, hw10, hacc1⟩ := hc1.resolve_right (fun h9 => by rw [he1] at h9; exact absurd h9.1 (by decide))
    have hg1 : (bs.set b ⟨(bAt bs b).wear + 1, true, 0, false, 8⟩)[b]? = some ⟨(bAt bs b).wear + 1, true, 0, false, 8⟩ := (by simp [hl, hb])
    refine s_skip <| n_K <| s_seq <| s_region0 fun ops => oM rfl <| oN rfl <| oF rfl ?_
    refine oR (rd_ld rfl mM rfl) ?_
    refine oM rfl ?_
    refine oR (rd_ixS0 rfl rfl (by omega)) ?_
    refine oA rfl <| o_nil <| n_K <| s_seq <| s_region0 fun ops => oM rfl <| oM rfl <| oN rfl <| oF rfl ?_
    refine oR (rd_ld rfl mM (by simp only [Int.toNat_natCast]; exact lb_nth (o := 0) hg (by omega) rfl)) ?_
    refine oR (rd_inc64 rfl rfl) <| oR (rd_build_s rfl rfl) <| oN rfl ?_
    refine o_store (cs' := lbs (bs.set b ⟨(bAt bs b).wear + 1, true, 0, false, 8⟩)) rfl rfl uD rfl rfl (by simp only [Int.toNat_natCast]; exact lb_set (o := 0) hg rfl) ?_
    refine o_nil <| n_K <| s_seq <| s_region0 fun ops => oM rfl <| oN rfl <| oF rfl ?_
    refine oR (rd_ld rfl mM (by simp only [Int.toNat_natCast]; exact lb_nth (o := 0) hg1 (by omega) rfl)) ?_
    refine c_ex rfl (num_fn) sP rfl fun v38 Y38 h38 => ?_
    obtain ⟨s38, rfl, rfl, hs38, ho38⟩ := h38
    refine so_ap aQ ?_
    refine o_bslice_k rfl rfl rfl rfl fun b39 => ?_
    refine c_is rfl ((write_one (kind := 2) (s := s38) (by rw [hs38, numB_len]; decide)).to (by rw [hs38, show clampN 8 8 = 8 from rfl, writeF_num (by decide)]) rfl) sP rfl aQ ?_
    refine oM rfl <| oE rfl rfl <| oE rfl rfl ?_
    refine o_alloc rfl fun b7 => ?_
    rw [zeroP_eq]
    first | refine o_store rfl rfl uD (vc_vb) (vbc_len) (spl_vb (by first | exact vbc_len | exact List.length_replicate ..)) ?_ | refine o_store rfl rfl uD rfl rfl rfl ?_
    refine oA rfl <| o_nil <| n_K <| s_seq ?_
    refine s_draw [] [(6, [(0, false), (1, false), (2, false), (3, false), (4, false), (5, false)]), (7, [(6, true)]), (8, [(7, false)])] (by kernel_rfl) rfl fun ops w0 H0 y => ?_
    refine p_all <| xM rfl <| xN rfl <| xF rfl ?_
    refine xR (rd_ld rfl mM rfl) ?_
    refine xM rfl ?_
    refine xR (rd_ldA rfl mM (by first | exact cut_vb | rfl)) ?_
    refine x_nil <| p_none <| x_so ?_
    refine c_ex rfl (dk_program (d := ⟨d.dk, t1, c1⟩) hD1 (b := (b : Nat)) (j := (0 : Nat)) (p := wearP ((bAt bs b).wear + 1))) sP rfl fun v49 Y49 h49 => ?_
    obtain ⟨t2, c2, e2, rfl, rfl, hP⟩ := h49
    obtain ⟨f2, w2, hw2, _, hc2⟩ := prog_out hD1 (by omega) hq hacc1 (b := b) (j := 0) (by omega) (by omega) (by rw [upV_at]; exact hw10) hP
    simp only at f2 hc2
    rw [upV_up] at hc2
    refine so_ap aQ ?_
    refine o_nil ⟨rfl, ⟨_, sP⟩, ?_⟩
    refine x_nil <| p_all <| xA rfl <| x_nil <| p_end <| n_K <| s_seq <| s_region0 fun ops => oM rfl <| oM rfl <| oR (rd_bin rfl rfl rfl) <| oN rfl <| oF rfl ?_
    refine o_store (cs' := lbs ((bs.set b ⟨(bAt bs b).wear + 1, true, 0, false, 8⟩).set b ⟨(bAt bs b).wear + 1, true, 0, decide (e2 = 0), 8⟩)) rfl rfl uD rfl rfl (by simp only [Int.toNat_natCast]; exact lb_set (o := 3) hg1 rfl) ?_
    refine o_nil <| n_K <| s_seq <| s_region0 fun ops => oM rfl <| oA rfl <| o_nil <| n_K <| s_ret ?_
    exact leaf_r (rets1 Tryz.results28 (rv_tmp rfl)) (by exact ⟨t2, c2, bs.set b ⟨(bAt bs b).wear + 1, true, 0, decide (e2 = 0), 8⟩, e2, rfl, rfl, by rw [List.length_set]; exact hl, f1.trans f2, w2, by rcases hc2 with ⟨q1, q2, q3, q4⟩ | ⟨q1, q2, q3, q4, q5⟩; exact .inl ⟨q1, q2, q4, by rw [q1]; rfl, hw2, q3⟩; exact .inr ⟨q1, q2, fun hp => q3 (by rw [(f1.pos hp).1]; exact hp), q5, .inr ⟨hw2, q4⟩⟩⟩) (by rw [List.set_set]; exact sP)
theorem lwrite_fn (h : DD d n k V) (hk : k ≤ 600000) (hq : q.n ≤ 3) (hacc : Acc q d.c d.t.ts) {b j : Nat} {p : Pg} (hb : b + 6 < n) (hj : j < 8) :
    Does Tryz.prog 26 [ptr lg, .int .i64 (b : Nat), .int .i64 (j : Nat), .agg (vbc p).toArray] ((lg, true, C (lgC d.dk bb nb last) tLg) :: (dkH d ++ []))
    (fun v H => ∃ (t' : Tab) (c' : Chip) (e : Int), v = .int .i64 e ∧ H = (lg, true, C (lgC d.dk bb nb last) tLg) :: (dkH ⟨d.dk, t', c'⟩ ++ []) ∧ WriteR n (k + 20) q V b j p d.c d.t.ts e t'.ts c') := by
  refine fn_enter (n := 41) Tryz.func26 Tryz.ntmps26 rfl (Nat.le_of_ble_eq_true rfl) <| s_seq <| s_region0 fun ops => ?_
  refine o_boxA rfl rfl fun b7 => ?_
  refine oA rfl <| o_nil <| n_K <| s_seq <| s_seq ?_
  refine s_draw [] [(7, [(0, false), (1, false), (2, false), (3, false), (4, false), (5, false), (6, false)]), (8, [(7, true)]), (9, [(8, false)])] (by kernel_rfl) rfl fun ops w0 H0 y => ?_
  refine p_all <| xM rfl <| xN rfl <| xF rfl ?_
  refine xR (rd_ld rfl mM rfl) ?_
  refine xM rfl <| xM rfl ?_
  refine xR (rd_ldA rfl mM (by first | exact cut_vb | rfl)) ?_
  refine x_nil <| p_none <| x_so ?_
  refine c_ex rfl (dk_program (d := d) h (b := (b : Nat)) (j := (j : Nat)) (p := p)) sP rfl fun v19 Y19 h19 => ?_
  obtain ⟨t1, c1, e1, rfl, rfl, hP⟩ := h19
  have hW : (e1 = 32 ∧ (V b).next ≠ j ∧ t1.ts = d.t.ts ∧ c1 = d.c) ∨ ((V b).next = j ∧ FrA d.c c1 ∧ ∃ v : Blk, v.next = ((j + 1 : Nat) : Int) ∧ Kept v (V b) j ∧ ((e1 = 0 ∧ DV c1 t1.ts n (k + 20) (upV V b v) ∧ pgAt v j = p ∧ Acc q c1 t1.ts) ∨ (e1 = 30 ∧ c1.off = true ∧ ¬ d.c.after < 0 ∧ (∃ m, pgAt v j = andP m blankP p) ∧ Later c1 n (k + 20) q.n (upV V b v)))) := (by by_cases hn : (V b).next = j; (obtain ⟨f1, w1, h1, h2, h3⟩ := prog_out h (by omega) hq hacc hb hj hn hP; exact .inr ⟨hn, f1, w1, h1, h2, h3⟩); (have h9 := prog_ord h hb hj hn hP; simp only [Prod.mk.injEq] at h9; exact .inl ⟨h9.1, hn, h9.2.1, h9.2.2⟩))
  refine so_ap aQ ?_
  refine o_nil ⟨rfl, ⟨_, sP⟩, ?_⟩
  refine x_nil <| p_all <| xA rfl <| x_nil <| p_end <| n_K <| s_seq <| s_region0 fun ops => oM rfl <| oR (rd_bin rfl rfl rfl) <| o_nil <| n_K ?_
  refine s_cond rfl (fun c21 => ?_) (fun c21 => ?_)
  · skip
    have he1 : e1 ≠ 0 := (by simpa using c21)
    refine s_seq <| s_region0 fun ops => oM rfl <| oA rfl <| o_nil <| n_K <| s_ret <| r_K ?_
    exact leaf_r (rets1 Tryz.results26 (rv_tmp rfl)) (by exact ⟨t1, c1, e1, rfl, rfl, by rcases hW with ⟨q1, q2, q3, q4⟩ | ⟨q1, q2, w, q3, q4, q5⟩; (rw [q4]; exact .refl _); exact q2, by rcases hW with ⟨q1, q2, q3, q4⟩ | ⟨q1, q2, w, q3, q4, q5⟩; exact .inl ⟨q1, q2, q3, q4⟩; exact .inr ⟨q1, w, q3, q4, by rcases q5 with ⟨r1, r2, r3, r4⟩ | r; exact .inl ⟨r1, r2, r4, r3⟩; exact .inr r⟩⟩) sP
  · skip
    have he1 : e1 = 0 := (by simpa using c21)
    obtain ⟨hn, f1, w1, h1, h2, h3⟩ := hW.resolve_left (fun h9 => by rw [he1] at h9; exact absurd h9.1 (by decide))
    obtain ⟨_, hD1, hp1, hacc1⟩ := h3.resolve_right (fun h9 => by rw [he1] at h9; exact absurd h9.1 (by decide))
    have hrd := dread_pg (d := ⟨d.dk, t1, c1⟩) hD1 hb hj
    rw [upV_at, hp1] at hrd
    refine s_skip <| n_K <| s_seq <| s_region0 fun ops => oM rfl <| oN rfl <| oF rfl ?_
    refine oR (rd_ld rfl mM rfl) ?_
    refine oM rfl <| oM rfl ?_
    refine c_is rfl ((dk_read (d := ⟨d.dk, t1, c1⟩) (b := (b : Nat)) (k := (j : Nat))).to (by rw [hrd.1, hrd.2]) rfl) sP rfl aQ ?_
    refine oM rfl <| oE rfl rfl <| oE rfl rfl ?_
    refine o_alloc rfl fun b10 => ?_
    rw [zeroP_eq]
    first | refine o_store rfl rfl uD (vc_vb) (vbc_len) (spl_vb (by first | exact vbc_len | exact List.length_replicate ..)) ?_ | refine o_store rfl rfl uD rfl rfl rfl ?_
    refine oA rfl <| o_nil <| n_K <| s_seq <| s_seq ?_
    refine s_region [(2, 35)] rfl fun ops y => ?_
    refine oM rfl <| oR (rd_bin rfl rfl rfl) <| oM rfl ?_
    refine' o_and (j := 2) (k := 3) y rfl rfl rfl rfl rfl rfl rfl (fun hg35 => ?_) ?_
    rotate_left
    · try (simp at hg35; show _)
      refine o_g y rfl rfl ?_
      refine oR (rd_ldA rfl mM (by first | exact cut_vb | rfl)) ?_
      refine o_g y rfl rfl ?_
      refine oR (rd_ldA rfl mM (by first | exact cut_vb | rfl)) ?_
      refine o_g y rfl rfl ?_
      refine oR (rd_neA rfl rfl (pg_eq _ _)) ?_
      exact o_nil ⟨rfl, rfl, ⟨_, sP⟩⟩
    refine o_nil <| n_K ?_
    refine s_cond rfl (fun c39 => ?_) (fun c39 => ?_)
    · skip
      try (exfalso; (simp at c39); done)
      all_goals
        refine s_region0 fun ops => oA rfl <| o_nil <| n_K <| s_seq <| s_region0 fun ops => oM rfl <| oA rfl <| o_nil <| n_K <| s_ret ?_
        exact leaf_r (rets1 Tryz.results26 (rv_tmp rfl)) (by exact ⟨t1, c1, 0, rfl, rfl, f1, .inr ⟨hn, w1, h1, h2, .inl ⟨rfl, hD1, hacc1, hp1⟩⟩⟩) sP
    · skip
      refine s_skip <| n_K <| s_seq <| s_region0 fun ops => oM rfl <| oA rfl <| o_nil <| n_K <| s_ret ?_
      exact leaf_r (rets1 Tryz.results26 (rv_tmp rfl)) (by exact ⟨t1, c1, 0, rfl, rfl, f1, .inr ⟨hn, w1, h1, h2, .inl ⟨rfl, hD1, hacc1, hp1⟩⟩⟩) sP
def cleanB (v : Blk) : Bool := (List.range 7).all fun i => decide (pgAt v (i + 1) = blankP)
theorem clean1_fn {x : By} : Does Tryz.prog 79 [bv x] [] (Is (.bool (!decide ((x.toNat : Int) = 255))) []) := by
  refine fn_enter (n := 5) Tryz.func79 Tryz.ntmps79 rfl (Nat.le_of_ble_eq_true rfl) <| s_seq <| s_region0 fun ops => oA rfl <| o_nil <| n_K <| s_seq <| s_region0 fun ops => oM rfl <| oR (rd_bin rfl rfl rfl) <| oA rfl <| o_nil <| n_K <| s_ret ?_
  refine leaf_is (rets1 Tryz.results79 (rv_tmp rfl)) ?_ sP
  rfl
theorem idx8_fn {p : Pg} {m : Nat} : Does Tryz.prog 108 [.slice (some ⟨m, 0, none⟩) 258 258, .func (.func 79) #[] #[]] [(m, true, C (vbc p) tPg)]
    (fun v H => H = [(m, true, C (vbc p) tPg)] ∧ ((p ≠ blankP ∧ ∃ i : Nat, v = .int .i64 (i : Nat)) ∨ (p = blankP ∧ v = .int .i64 (-1)))) := by
  refine fn_enter (n := 19) Tryz.func108 Tryz.ntmps108 rfl (Nat.le_of_ble_eq_true rfl) <| s_seq <| s_region0 fun ops => oA rfl <| o_nil <| n_K <| s_seq <| s_seq <| s_region0 fun ops => oM rfl <| oR (rd_lenS rfl) <| oM rfl <| o_nil <| n_K ?_
  refine s_block ?_
  refine s_loop2 [0, 1, 7] kQ (fun (i : Nat) => [(8, .int .i64 i)]) (fun (i : Nat) => [(m, true, C (vbc p) tPg)]) (fun (i : Nat) => i ≤ 258 ∧ ∀ (j : Nat) (h : j < 258), j < i → p[j] = 255#8) (fun (i : Nat) => 258 - i) (0) ⟨Nat.zero_le _, fun j _ h => (by cases h)⟩ kP sP ?_
  rintro i ⟨h0, h1⟩
  refine s_seq <| s_region0 fun ops => oR (rd_bin rfl rfl rfl) <| o_nil <| n_K <| s_seq ?_
  refine s_cond rfl (fun c9 => ?_) (fun c9 => ?_)
  · simp only [decide_eq_true_eq, decide_eq_false_iff_not] at c9
    have hi : i < 258 := (by omega)
    refine s_skip <| n_K <| s_seq <| s_block <| s_seq <| s_region0 fun ops => oM rfl <| oA rfl <| o_nil <| n_K <| s_seq <| s_region0 fun ops => oM rfl <| oM rfl ?_
    refine oM rfl ?_
    refine oR (rd_ixS0 rfl rfl (by omega)) ?_
    refine oR (rd_ld rfl mM (by simp only [Int.toNat_natCast, Nat.mul_one]; exact nth_vb hi)) ?_
    refine c_fis (fi := []) (ca := []) rfl rfl (clean1_fn (x := p[i])) sP rfl aQ ?_
    refine o_nil <| n_K ?_
    refine s_cond rfl (fun c16 => ?_) (fun c16 => ?_)
    · skip
      have hne : p ≠ blankP := (fun e => by rw [e, blank_at hi] at c16; exact absurd c16 (by decide))
      refine s_seq <| s_region0 fun ops => oM rfl <| oA rfl <| o_nil <| n_K <| s_ret <| r_blk <| r_K <| r_K <| r_blk <| r_K ?_
      exact leaf_r (rets1 Tryz.results108 (rv_tmp rfl)) (by exact ⟨rfl, .inl ⟨hne, i, rfl⟩⟩) sP
    · skip
      have hb : p[i] = 255#8 := (by have h9 : (p[i].toNat : Int) = 255 := (by simpa using c16); exact BitVec.eq_of_toNat_eq (by show _ = 255; omega))
      refine s_skip <| n_blk <| n_K <| s_region0 fun ops => ?_
      refine oR (rd_add64 rfl rfl (by omega)) ?_
      refine oM rfl <| o_nil <| n_K ?_
      exact ⟨i + 1, ⟨by omega, fun j hj hlt => by by_cases e : j = i; (subst e; exact hb); exact h1 j hj (by omega)⟩, (by omega), lZ⟩
  · simp only [decide_eq_true_eq, decide_eq_false_iff_not] at c9
    refine s_exit <| x_K <| x_K <| x_blk <| n_K <| s_seq <| s_region0 fun ops => oA rfl <| o_nil <| n_K <| s_ret ?_
    exact leaf_r (rets1 Tryz.results108 (rv_tmp rfl)) (by exact ⟨rfl, .inr ⟨by apply Vector.ext; intro j hj; rw [h1 j hj (by omega), blank_at hj], rfl⟩⟩) sP
theorem cf8_fn {p : Pg} {m : Nat} : Does Tryz.prog 78 [.slice (some ⟨m, 0, none⟩) 258 258, .func (.func 79) #[] #[]] [(m, true, C (vbc p) tPg)]
    (Is (.bool (decide (p ≠ blankP))) [(m, true, C (vbc p) tPg)]) := by
  refine fn_enter (n := 9) Tryz.func78 Tryz.ntmps78 rfl (Nat.le_of_ble_eq_true rfl) <| s_seq <| s_region0 fun ops => oA rfl <| o_nil <| n_K <| s_seq <| s_region0 fun ops => oM rfl <| oM rfl ?_
  refine c_ex rfl (idx8_fn (p := p) (m := m)) sP rfl fun v7 Y7 h7 => ?_
  rcases h7 with ⟨rfl, ⟨hne, i, rfl⟩ | ⟨hne, rfl⟩⟩
  all_goals
    refine so_ap aQ ?_
    refine oR (rd_bin rfl rfl rfl) <| oA rfl <| o_nil <| n_K <| s_ret ?_
    refine leaf_is (rets1 Tryz.results78 (rv_tmp rfl)) ?_ sP
    first | (rw [decide_eq_true hne]; simp; done) | (simp [hne]; done)
theorem clean_fn (h : DD d n k V) {b : Nat} (hb : b + 6 < n) : Does Tryz.prog 48 [ptr lg, .int .i64 (b : Nat)] ((lg, true, C (lgC d.dk bb nb last) tLg) :: (dkH d ++ []))
    (Is (.tuple #[.bool (cleanB (V b)), .int .i64 0]) ((lg, true, C (lgC d.dk bb nb last) tLg) :: (dkH d ++ []))) := by
  refine fn_enter (n := 28) Tryz.func48 Tryz.ntmps48 rfl (Nat.le_of_ble_eq_true rfl) <| s_seq <| s_region0 fun ops => oA rfl <| oA rfl <| o_nil <| n_K <| s_seq <| s_seq <| s_region0 fun ops => oA rfl <| o_nil <| n_K <| s_block ?_
  refine s_loop2 [0, 1] kQ (fun (i : Nat) => [(6, .int .i64 ((i : Int) + 1))]) (fun (i : Nat) => (lg, true, C (lgC d.dk bb nb last) tLg) :: (dkH d ++ [])) (fun (i : Nat) => i ≤ 7 ∧ ∀ j < i, pgAt (V b) (j + 1) = blankP) (fun (i : Nat) => 7 - i) (0) ⟨Nat.zero_le _, fun j h => (by cases h)⟩ kP sP ?_
  rintro i ⟨h0, h1⟩
  refine s_seq <| s_seq <| s_region0 fun ops => oM rfl <| oR (rd_bin rfl rfl rfl) <| o_nil <| n_K ?_
  refine s_cond rfl (fun c10 => ?_) (fun c10 => ?_)
  · simp only [decide_eq_true_eq, decide_eq_false_iff_not] at c10
    have hi : i < 7 := (by omega)
    have hrd := dread_pg h hb (j := i + 1) (by omega)
    have ei : (((i + 1 : Nat) : Int)) = (i : Int) + 1 := (by omega)
    rw [ei] at hrd
    refine s_skip <| n_K <| s_seq <| s_block <| s_seq <| s_region0 fun ops => oM rfl <| oN rfl <| oF rfl ?_
    refine oR (rd_ld rfl mM rfl) ?_
    refine oM rfl <| oM rfl ?_
    refine c_is rfl ((dk_read (d := d) (b := (b : Nat)) (k := (i : Int) + 1)).to (by rw [hrd.1, hrd.2]) rfl) sP rfl aQ ?_
    refine oM rfl <| oE rfl rfl <| oE rfl rfl ?_
    refine o_alloc rfl fun b7 => ?_
    rw [zeroP_eq]
    first | refine o_store rfl rfl uD (vc_vb) (vbc_len) (spl_vb (by first | exact vbc_len | exact List.length_replicate ..)) ?_ | refine o_store rfl rfl uD rfl rfl rfl ?_
    refine oA rfl <| o_nil <| n_K <| s_seq <| s_seq <| s_region0 fun ops => oM rfl <| oR (rd_bin rfl rfl rfl) <| o_nil <| n_K ?_
    refine s_condF rfl ?_
    refine s_skip <| n_K <| s_seq <| s_region0 fun ops => ?_
    refine oR (show Rd _ _ _ _ (.slice (some ⟨b7, 0, none⟩) 258 258) from rd_sliceA (b := b7) (o := 0) (sz := 1) (i := 0) (j := 258) (l := 258) rfl rfl rfl (by omega)) ?_
    refine c_is rfl (cf8_fn (p := pgAt (V b) (i + 1)) (m := b7)) sP rfl aQ ?_
    refine o_nil <| n_K ?_
    refine s_cond rfl (fun c27 => ?_) (fun c27 => ?_)
    · skip
      have hne : pgAt (V b) (i + 1) ≠ blankP := (by simpa using c27)
      have hcl : cleanB (V b) = false := (by unfold cleanB; rw [List.all_eq_false]; exact ⟨i, List.mem_range.2 hi, by simpa using hne⟩)
      refine s_seq <| s_region0 fun ops => oA rfl <| oA rfl <| o_nil <| n_K <| s_ret <| r_blk <| r_K <| r_K <| r_blk <| r_K ?_
      refine leaf_is (rets2 Tryz.results48 (rv_tmp rfl) (rv_tmp rfl)) ?_ sP
      rw [hcl]
    · skip
      have he : pgAt (V b) (i + 1) = blankP := (by simpa using c27)
      refine s_skip <| n_blk <| n_K <| s_region0 fun ops => oM rfl ?_
      refine oR (rd_add64 rfl rfl (by omega)) ?_
      refine oA rfl <| o_nil <| n_K ?_
      exact ⟨i + 1, ⟨by omega, fun j hj => by by_cases e : j = i; (subst e; exact he); exact h1 j (by omega)⟩, (by omega), lZ⟩
  · simp only [decide_eq_true_eq, decide_eq_false_iff_not] at c10
    have hcl : cleanB (V b) = true := (by unfold cleanB; rw [List.all_eq_true]; intro j hj; have := List.mem_range.1 hj; simpa using h1 j (by omega))
    refine s_exit <| x_K <| x_K <| x_blk <| n_K <| s_seq <| s_region0 fun ops => oA rfl <| oA rfl <| o_nil <| n_K <| s_ret ?_
    refine leaf_is (rets2 Tryz.results48 (rv_tmp rfl) (rv_tmp rfl)) ?_ sP
    rw [hcl]
end
end Go.Proofs.YtkfcpjohblddmaaGreat
end
section
/- Ways that meet again, some of which may have left. -/
namespace Go.K
open Go Go.Sem
set_option linter.unusedVariables false
theorem s_join [rg : Rg] {P : Program} {n : Nat} {E : Env} {H : Hp} {Q : Post} {x y : Code} (I : Env → Hp → Prop)
    (h : SC P n x E H (thn (fun E' H' => ∃ F L, I F L ∧ Keep E' F ∧ ∃ R, Split H' L R) Q)) (k : ∀ F L, I F L → SC P n y F L Q) : SC P n (.seq x y) E H Q :=
  s_seq (h.mono fun e E' H' hh => by
    cases e with
    | normal => obtain ⟨F, L, hi, h2, R, h3⟩ := hh; exact s_keep h2 h3 (k F L hi)
    | _ => exact hh)
/-- The end of such a way. -/
theorem jZ {E F : Env} {H L R : Hp} (h2 : Keep E F := by repeat' first | exact Keep.nil | refine Keep.cons rfl ?_) (h3 : Split H L R := by repeat (first | exact Split.nil | (apply Split.cons; next => repeat (first | exact Pick.here | apply Pick.there | apply Pick.app)) | (apply Split.chunk; next => repeat (first | exact PickL.here | exact PickL.last | apply PickL.there | apply PickL.app)) | (apply Split.lst; repeat (first | exact PickL.here | exact PickL.last | apply PickL.there | apply PickL.app)))) : Keep E F ∧ ∃ R, Split H L R := ⟨h2, R, h3⟩
end Go.K
end
section
/- Walks of package chiplog: a segment is begun. -/
namespace Go.Proofs.YtkfcpjohblddmaaGreat
open Go.K
set_option linter.unusedVariables false
set_option linter.unusedSimpArgs false
instance ent25 : Ent Tryz.prog 25 := ⟨fun _ _ => by kernel_rfl⟩
set_option maxRecDepth 20000
set_option maxHeartbeats 1000000
/-- The free block with the least wear, of the first so many. -/
def toU (bs : List LB) : Nat → Int
  | 0 => -1
  | k + 1 => if (bAt bs k).seq.toNat = 0 ∧ (toU bs k < 0 ∨ (bAt bs k).wear.toNat < (bAt bs (toU bs k).toNat).wear.toNat) then k else toU bs k
theorem toU_spec (bs : List LB) : ∀ k, (toU bs k = -1 ∧ ∀ j < k, (bAt bs j).seq.toNat ≠ 0) ∨ (∃ l : Nat, toU bs k = l ∧ l < k ∧ (bAt bs l).seq.toNat = 0 ∧ ∀ j < k, (bAt bs j).seq.toNat = 0 → (bAt bs l).wear.toNat ≤ (bAt bs j).wear.toNat)
  | 0 => .inl ⟨rfl, fun j hj => by omega⟩
  | k + 1 => by
    rcases toU_spec bs k with ⟨h1, h2⟩ | ⟨l, h1, h2, h3, h4⟩
    · unfold toU
      rw [h1]
      by_cases h : (bAt bs k).seq.toNat = 0
      · rw [if_pos ⟨h, .inl (by omega)⟩]
        refine .inr ⟨k, rfl, by omega, h, fun j hj h0 => ?_⟩
        by_cases e : j = k
        · subst e; exact Nat.le_refl _
        · exact absurd h0 (h2 j (by omega))
      · rw [if_neg (fun h5 => h h5.1)]
        refine .inl ⟨rfl, fun j hj => ?_⟩
        by_cases e : j = k
        · subst e; exact h
        · exact h2 j (by omega)
    · unfold toU
      rw [h1, Int.toNat_natCast]
      by_cases h : (bAt bs k).seq.toNat = 0 ∧ (bAt bs k).wear.toNat < (bAt bs l).wear.toNat
      · rw [if_pos ⟨h.1, .inr h.2⟩]
        refine .inr ⟨k, rfl, by omega, h.1, fun j hj h0 => ?_⟩
        by_cases e : j = k
        · subst e; exact Nat.le_refl _
        · have := h4 j (by omega) h0; omega
      · rw [if_neg (fun h5 => by rcases h5.2 with h6 | h6; omega; exact h ⟨h5.1, h6⟩)]
        refine .inr ⟨l, rfl, by omega, h3, fun j hj h0 => ?_⟩
        by_cases e : j = k
        · subst e; omega
        · exact h4 j (by omega) h0
theorem toU_rng (bs : List LB) (k : Nat) : -1 ≤ toU bs k ∧ toU bs k < k := by
  rcases toU_spec bs k with ⟨h, _⟩ | ⟨l, h, h2, _⟩ <;> omega
def seqN (bs : List LB) (last : Int) : Wd := if last < 0 then 1 else (bAt bs last.toNat).seq + 1
theorem rd_decW {P : Program} {E : Env} {H : Hp} {t u : TypeId} {x y : Operand} {v : Wd} (hx : ev E x = some (wv v)) (hy : ev E y = some (.int .u64 1)) : Rd P E H (.binOp .sub t x y u) (wv (v - 1)) := by
  have := rd_bin (P := P) (H := H) (op := .sub) (t := t) (u := u) hx hy rfl
  have e : IntKind.u64.wrap ((v.toNat : Int) - 1) = ((v - 1).toNat : Int) := by
    rw [wrap_u .u64 rfl]
    show ((BitVec.ofInt 64 ((v.toNat : Int) - 1)).toNat : Int) = _
    have h1 := v.isLt
    rw [BitVec.toNat_ofInt, BitVec.toNat_sub]
    show (((v.toNat : Int) - 1) % (18446744073709551616 : Nat)).toNat = (((18446744073709551616 - 1 + v.toNat) % 18446744073709551616 : Nat) : Int)
    omega
  unfold wv
  rw [← e]
  exact this
def BegB (w v : Blk) (x : LB) (sq : Wd) : Prop :=
  EraB w v x.wear ∨ (v.next = 2 ∧ (pgAt v 0 = wearP x.wear ∨ (x.ready = true ∧ (pgAt v 0 = pgAt w 0 ∨ pgAt v 0 = mendP (pgAt w 0)))) ∧ ∃ m, pgAt v 1 = andP m blankP (headP sq))
/-- What stands in a block that was begun: w ahead, v behind. -/
def Begun (w v : Blk) (x : LB) (kn : Bool) (sq : Wd) : Prop :=
  v.next = 2 ∧ pgAt v 1 = headP sq ∧ ((kn = true ∧ pgAt v 0 = wearP x.wear) ∨ (x.ready = true ∧ kn = x.known ∧ (pgAt v 0 = pgAt w 0 ∨ pgAt v 0 = mendP (pgAt w 0))))
def BeginR (n nb k : Nat) (q : Qt) (V : Nat → Blk) (bs : List LB) (last : Int) (c : Chip) (t : TS) (bs' : List LB) (last' e : Int) (t' : TS) (c' : Chip) : Prop :=
  (e = 40 ∧ toU bs nb < 0 ∧ bs' = bs ∧ last' = last ∧ t' = t ∧ c' = c) ∨
  (bs'.length = nb ∧ FrA c c' ∧ ∃ (to : Nat) (v : Blk), toU bs nb = to ∧
    ((e = 0 ∧ DV c' t' n k (upV V to v) ∧ Acc q c' t' ∧ last' = to ∧ (∀ j < nb, j ≠ to → bAt bs' j = bAt bs j) ∧ ∃ kn, bAt bs' to = ⟨(bAt bs to).wear, kn, seqN bs last, false, 2⟩ ∧ Begun (V to) v (bAt bs to) kn (seqN bs last)) ∨
     (e = 30 ∧ c'.off = true ∧ ¬ c.after < 0 ∧ Later c' n k q.n (upV V to v) ∧ BegB (V to) v (bAt bs to) (seqN bs last))))
/-- Ahead of a head's writing. -/
def BegJ (n nb k : Nat) (q : Qt) (to : Nat) (V : Nat → Blk) (bs : List LB) (c : Chip) (t1 : TS) (c1 : Chip) (bs1 : List LB) (w : Blk) : Prop :=
  bs1.length = nb ∧ FrA c c1 ∧ DV c1 t1 n k (upV V to w) ∧ Acc q c1 t1 ∧ w.next = 1 ∧ (bAt bs1 to).wear = (bAt bs to).wear ∧ (∀ j < nb, j ≠ to → bAt bs1 j = bAt bs j) ∧
    (((bAt bs1 to).known = true ∧ pgAt w 0 = wearP (bAt bs to).wear) ∨ ((bAt bs to).ready = true ∧ (bAt bs1 to).known = (bAt bs to).known ∧ pgAt w 0 = pgAt (V to) 0))
theorem kept0 {v w : Blk} {j : Nat} (h : Kept v w j) (hj : 0 < j) : pgAt v 0 = pgAt w 0 ∨ pgAt v 0 = mendP (pgAt w 0) := by
  have := h 0 (by omega) hj
  rwa [← pgAt_in (v := v) (by omega), ← pgAt_in (v := w) (by omega)] at this
theorem upV_self (V : Nat → Blk) (b : Nat) : upV V b (V b) = V := by
  funext l
  unfold upV
  split
  · rename_i h; rw [h]
  · rfl
section
variable {d : Dsk} {n k : Nat} {q : Qt} {lg bb nb : Nat} {last : Int} {V : Nat → Blk} {bs : List LB}
theorem begin_fn (h : DD d n k V) (hk : k ≤ 500000) (hq : q.n ≤ 3) (hacc : Acc q d.c d.t.ts) (hnb : nb + 6 = n) (hl : bs.length = nb) (hlr : -1 ≤ last ∧ last < nb) (hls : 0 ≤ last → (bAt bs last.toNat).seq.toNat ≠ 0)
    (hrdy : ∀ b < nb, (bAt bs b).ready = true → (V b).next = 1) :
    Does Tryz.prog 25 [ptr lg] ((lg, true, C (lgC d.dk bb nb last) tLg) :: (bb, true, C (lbs bs) tLB) :: (dkH d ++ []))
    (fun v H => ∃ (t' : Tab) (c' : Chip) (bs' : List LB) (last' e : Int), v = .int .i64 e ∧ H = (lg, true, C (lgC d.dk bb nb last') tLg) :: (bb, true, C (lbs bs') tLB) :: (dkH ⟨d.dk, t', c'⟩ ++ []) ∧ BeginR n nb (k + 60) q V bs last d.c d.t.ts bs' last' e t'.ts c') := by
  refine fn_enter (n := 147) Tryz.func25 Tryz.ntmps25 rfl (Nat.le_of_ble_eq_true rfl) <| s_seq <| s_region0 fun ops => oA rfl <| o_nil <| n_K <| s_seq <| s_region0 fun ops => oA rfl <| o_nil <| n_K <| s_seq <| s_seq <| s_region0 fun ops => ?_
  refine oM rfl <| oN rfl <| oF rfl ?_
  refine oR (rd_ld rfl mM rfl) ?_
  refine oR (rd_lenS rfl) <| oM rfl <| o_nil <| n_K <| s_block ?_
  have hn40 := h.di.wf.n2
  refine s_loop2 [0, 17, 18] kQ (fun (st : Nat × Int) => [(19, .int .i64 st.1), (3, .int .i64 st.2)]) (fun (st : Nat × Int) => (lg, true, C (lgC d.dk bb nb last) tLg) :: (bb, true, C (lbs bs) tLB) :: (dkH d ++ [])) (fun (st : Nat × Int) => st.1 ≤ nb ∧ st.2 = toU bs st.1) (fun (st : Nat × Int) => nb - st.1) ((0, -1)) ⟨Nat.zero_le _, rfl⟩ kP sP ?_
  rintro ⟨i, to⟩ ⟨g0, g1⟩
  simp only at g0 g1
  refine s_seq <| s_region0 fun ops => oR (rd_bin rfl rfl rfl) <| o_nil <| n_K <| s_seq ?_
  refine s_cond rfl (fun c20 => ?_) (fun c20 => ?_)
  · simp only [decide_eq_true_eq, decide_eq_false_iff_not] at c20
    have hi : i < nb := (by omega)
    have hgi : bs[i]? = some (bAt bs i) := bAt_in (by omega)
    have hrg := toU_rng bs i
    refine s_skip <| n_K <| s_seq <| s_block <| s_seq <| s_region0 fun ops => oM rfl ?_
    refine oR (rd_ixS0 rfl rfl (by omega)) ?_
    refine oR (rd_ldA rfl mM (by simp only [Int.toNat_natCast]; exact lb_cut hgi)) ?_
    refine o_alloc rfl fun b5 => ?_
    refine oA rfl ?_
    refine o_store rfl rfl uD rfl rfl rfl ?_
    refine o_nil <| n_K <| s_seq ?_
    refine s_draw [(3, 27), (6, 30)] [(20, [(0, false), (1, false), (2, false), (3, false), (4, false), (5, false), (6, false), (7, false), (8, false), (9, false), (10, false), (11, false), (12, false), (13, false), (14, false), (15, false), (16, false), (17, false), (18, false), (19, false)])] (by kernel_rfl) rfl fun ops w0 H0 y => ?_
    refine p_all <| xF rfl ?_
    refine xR (rd_ld rfl mM rfl) ?_
    refine xR (rd_bin rfl rfl rfl) <| xM rfl ?_
    refine' x_and (j := 3) (k := 15) y rfl rfl rfl rfl rfl rfl rfl (fun hg27 => ?_) ?_
    rotate_left
    · try (simp at hg27; show _)
      refine x_g y rfl rfl ?_
      refine xM rfl ?_
      refine x_g y rfl rfl ?_
      refine xR (rd_bin rfl rfl rfl) ?_
      refine x_g y rfl rfl ?_
      refine xM rfl ?_
      refine' x_or (j := 6) (k := 11) y rfl rfl rfl rfl rfl rfl rfl (fun hg30 => ?_) ?_
      rotate_left
      · try (simp at hg30; show _)
        refine x_g y rfl rfl ?_
        refine xF rfl ?_
        refine x_g y rfl rfl ?_
        refine xR (rd_ld rfl mM rfl) ?_
        refine x_g y rfl rfl ?_
        refine xM rfl ?_
        refine x_g y rfl rfl ?_
        refine xN rfl ?_
        refine x_g y rfl rfl ?_
        refine xF rfl ?_
        refine x_g y rfl rfl ?_
        refine xR (rd_ld rfl mM rfl) ?_
        refine x_g y rfl rfl ?_
        refine xM rfl ?_
        refine x_g y rfl rfl ?_
        refine xR (rd_ixS0 rfl rfl (by omega)) ?_
        refine x_g y rfl rfl ?_
        refine xF rfl ?_
        refine x_g y rfl rfl ?_
        refine xR (show Rd _ _ _ _ (wv (bAt bs to.toNat).wear) from rd_ld rfl mM (lb_nth (o := 0) (bAt_in (by omega)) (by omega) rfl)) ?_
        refine x_g y rfl rfl ?_
        refine xR (rd_bin rfl rfl rfl) ?_
        exact x_nil ⟨rfl, ⟨_, sP⟩⟩
      exact x_nil ⟨rfl, ⟨_, sP⟩⟩
    refine x_nil <| p_end <| n_K ?_
    refine s_cond rfl (fun c43 => ?_) (fun c43 => ?_)
    · simp only [Bool.and_eq_true, Bool.or_eq_true, Bool.and_eq_false_iff, Bool.or_eq_false_iff, decide_eq_true_eq, decide_eq_false_iff_not] at c43
      have hT : (i : Int) = toU bs (i + 1) := (by unfold toU; rw [← g1, if_pos ⟨by omega, by rcases c43.2 with h9 | h9; exact .inl h9; exact .inr (by omega)⟩])
      refine s_region0 fun ops => oM rfl <| oA rfl <| o_nil <| n_blk <| n_K <| s_region0 fun ops => ?_
      refine oR (rd_add64 rfl rfl (by omega)) ?_
      refine oM rfl <| o_nil <| n_K ?_
      first | exact ⟨(i + 1, (i : Int)), ⟨by simp only; omega, hT⟩, by simp only; omega, lZ⟩ | exact ⟨(i + 1, to), ⟨by simp only; omega, hF⟩, by simp only; omega, lZ⟩
    · simp only [Bool.and_eq_true, Bool.or_eq_true, Bool.and_eq_false_iff, Bool.or_eq_false_iff, decide_eq_true_eq, decide_eq_false_iff_not] at c43
      have hF : to = toU bs (i + 1) := (by unfold toU; rw [← g1, if_neg (by rintro ⟨h8, h9⟩; rcases c43 with h7 | ⟨h6, h7⟩; omega; rcases h9 with h9 | h9; exact h6 h9; omega)])
      refine s_skip <| n_blk <| n_K <| s_region0 fun ops => ?_
      refine oR (rd_add64 rfl rfl (by omega)) ?_
      refine oM rfl <| o_nil <| n_K ?_
      first | exact ⟨(i + 1, (i : Int)), ⟨by simp only; omega, hT⟩, by simp only; omega, lZ⟩ | exact ⟨(i + 1, to), ⟨by simp only; omega, hF⟩, by simp only; omega, lZ⟩
  · simp only [decide_eq_true_eq, decide_eq_false_iff_not] at c20
    have hi : i = nb := (by omega)
    subst hi
    refine s_exit <| x_K <| x_K <| x_blk <| n_K <| s_seq <| s_seq <| s_region0 fun ops => oM rfl <| oR (rd_bin rfl rfl rfl) <| o_nil <| n_K ?_
    refine s_cond rfl (fun c47 => ?_) (fun c47 => ?_)
    · simp only [decide_eq_true_eq, decide_eq_false_iff_not] at c47
      refine s_seq <| s_region0 fun ops => oA rfl <| o_nil <| n_K <| s_ret <| r_K ?_
      exact leaf_r (rets1 Tryz.results25 (rv_tmp rfl)) (by exact ⟨d.t, d.c, bs, last, 40, rfl, rfl, .inl ⟨rfl, by omega, rfl, rfl, rfl, rfl⟩⟩) sP
    · simp only [decide_eq_true_eq, decide_eq_false_iff_not] at c47
      obtain ⟨tn, rfl⟩ : ∃ tn : Nat, to = tn := ⟨to.toNat, by omega⟩
      have hrg := toU_rng bs i
      have htn : tn < i := (by omega)
      have hgt : bs[tn]? = some (bAt bs tn) := bAt_in (by omega)
      have hfree : (bAt bs tn).seq.toNat = 0 := (by rcases toU_spec bs i with ⟨h9, _⟩ | ⟨l, h9, _, h8, _⟩; omega; (have : tn = l := by omega); subst this; exact h8)
      refine s_skip <| n_K <| s_seq <| s_region0 fun ops => oM rfl <| oN rfl <| oF rfl ?_
      refine oR (rd_ld rfl mM rfl) ?_
      refine oM rfl ?_
      refine oR (rd_ixS0 rfl rfl (by omega)) ?_
      refine oA rfl <| o_nil <| n_K <| s_seq <| s_region0 fun ops => oM rfl <| oM rfl ?_
      refine c_is rfl (clean_fn (d := d) (bb := bb) (nb := i) (last := last) h (b := tn) (by omega)) sP rfl aQ ?_
      refine oM rfl <| oE rfl rfl <| oE rfl rfl <| oA rfl <| oA rfl <| o_nil <| n_K <| s_seq <| s_seq <| s_region0 fun ops => oM rfl <| oR (rd_bin rfl rfl rfl) <| o_nil <| n_K ?_
      refine s_condF rfl ?_
      refine s_skip <| n_K ?_
      refine s_join (fun F L => ∃ (t1 : Tab) (c1 : Chip) (bs1 : List LB) (w : Blk), F = [(0, ptr lg), (3, .int .i64 (tn : Nat)), (6, .pointer (some ⟨bb, tn * 5, none⟩))] ∧ L = (lg, true, C (lgC d.dk bb i last) tLg) :: (bb, true, C (lbs bs1) tLB) :: (dkH ⟨d.dk, t1, c1⟩ ++ []) ∧ BegJ n i (k + 40) q tn V bs d.c t1.ts c1 bs1 w) ?_ ?_
      · refine s_seq ?_
        refine s_region [(5, 68)] rfl fun ops y => ?_
        refine oM rfl <| oN rfl <| oF rfl ?_
        refine oR (rd_ld rfl mM (by simp only [Int.toNat_natCast]; exact lb_nth (o := 3) hgt (by omega) rfl)) ?_
        refine oR (rd_not rfl) <| oM rfl ?_
        refine' o_or (j := 5) (k := 2) y rfl rfl rfl rfl rfl rfl rfl (fun hg68 => ?_) ?_
        rotate_left
        · try (simp at hg68; show _)
          refine o_g y rfl rfl ?_
          refine oM rfl ?_
          refine o_g y rfl rfl ?_
          refine oR (rd_not rfl) ?_
          exact o_nil ⟨rfl, rfl, ⟨_, sP⟩⟩
        refine o_nil <| n_K ?_
        refine s_cond rfl (fun c71 => ?_) (fun c71 => ?_)
        · skip
          refine s_seq <| s_region0 fun ops => oM rfl <| oN rfl <| oF rfl ?_
          refine oR (rd_ld rfl mM (by simp only [Int.toNat_natCast]; exact lb_nth (o := 0) hgt (by omega) rfl)) ?_
          refine oR (rd_decW rfl rfl) <| oN rfl <| oF rfl ?_
          refine o_store (cs' := lbs (bs.set tn { bAt bs tn with wear := (bAt bs tn).wear - 1 })) rfl rfl uD rfl rfl (by simp only [Int.toNat_natCast]; exact lb_set (o := 0) hgt rfl) ?_
          refine o_nil <| n_K <| s_seq <| s_region0 fun ops => oM rfl <| oM rfl ?_
          refine c_ex rfl (lwipe_fn (d := d) (bb := bb) (last := last) h (by omega) hq hacc (b := tn) (bs := bs.set tn { bAt bs tn with wear := (bAt bs tn).wear - 1 }) hnb (by rw [List.length_set]; exact hl) htn) sP rfl fun v81 Y81 h81 => ?_
          obtain ⟨t1, c1, bs1, e9, rfl, rfl, hb1, hF1, w, hW⟩ := h81
          rw [bAt_set (by omega), if_pos rfl, BitVec.sub_add_cancel] at hW
          refine so_ap aQ ?_
          refine oA rfl <| o_nil <| n_K <| s_seq <| s_region0 fun ops => oM rfl <| oR (rd_bin rfl rfl rfl) <| o_nil <| n_K ?_
          refine s_cond rfl (fun c83 => ?_) (fun c83 => ?_)
          · skip
            have he9 : e9 ≠ 0 := (by simpa using c83)
            have hW30 := hW.resolve_left (fun h9 => he9 h9.1)
            refine s_seq <| s_region0 fun ops => oM rfl <| oA rfl <| o_nil <| n_K <| s_ret <| r_K ?_
            exact leaf_r (rets1 Tryz.results25 (rv_tmp rfl)) (by exact ⟨t1, c1, bs1, last, e9, rfl, rfl, .inr ⟨hb1, hF1, tn, w, by omega, .inr ⟨hW30.1, hW30.2.1, hW30.2.2.1, fun d a1 a2 a3 a4 => (by obtain ⟨x0, x1, x2, x3⟩ := hW30.2.2.2.1 d a1 a2 a3 a4; exact ⟨x0, x1, x2.mono (by omega), x3⟩), .inl hW30.2.2.2.2⟩⟩⟩) sP
          · skip
            have he9 : e9 = 0 := (by simpa using c83)
            obtain ⟨_, hD1, hacc1, hbs1, hwn, hw0⟩ := hW.resolve_right (fun h9 => by rw [he9] at h9; exact absurd h9.1 (by decide))
            have hJ1 : BegJ n i (k + 40) q tn V bs d.c t1.ts c1 bs1 w := ⟨hb1, hF1, hD1, hacc1, hwn, by rw [hbs1, List.set_set, bAt_set (by omega), if_pos rfl]; rfl, fun j hj hne => by rw [hbs1, List.set_set, bAt_set (by omega), if_neg hne], .inl ⟨by rw [hbs1, List.set_set, bAt_set (by omega), if_pos rfl]; rfl, hw0⟩⟩
            refine s_skip <| n_K ?_
            first | exact ⟨_, _, ⟨t1, c1, bs1, w, rfl, rfl, hJ1⟩, jZ⟩ | exact ⟨_, _, ⟨d.t, d.c, bs, V tn, rfl, rfl, hJ0⟩, jZ⟩
        · skip
          have hrc : (bAt bs tn).ready = true := (by simp at c71; exact c71.1)
          have hJ0 : BegJ n i (k + 40) q tn V bs d.c d.t.ts d.c bs (V tn) := ⟨hl, .refl _, by rw [upV_self]; exact DV.mono h (by omega), hacc, hrdy tn htn hrc, rfl, fun _ _ _ => rfl, .inr ⟨hrc, rfl, rfl⟩⟩
          refine s_skip <| n_K ?_
          first | exact ⟨_, _, ⟨t1, c1, bs1, w, rfl, rfl, hJ1⟩, jZ⟩ | exact ⟨_, _, ⟨d.t, d.c, bs, V tn, rfl, rfl, hJ0⟩, jZ⟩
      · rintro F L ⟨t1, c1, bs1, w, rfl, rfl, hb1, hF1, hD1, hacc1, hwn, hwear, hoth, hpg⟩
        refine s_seq <| s_region0 fun ops => oA rfl <| o_nil <| n_K ?_
        refine s_join (fun F L => F = [(0, ptr lg), (3, .int .i64 (tn : Nat)), (6, .pointer (some ⟨bb, tn * 5, none⟩)), (10, wv (seqN bs last))] ∧ L = (lg, true, C (lgC d.dk bb i last) tLg) :: (bb, true, C (lbs bs1) tLB) :: (dkH ⟨d.dk, t1, c1⟩ ++ [])) ?_ ?_
        · refine s_seq <| s_region0 fun ops => oM rfl <| oN rfl <| oF rfl ?_
          refine oR (rd_ld rfl mM rfl) ?_
          refine oR (rd_bin rfl rfl rfl) <| o_nil <| n_K ?_
          refine s_cond rfl (fun c89 => ?_) (fun c89 => ?_)
          · simp only [decide_eq_true_eq, decide_eq_false_iff_not] at c89
            have hlt : last.toNat ≠ tn := (fun e => by have := hls c89; rw [e] at this; exact this hfree)
            have hsq : seqN bs last = (bAt bs1 last.toNat).seq + 1 := (by unfold seqN; rw [if_neg (by omega), hoth _ (by omega) hlt])
            refine s_draw [] [(13, [(0, false), (1, false), (2, false), (3, false), (4, false), (5, false), (6, false), (7, false), (8, false), (9, false), (10, false), (11, false), (12, false)])] (by kernel_rfl) rfl fun ops w0 H0 y => ?_
            refine p_all <| xM rfl <| xN rfl <| xF rfl ?_
            refine xR (rd_ld rfl mM rfl) ?_
            refine xM rfl <| xN rfl <| xF rfl ?_
            refine xR (rd_ld rfl mM rfl) ?_
            refine xR (rd_ixS0 rfl rfl (by omega)) ?_
            refine xF rfl ?_
            refine xR (show Rd _ _ _ _ (wv (bAt bs1 last.toNat).seq) from rd_ld rfl mM (lb_nth (o := 2) (bAt_in (by omega)) (by omega) rfl)) ?_
            refine xR (rd_inc64 rfl rfl) <| xA rfl <| x_nil <| p_end <| n_K ?_
            exact ⟨_, _, ⟨rfl, rfl⟩, by rw [hsq]; exact jZ⟩
          · simp only [decide_eq_true_eq, decide_eq_false_iff_not] at c89
            have hsq : seqN bs last = 1 := (by unfold seqN; rw [if_pos (by omega)])
            refine s_skip <| n_K ?_
            exact ⟨_, _, ⟨rfl, rfl⟩, by rw [hsq]; exact jZ⟩
        · rintro F L ⟨rfl, rfl⟩
          refine s_seq <| s_region0 fun ops => oM rfl ?_
          refine c_ex rfl (num_fn) sP rfl fun v104 Y104 h104 => ?_
          obtain ⟨s104, rfl, rfl, hs104, ho104⟩ := h104
          refine so_ap aQ ?_
          refine o_bslice_k rfl rfl rfl rfl fun b105 => ?_
          refine c_is rfl ((write_one (kind := 3) (s := s104) (by rw [hs104, numB_len]; decide)).to (by rw [hs104, show clampN 8 8 = 8 from rfl, writeF_num (by decide)]) rfl) sP rfl aQ ?_
          refine oM rfl <| oE rfl rfl <| oE rfl rfl ?_
          refine o_alloc rfl fun b11 => ?_
          rw [zeroP_eq]
          first | refine o_store rfl rfl uD (vc_vb) (vbc_len) (spl_vb (by first | exact vbc_len | exact List.length_replicate ..)) ?_ | refine o_store rfl rfl uD rfl rfl rfl ?_
          refine oA rfl <| o_nil <| n_K <| s_seq <| s_region0 fun ops => oM rfl <| oM rfl ?_
          refine oR (rd_ldA rfl mM (by first | exact cut_vb | rfl)) ?_
          refine c_ex rfl (lwrite_fn (d := ⟨d.dk, t1, c1⟩) (bb := bb) (nb := i) (last := last) hD1 (by omega) hq hacc1 (b := tn) (j := 1) (p := headP (seqN bs last)) (by omega) (by omega)) sP rfl fun v112 Y112 h112 => ?_
          obtain ⟨t2, c2, e, rfl, rfl, hF2, hW⟩ := h112
          obtain ⟨_, v, hv1, hv2, hv3⟩ := hW.resolve_left (fun h9 => h9.2.1 (by rw [upV_at]; exact hwn))
          rw [upV_at] at hv2
          rw [upV_up] at hv3
          have hk0 := kept0 hv2 (by omega)
          have he32 : e ≠ 32 := (by rcases hv3 with h9 | h9 <;> omega)
          refine so_ap aQ ?_
          refine oA rfl <| o_nil <| n_K <| s_seq <| s_seq <| s_region0 fun ops => oA rfl <| o_nil <| n_K <| s_block ?_
          refine s_loop2 [0, 3, 6, 10] kQ (fun (_u : Unit) => [(8, .int .i64 e), (13, .int .i64 0)]) (fun (_u : Unit) => (lg, true, C (lgC d.dk bb i last) tLg) :: (bb, true, C (lbs bs1) tLB) :: (dkH ⟨d.dk, t2, c2⟩ ++ [])) (fun (_u : Unit) => True) (fun (_u : Unit) => 0) (()) (by first | trivial | omega | simp) kP sP ?_
          rintro _ _
          refine s_seq <| s_seq ?_
          refine s_region [(2, 115)] rfl fun ops y => ?_
          refine oM rfl <| oR (rd_bin rfl rfl rfl) <| oM rfl ?_
          refine' o_and (j := 2) (k := 2) y rfl rfl rfl rfl rfl rfl rfl (fun hg115 => ?_) ?_
          rotate_left
          · try (simp at hg115; show _)
            refine o_g y rfl rfl ?_
            refine oM rfl ?_
            refine o_g y rfl rfl ?_
            refine oR (rd_bin rfl rfl rfl) ?_
            exact o_nil ⟨rfl, rfl, ⟨_, sP⟩⟩
          refine o_nil <| n_K ?_
          refine s_cond rfl (fun c118 => ?_) (fun c118 => ?_)
          · skip
            exact absurd (by simp at c118; exact c118) he32
          · skip
            refine s_exit <| x_K <| x_K <| x_blk <| n_K <| s_seq <| s_seq <| s_region0 fun ops => oM rfl <| oR (rd_bin rfl rfl rfl) <| o_nil <| n_K ?_
            refine s_cond rfl (fun c131 => ?_) (fun c131 => ?_)
            · skip
              have he0 : e ≠ 0 := (by simpa using c131)
              have hv30 := hv3.resolve_left (fun h9 => he0 h9.1)
              refine s_seq <| s_region0 fun ops => oM rfl <| oA rfl <| o_nil <| n_K <| s_ret <| r_K ?_
              exact leaf_r (rets1 Tryz.results25 (rv_tmp rfl)) (by exact ⟨t2, c2, bs1, last, e, rfl, rfl, .inr ⟨hb1, hF1.trans hF2, tn, v, by omega, .inr ⟨hv30.1, hv30.2.1, fun hp => hv30.2.2.1 (by rw [(hF1.pos hp).1]; exact hp), hv30.2.2.2.2, .inr ⟨hv1, by rcases hpg with ⟨_, h9⟩ | ⟨h8, _, h9⟩; (rw [h9] at hk0; rcases hk0 with h7 | h7; exact .inl h7; exact .inl (by rw [h7, mend_num (by decide)])); (rw [h9] at hk0; exact .inr ⟨h8, hk0⟩), hv30.2.2.2.1⟩⟩⟩⟩) sP
            · skip
              have he0 : e = 0 := (by simpa using c131)
              obtain ⟨_, hD2, hacc2, hp2⟩ := hv3.resolve_right (fun h9 => by rw [he0] at h9; exact absurd h9.1 (by decide))
              have hg1 : bs1[tn]? = some (bAt bs1 tn) := bAt_in (by omega)
              have hg2 : (bs1.set tn { bAt bs1 tn with seq := seqN bs last })[tn]? = some { bAt bs1 tn with seq := seqN bs last } := (by simp [hb1, htn])
              have hg3 : (bs1.set tn { bAt bs1 tn with seq := seqN bs last, next := 2 })[tn]? = some { bAt bs1 tn with seq := seqN bs last, next := 2 } := (by simp [hb1, htn])
              refine s_skip <| n_K <| s_seq <| s_region0 fun ops => oM rfl <| oM rfl <| oM rfl <| oM rfl <| oN rfl <| oF rfl ?_
              first | refine o_store (cs' := lbs (bs1.set tn { bAt bs1 tn with seq := seqN bs last })) rfl rfl uD rfl rfl (lb_set (o := 2) hg1 rfl) ?_ | refine o_store (cs' := lbs ((bs1.set tn { bAt bs1 tn with seq := seqN bs last }).set tn { bAt bs1 tn with seq := seqN bs last, next := 2 })) rfl rfl uD rfl rfl (lb_set (o := 4) hg2 rfl) ?_ | (rw [List.set_set]; refine o_store (cs' := lbs ((bs1.set tn { bAt bs1 tn with seq := seqN bs last, next := 2 }).set tn { bAt bs1 tn with seq := seqN bs last, next := 2, ready := false })) rfl rfl uD rfl rfl (lb_set (o := 3) hg3 rfl) ?_)
              refine oN rfl <| oF rfl ?_
              first | refine o_store (cs' := lbs (bs1.set tn { bAt bs1 tn with seq := seqN bs last })) rfl rfl uD rfl rfl (lb_set (o := 2) hg1 rfl) ?_ | refine o_store (cs' := lbs ((bs1.set tn { bAt bs1 tn with seq := seqN bs last }).set tn { bAt bs1 tn with seq := seqN bs last, next := 2 })) rfl rfl uD rfl rfl (lb_set (o := 4) hg2 rfl) ?_ | (rw [List.set_set]; refine o_store (cs' := lbs ((bs1.set tn { bAt bs1 tn with seq := seqN bs last, next := 2 }).set tn { bAt bs1 tn with seq := seqN bs last, next := 2, ready := false })) rfl rfl uD rfl rfl (lb_set (o := 3) hg3 rfl) ?_)
              refine oN rfl <| oF rfl ?_
              first | refine o_store (cs' := lbs (bs1.set tn { bAt bs1 tn with seq := seqN bs last })) rfl rfl uD rfl rfl (lb_set (o := 2) hg1 rfl) ?_ | refine o_store (cs' := lbs ((bs1.set tn { bAt bs1 tn with seq := seqN bs last }).set tn { bAt bs1 tn with seq := seqN bs last, next := 2 })) rfl rfl uD rfl rfl (lb_set (o := 4) hg2 rfl) ?_ | (rw [List.set_set]; refine o_store (cs' := lbs ((bs1.set tn { bAt bs1 tn with seq := seqN bs last, next := 2 }).set tn { bAt bs1 tn with seq := seqN bs last, next := 2, ready := false })) rfl rfl uD rfl rfl (lb_set (o := 3) hg3 rfl) ?_)
              refine o_nil <| n_K <| s_seq <| s_region0 fun ops => oM rfl <| oM rfl <| oN rfl <| oF rfl ?_
              refine o_store rfl rfl uD rfl rfl rfl ?_
              refine o_nil <| n_K <| s_seq <| s_region0 fun ops => oA rfl <| o_nil <| n_K <| s_ret ?_
              exact leaf_r (rets1 Tryz.results25 (rv_tmp rfl)) (by exact ⟨t2, c2, bs1.set tn { bAt bs1 tn with seq := seqN bs last, next := 2, ready := false }, (tn : Int), 0, rfl, rfl, .inr ⟨by rw [List.length_set]; exact hb1, hF1.trans hF2, tn, v, by omega, .inl ⟨rfl, hD2, hacc2, rfl, fun j hj hne => by rw [bAt_set (by omega), if_neg hne]; exact hoth j hj hne, (bAt bs1 tn).known, by rw [bAt_set (by omega), if_pos rfl, ← hwear], hv1, hp2, by rcases hpg with ⟨h8, h9⟩ | ⟨h8, h7, h9⟩; (rw [h9] at hk0; rcases hk0 with h6 | h6; exact .inl ⟨h8, h6⟩; exact .inl ⟨h8, by rw [h6, mend_num (by decide)]⟩); (rw [h9] at hk0; exact .inr ⟨h8, h7, hk0⟩)⟩⟩⟩) (by rw [List.set_set]; exact sP)
end
end Go.Proofs.YtkfcpjohblddmaaGreat
end
section
/- Walks of package chiplog: a record is appended. -/
namespace Go.Proofs.YtkfcpjohblddmaaGreat
open Go.K
set_option linter.unusedVariables false
set_option linter.unusedSimpArgs false
instance agg26 : Agg Tryz.prog 26 true := ⟨⟨_, Tryz.underlying26, rfl⟩⟩
instance siz26 : Siz Tryz.prog 26 2 := ⟨by kernel_rfl⟩
instance zer26 : Zer Tryz.prog 26 ([.int .i64 0, .int .i64 0]) := ⟨by kernel_rfl⟩
instance plc26 : Plc Tryz.prog 26 [(0, 1), (1, 1)] := ⟨⟨_, Tryz.underlying26, fun _ => by kernel_rfl⟩⟩
instance ent10 : Ent Tryz.prog 10 := ⟨fun _ _ => by kernel_rfl⟩
set_option maxRecDepth 20000
set_option maxHeartbeats 1000000
abbrev tPc : TypeId := 26
/-- What is known of blocks that are ready. -/
def RdyI (V : Nat → Blk) (bs : List LB) (nb : Nat) : Prop := ∀ b < nb, (bAt bs b).ready = true → (V b).next = 1 ∧ (bAt bs b).known = true ∧ pgAt (V b) 0 = wearP (bAt bs b).wear
def NoRoom (V : Nat → Blk) (bs : List LB) (last : Int) : Prop := last < 0 ∨ ∃ l : Nat, last = l ∧ ∀ m : Nat, (bAt bs l).next ≤ m → m < 8 → (V l).next ≠ m
def Others (bs bs' : List LB) (nb : Nat) (last to : Int) : Prop := ∀ j < nb, (j : Int) ≠ to → bAt bs' j = bAt bs j ∨ (last = j ∧ bAt bs' j = { bAt bs j with next := 8 })
def AppR (n nb k : Nat) (q : Qt) (V : Nat → Blk) (bs : List LB) (last : Int) (p : Pg) (c : Chip) (t : TS) (bs' : List LB) (last' e pb pj : Int) (t' : TS) (c' : Chip) : Prop :=
  (∃ l nx : Nat, last = l ∧ (bAt bs l).next ≤ nx ∧ nx < 8 ∧ (V l).next = nx ∧ FrA c c' ∧ ∃ v : Blk, v.next = ((nx + 1 : Nat) : Int) ∧ Kept v (V l) nx ∧
    ((e = 0 ∧ DV c' t' n k (upV V l v) ∧ Acc q c' t' ∧ pgAt v nx = p ∧ pb = l ∧ pj = nx ∧ last' = last ∧ bs' = bs.set l { bAt bs l with next := (nx : Int) + 1 }) ∨
     (e = 30 ∧ c'.off = true ∧ ¬ c.after < 0 ∧ (∃ m, pgAt v nx = andP m blankP p) ∧ Later c' n k q.n (upV V l v)))) ∨
  (NoRoom V bs last ∧ ((e = 40 ∧ toU bs nb < 0 ∧ t' = t ∧ c' = c ∧ last' = last ∧ bs'.length = nb ∧ Others bs bs' nb last (-1)) ∨
    (FrA c c' ∧ bs'.length = nb ∧ ∃ (to : Nat) (v : Blk), toU bs nb = to ∧
      ((e = 0 ∧ DV c' t' n k (upV V to v) ∧ Acc q c' t' ∧ pb = to ∧ pj = 2 ∧ last' = to ∧ v.next = 3 ∧ pgAt v 2 = p ∧ pgAt v 1 = headP (seqN bs last) ∧ pgAt v 0 = wearP (bAt bs to).wear ∧ bAt bs' to = ⟨(bAt bs to).wear, true, seqN bs last, false, 3⟩ ∧ Others bs bs' nb last to) ∨
       (e = 30 ∧ c'.off = true ∧ ¬ c.after < 0 ∧ Later c' n k q.n (upV V to v) ∧ (BegB (V to) v (bAt bs to) (seqN bs last) ∨ (v.next = 3 ∧ pgAt v 1 = headP (seqN bs last) ∧ ∃ m, pgAt v 2 = andP m blankP p)))))))
/-- The last segment's next page is another one. -/
def bsN (bs : List LB) (last : Int) (nx : Nat) : List LB := if 0 ≤ last then bs.set last.toNat { bAt bs last.toNat with next := (nx : Int) } else bs
theorem bsN_len (bs : List LB) (last : Int) (nx : Nat) : (bsN bs last nx).length = bs.length := by unfold bsN; split <;> simp
theorem bsN_at {bs : List LB} {last : Int} {nx j : Nat} (hl : last < bs.length) : bAt (bsN bs last nx) j = if last = j then { bAt bs j with next := (nx : Int) } else bAt bs j := by
  unfold bsN
  split
  · rw [bAt_set (by omega)]
    by_cases e : j = last.toNat
    · rw [if_pos e, if_pos (by omega), e]
    · rw [if_neg e, if_neg (by omega)]
  · rw [if_neg (by omega)]
theorem bsN_seq {bs : List LB} {last : Int} {nx j : Nat} (hl : last < bs.length) : (bAt (bsN bs last nx) j).seq = (bAt bs j).seq ∧ (bAt (bsN bs last nx) j).wear = (bAt bs j).wear ∧ (bAt (bsN bs last nx) j).ready = (bAt bs j).ready ∧ (bAt (bsN bs last nx) j).known = (bAt bs j).known := by
  rw [bsN_at hl]
  split <;> exact ⟨rfl, rfl, rfl, rfl⟩
theorem toU_bsN {bs : List LB} {last : Int} {nx : Nat} (hl : last < bs.length) : ∀ k, toU (bsN bs last nx) k = toU bs k
  | 0 => rfl
  | k + 1 => by
    unfold toU
    rw [toU_bsN hl k, (bsN_seq hl).1, (bsN_seq hl).2.1, (bsN_seq hl).2.1]
theorem seqN_bsN {bs : List LB} {last : Int} {nx : Nat} (hl : last < bs.length) : seqN (bsN bs last nx) last = seqN bs last := by
  unfold seqN
  rw [(bsN_seq hl).1]
theorem bsN_set {bs : List LB} {l nx : Nat} (m : Int) (hl : l < bs.length) : (bsN bs l nx).set l { bAt (bsN bs l nx) l with next := m } = bs.set l { bAt bs l with next := m } := by
  rw [bsN_at (by omega), if_pos rfl]
  unfold bsN
  rw [if_pos (by omega), Int.toNat_natCast, List.set_set]
/-- Ahead of a page's writing. -/
def AppJ (n nb k : Nat) (q : Qt) (V : Nat → Blk) (bs : List LB) (last : Int) (nx : Nat) (c : Chip) (t : TS) (t1 : TS) (c1 : Chip) (bs1 : List LB) (bn jn : Nat) (V1 : Nat → Blk) : Prop :=
  bs1.length = nb ∧ FrA c c1 ∧ DV c1 t1 n k V1 ∧ Acc q c1 t1 ∧ bn < nb ∧ jn < 8 ∧ (bAt bs1 bn).next = jn ∧
  ((last = bn ∧ jn = nx ∧ t1 = t ∧ c1 = c ∧ bs1 = bsN bs last nx ∧ V1 = V) ∨
   (NoRoom V bs last ∧ jn = 2 ∧ toU bs nb = bn ∧ bAt bs1 bn = ⟨(bAt bs bn).wear, true, seqN bs last, false, 2⟩ ∧ Others bs bs1 nb last bn ∧ ∃ w, V1 = upV V bn w ∧ w.next = 2 ∧ pgAt w 1 = headP (seqN bs last) ∧ pgAt w 0 = wearP (bAt bs bn).wear))
theorem keptP {v w : Blk} {j i : Nat} (h : Kept v w j) (hi : i < j) (h8 : i < 8) : pgAt v i = pgAt w i ∨ pgAt v i = mendP (pgAt w i) := by
  have := h i h8 hi
  rwa [← pgAt_in (v := v) h8, ← pgAt_in (v := w) h8] at this
section
variable {n nb k : Nat} {q : Qt} {nx bn jn : Nat} {V V1 : Nat → Blk} {bs bs1 : List LB} {last e : Int} {c c1 c2 : Chip} {t t1 t2 : TS} {p : Pg}
theorem app_ok (hl : bs.length = nb) (hJ : AppJ n nb (k + 60) q V bs last nx c t t1 c1 bs1 bn jn V1) (g1 : 0 ≤ last → (bAt bs last.toNat).next ≤ nx) (hW : WriteR n (k + 60 + 20) q V1 bn jn p c1 t1 0 t2 c2) :
    AppR n nb (k + 80) q V bs last p c t (bs1.set bn { bAt bs1 bn with next := (jn : Int) + 1 }) bn 0 bn jn t2 c2 := by
  obtain ⟨hb1, hF1, hD1, hacc1, hbn, hjn, hnx, hph⟩ := hJ
  obtain ⟨hF2, hW⟩ := hW
  obtain ⟨hn2, v, hv1, hv2, hv3⟩ := hW.resolve_left (fun h9 => absurd h9.1 (by decide))
  obtain ⟨_, hD2, hacc2, hp⟩ := hv3.resolve_right (fun h9 => absurd h9.1 (by decide))
  rcases hph with ⟨h1, rfl, rfl, rfl, rfl, rfl⟩ | ⟨h1, rfl, h2, h3, h4, w, rfl, h5, h6, h7⟩
  · subst h1
    have hg := g1 (by omega)
    rw [Int.toNat_natCast] at hg
    exact .inl ⟨bn, jn, rfl, hg, hjn, hn2, hF2, v, hv1, hv2, .inl ⟨rfl, hD2, hacc2, hp, rfl, rfl, rfl, bsN_set _ (by omega)⟩⟩
  · rw [upV_at] at hv2
    rw [upV_up] at hD2
    have k0 := keptP hv2 (i := 0) (by omega) (by omega)
    have k1 := keptP hv2 (i := 1) (by omega) (by omega)
    rw [h7, mend_num (by decide)] at k0
    rw [h6, mend_num (by decide)] at k1
    refine .inr ⟨h1, .inr ⟨hF1.trans hF2, by rw [List.length_set]; exact hb1, bn, v, h2, .inl ⟨rfl, hD2, hacc2, rfl, rfl, rfl, hv1, hp, by rcases k1 with e | e <;> exact e, by rcases k0 with e | e <;> exact e, ?_, fun j hj hne => ?_⟩⟩⟩
    · rw [bAt_set (by omega), if_pos rfl, h3]
      rfl
    · rw [bAt_set (by omega), if_neg (by omega)]
      exact h4 j hj hne
theorem app_down (hl : bs.length = nb) (hJ : AppJ n nb (k + 60) q V bs last nx c t t1 c1 bs1 bn jn V1) (g1 : 0 ≤ last → (bAt bs last.toNat).next ≤ nx) (hW : WriteR n (k + 60 + 20) q V1 bn jn p c1 t1 e t2 c2) (h0 : e ≠ 0) (h32 : e ≠ 32) :
    AppR n nb (k + 80) q V bs last p c t bs1 bn e 0 0 t2 c2 := by
  obtain ⟨hb1, hF1, hD1, hacc1, hbn, hjn, hnx, hph⟩ := hJ
  obtain ⟨hF2, hW⟩ := hW
  obtain ⟨hn2, v, hv1, hv2, hv3⟩ := hW.resolve_left (fun h9 => h32 h9.1)
  obtain ⟨r1, r2, r3, r4, r5⟩ := hv3.resolve_left (fun h9 => h0 h9.1)
  rcases hph with ⟨h1, rfl, rfl, rfl, rfl, rfl⟩ | ⟨h1, rfl, h2, h3, h4, w, rfl, h5, h6, h7⟩
  · subst h1
    have hg := g1 (by omega)
    rw [Int.toNat_natCast] at hg
    exact .inl ⟨bn, jn, rfl, hg, hjn, hn2, hF2, v, hv1, hv2, .inr ⟨r1, r2, r3, r4, r5⟩⟩
  · rw [upV_at] at hv2
    rw [upV_up] at r5
    have k1 := keptP hv2 (i := 1) (by omega) (by omega)
    rw [h6, mend_num (by decide)] at k1
    exact .inr ⟨h1, .inr ⟨hF1.trans hF2, hb1, bn, v, h2, .inr ⟨r1, r2, fun hp => r3 (by rw [(hF1.pos hp).1]; exact hp), r5, .inr ⟨hv1, by rcases k1 with e | e <;> exact e, r4⟩⟩⟩⟩
theorem app_skip (hl : bs.length = nb) (hJ : AppJ n nb (k + 60) q V bs last nx c t t1 c1 bs1 bn jn V1) (hW : WriteR n (k + 60 + 20) q V1 bn jn p c1 t1 32 t2 c2) :
    last = bn ∧ jn = nx ∧ (V bn).next ≠ nx ∧ t2 = t ∧ c2 = c ∧ bs1.set bn { bAt bs1 bn with next := (jn : Int) + 1 } = bsN bs last (nx + 1) := by
  obtain ⟨hb1, hF1, hD1, hacc1, hbn, hjn, hnx, hph⟩ := hJ
  obtain ⟨hF2, hW⟩ := hW
  rcases hW with ⟨_, hn2, rfl, rfl⟩ | ⟨_, v, _, _, hv3⟩
  · rcases hph with ⟨h1, rfl, rfl, rfl, rfl, rfl⟩ | ⟨h1, rfl, h2, h3, h4, w, rfl, h5, h6, h7⟩
    · subst h1
      refine ⟨rfl, rfl, hn2, rfl, rfl, ?_⟩
      rw [bsN_set _ (by omega)]
      unfold bsN
      rw [if_pos (by omega), Int.toNat_natCast]
      congr 2
    · rw [upV_at, h5] at hn2
      exact absurd rfl hn2
  · rcases hv3 with h9 | h9
    · exact absurd h9.1 (by decide)
    · exact absurd h9.1 (by decide)
end
section
variable {d : Dsk} {n k : Nat} {q : Qt} {lg bb nb : Nat} {last : Int} {V : Nat → Blk} {bs : List LB}
theorem append8_fn (h : DD d n k V) (hk : k ≤ 400000) (hq : q.n ≤ 3) (hacc : Acc q d.c d.t.ts) (hnb : nb + 6 = n) (hl : bs.length = nb) (hlr : -1 ≤ last ∧ last < nb)
    (hls : 0 ≤ last → (bAt bs last.toNat).seq.toNat ≠ 0 ∧ 2 ≤ (bAt bs last.toNat).next ∧ (bAt bs last.toNat).next ≤ 8) (hrdy : RdyI V bs nb) {kind : By} {qs : Sl (Sl By)} (hj : (joinB qs.list).length ≤ 70000000000000) :
    Does Tryz.prog 10 [ptr lg, bv kind, qs.val] ((lg, true, C (lgC d.dk bb nb last) tLg) :: (bb, true, C (lbs bs) tLB) :: (dkH d ++ (qs.hp tSB ++ (partsH qs.list ++ []))))
    (fun v H => ∃ (t' : Tab) (c' : Chip) (bs' : List LB) (last' e pb pj : Int), v = .tuple #[.agg #[.int .i64 pb, .int .i64 pj], .int .i64 e] ∧ H = (lg, true, C (lgC d.dk bb nb last') tLg) :: (bb, true, C (lbs bs') tLB) :: (dkH ⟨d.dk, t', c'⟩ ++ []) ∧
      (((kind.toNat ≤ 3 ∨ wrong kind (joinB qs.list) = true) ∧ e = 1 ∧ pb = 0 ∧ pj = 0 ∧ t' = d.t ∧ c' = d.c ∧ bs' = bs ∧ last' = last) ∨
       (3 < kind.toNat ∧ wrong kind (joinB qs.list) = false ∧ AppR n nb (k + 80) q V bs last (pageW kind (joinB qs.list)) d.c d.t.ts bs' last' e pb pj t'.ts c'))) := by
  have hn40 := h.di.wf.n2
  refine fn_enter (n := 100) Tryz.func10 Tryz.ntmps10 rfl (Nat.le_of_ble_eq_true rfl) <| s_seq <| s_region0 fun ops => ?_
  refine o_alloc rfl fun b6 => ?_
  refine oA rfl <| o_nil <| n_K <| s_seq <| s_region0 fun ops => oM rfl <| oM rfl ?_
  refine c_is rfl (write_page (kind := kind) (q := qs) hj) sP rfl aQ ?_
  refine oM rfl <| oE rfl rfl <| oE rfl rfl ?_
  refine o_alloc rfl fun b8 => ?_
  rw [zeroP_eq]
  first | refine o_store rfl rfl uD (vc_vb) (vbc_len) (spl_vb (by first | exact vbc_len | exact List.length_replicate ..)) ?_ | refine o_store rfl rfl uD rfl rfl rfl ?_
  refine oA rfl <| o_nil <| n_K <| s_seq <| s_seq ?_
  refine s_region [(2, 22)] rfl fun ops y => ?_
  refine oM rfl <| oR (rd_bin rfl rfl rfl) <| oM rfl ?_
  refine' o_or (j := 2) (k := 2) y rfl rfl rfl rfl rfl rfl rfl (fun hg22 => ?_) ?_
  rotate_left
  · try (simp at hg22; show _)
    refine o_g y rfl rfl ?_
    refine oM rfl ?_
    refine o_g y rfl rfl ?_
    refine oR (rd_bin rfl rfl rfl) ?_
    exact o_nil ⟨rfl, rfl, ⟨_, sP⟩⟩
  refine o_nil <| n_K ?_
  refine s_cond rfl (fun c25 => ?_) (fun c25 => ?_)
  · skip
    have hbad : kind.toNat ≤ 3 ∨ wrong kind (joinB qs.list) = true := (by simp at c25; rcases c25 with h9 | h9; exact .inl (by omega); right; cases hw : wrong kind (joinB qs.list); (exfalso; apply h9; unfold writeF; rw [hw]; rfl); rfl)
    refine s_seq <| s_region0 fun ops => oR (rd_build_s rfl rfl) ?_
    refine o_store rfl rfl uD rfl rfl rfl ?_
    refine oA rfl <| o_nil <| n_K <| s_ret <| r_K ?_
    exact leaf_r (rets2 Tryz.results10 (rv_cell rfl mM rfl) (rv_tmp rfl)) (by exact ⟨d.t, d.c, bs, last, 1, 0, 0, rfl, rfl, .inl ⟨hbad, rfl, rfl, rfl, rfl, rfl, rfl, rfl⟩⟩) sP
  · skip
    have hgood : 3 < kind.toNat ∧ wrong kind (joinB qs.list) = false := (by simp at c25; refine ⟨by omega, ?_⟩; cases hw : wrong kind (joinB qs.list); rfl; (exfalso; have h9 := c25.2; unfold writeF at h9; rw [hw] at h9; simp at h9))
    have hwf : (writeF kind (joinB qs.list)).1 = pageW kind (joinB qs.list) := (by unfold writeF; rw [hgood.2]; rfl)
    obtain ⟨x0, hx0⟩ : ∃ x0 : Nat, x0 ≤ 8 ∧ (0 ≤ last → (bAt bs last.toNat).next = x0) := (by by_cases h9 : 0 ≤ last; (have := hls h9; exact ⟨(bAt bs last.toNat).next.toNat, by omega, fun _ => by omega⟩); exact ⟨0, by omega, fun h8 => absurd h8 h9⟩)
    have hbs0 : bsN bs last x0 = bs := (by apply bs_ext (bsN_len ..); intro j hj9; rw [bsN_at (by omega)]; split; (rename_i h9; have h8 := hx0.2 (by omega); rw [show last.toNat = j by omega] at h8; rw [← h8]); rfl)
    refine s_skip <| n_K <| s_block ?_
    refine s_loop2 [0, 6, 8] kQ (fun (st : Nat × Tab) => []) (fun (st : Nat × Tab) => (b8, true, C (vbc (pageW kind (joinB qs.list))) tPg) :: (b6, true, C [.int .i64 0, .int .i64 0] tPc) :: (lg, true, C (lgC d.dk bb nb last) tLg) :: (bb, true, C (lbs (bsN bs last st.1)) tLB) :: (dkH ⟨d.dk, st.2, d.c⟩ ++ [])) (fun (st : Nat × Tab) => st.1 ≤ 8 ∧ (0 ≤ last → (bAt bs last.toNat).next ≤ st.1) ∧ (∀ m : Nat, 0 ≤ last → (bAt bs last.toNat).next ≤ m → m < st.1 → (V last.toNat).next ≠ m) ∧ st.2.ts = d.t.ts) (fun (st : Nat × Tab) => 8 - st.1) ((x0, d.t)) ⟨hx0.1, fun h9 => by rw [hx0.2 h9]; exact Int.le_refl _, fun m h9 h8 h7 => by rw [hx0.2 h9] at h8; simp only at h7; omega, rfl⟩ kP (by rw [hbs0, ← hwf]; exact sP) ?_
    rintro ⟨nx, t0⟩ ⟨g0, g1, g2, g3⟩
    simp only at g0 g1 g2 g3
    have h' : DD ⟨d.dk, t0, d.c⟩ n k V := (by show DV d.c t0.ts n k V; rw [g3]; exact h)
    have hacc' : Acc q d.c t0.ts := (by rw [g3]; exact hacc)
    refine s_block ?_
    refine s_join (fun F L => ∃ (t1 : Tab) (c1 : Chip) (bs1 : List LB) (bn jn : Nat) (V1 : Nat → Blk), F = [(0, ptr lg), (6, ptr b6), (8, ptr b8)] ∧ L = (b8, true, C (vbc (pageW kind (joinB qs.list))) tPg) :: (b6, true, C [.int .i64 0, .int .i64 0] tPc) :: (lg, true, C (lgC d.dk bb nb (bn : Nat)) tLg) :: (bb, true, C (lbs bs1) tLB) :: (dkH ⟨d.dk, t1, c1⟩ ++ []) ∧ AppJ n nb (k + 60) q V bs last nx d.c d.t.ts t1.ts c1 bs1 bn jn V1) ?_ ?_
    · refine s_seq ?_
      refine s_draw [(5, 32)] [(19, [(0, false), (1, false), (2, false), (3, false), (4, false), (5, false), (6, false), (7, false), (8, false), (9, false), (10, false), (11, false), (12, false), (13, false), (14, false), (15, false), (16, false), (17, false), (18, false)])] (by kernel_rfl) rfl fun ops w0 H0 y => ?_
      refine p_all <| xM rfl <| xN rfl <| xF rfl ?_
      refine xR (rd_ld rfl mM rfl) ?_
      refine xR (rd_bin rfl rfl rfl) <| xM rfl ?_
      refine' x_or (j := 5) (k := 12) y rfl rfl rfl rfl rfl rfl rfl (fun hg32 => ?_) ?_
      rotate_left
      · try (simp at hg32; show _)
        refine x_g y rfl rfl ?_
        refine xM rfl ?_
        refine x_g y rfl rfl ?_
        refine xN rfl ?_
        refine x_g y rfl rfl ?_
        refine xF rfl ?_
        refine x_g y rfl rfl ?_
        refine xR (rd_ld rfl mM rfl) ?_
        refine x_g y rfl rfl ?_
        refine xM rfl ?_
        refine x_g y rfl rfl ?_
        refine xN rfl ?_
        refine x_g y rfl rfl ?_
        refine xF rfl ?_
        refine x_g y rfl rfl ?_
        refine xR (rd_ld rfl mM rfl) ?_
        refine x_g y rfl rfl ?_
        refine xR (rd_ixS0 rfl rfl (by omega)) ?_
        refine x_g y rfl rfl ?_
        refine xF rfl ?_
        refine x_g y rfl rfl ?_
        refine xR (show Rd _ _ _ _ (.int .i64 (nx : Nat)) from rd_ld rfl mM (lb_nth (o := 4) (x := { bAt bs last.toNat with next := (nx : Int) }) (by rw [bAt_in (by rw [bsN_len]; omega), bsN_at (by omega), if_pos (by omega)]) (by omega) rfl)) ?_
        refine x_g y rfl rfl ?_
        refine xR (rd_bin rfl rfl rfl) ?_
        exact x_nil ⟨rfl, ⟨_, sP⟩⟩
      refine x_nil <| p_end <| n_K ?_
      refine s_cond rfl (fun c45 => ?_) (fun c45 => ?_)
      · simp only [Bool.or_eq_true, Bool.or_eq_false_iff, decide_eq_true_eq, decide_eq_false_iff_not] at c45
        have hNR : NoRoom V bs last := (by rcases c45 with h9 | h9; exact .inl h9; by_cases h8 : last < 0; exact .inl h8; exact .inr ⟨last.toNat, by omega, fun m h7 h6 => g2 m (by omega) h7 (by omega)⟩)
        refine s_seq <| s_region0 fun ops => oM rfl ?_
        refine c_ex rfl (begin_fn (d := ⟨d.dk, t0, d.c⟩) (bb := bb) (last := last) (bs := bsN bs last nx) h' (by omega) hq hacc' hnb (by rw [bsN_len]; exact hl) hlr (fun h9 => by rw [(bsN_seq (by omega)).1]; exact (hls h9).1) (fun b hb hr => (hrdy b hb (by rw [(bsN_seq (by omega)).2.2.1] at hr; exact hr)).1)) sP rfl fun v47 Y47 h47 => ?_
        obtain ⟨t1, c1, bs1, last1, e1, rfl, rfl, hB⟩ := h47
        unfold BeginR at hB
        rw [toU_bsN (by omega), seqN_bsN (by omega)] at hB
        simp only at hB
        rw [g3] at hB
        refine so_ap aQ ?_
        refine oA rfl <| o_nil <| n_K <| s_seq <| s_region0 fun ops => oM rfl <| oR (rd_bin rfl rfl rfl) <| o_nil <| n_K ?_
        refine s_cond rfl (fun c49 => ?_) (fun c49 => ?_)
        · skip
          have he1 : e1 ≠ 0 := (by simpa using c49)
          refine s_seq <| s_region0 fun ops => oR (rd_build_s rfl rfl) <| oM rfl ?_
          refine o_store rfl rfl uD rfl rfl rfl ?_
          refine oA rfl <| o_nil <| n_K <| s_ret <| r_K <| r_blk <| r_K <| r_blk ?_
          exact leaf_r (rets2 Tryz.results10 (rv_cell rfl mM rfl) (rv_tmp rfl)) (by exact ⟨t1, c1, bs1, last1, e1, 0, 0, rfl, rfl, .inr ⟨hgood.1, hgood.2, .inr ⟨hNR, by rcases hB with ⟨h9, h8, h7, h6, h5, h4⟩ | ⟨h9, h8, tn, w, h7, h6⟩; (exact .inl ⟨h9, h8, h5, h4, h6, by rw [h7, bsN_len]; exact hl, fun j hj9 hne => by rw [h7, bsN_at (by omega)]; split; (rename_i h3; by_cases h2 : nx = 8; (subst h2; exact .inr ⟨h3, rfl⟩); (exfalso; rcases c45 with h0 | h0 <;> omega)); exact .inl rfl⟩); (obtain ⟨r1, r2, r3, r4, r5⟩ := h6.resolve_left (fun h5 => he1 h5.1); exact .inr ⟨h8, h9, tn, w, h7, .inr ⟨r1, r2, r3, fun d a1 a2 a3 a4 => (by obtain ⟨x0, x1, x2, x3⟩ := r4 d a1 a2 a3 a4; exact ⟨x0, x1, x2.mono (by omega), x3⟩), .inl (by unfold BegB at r5 ⊢; rw [(bsN_seq (by omega)).2.1, (bsN_seq (by omega)).2.2.1] at r5; exact r5)⟩⟩)⟩⟩⟩) sP
        · skip
          have he1 : e1 = 0 := (by simpa using c49)
          have hB2 := hB.resolve_left (fun h9 => by rw [he1] at h9; exact absurd h9.1 (by decide))
          obtain ⟨hb1, hF1, tn, w, htn, hB3⟩ := hB2
          obtain ⟨_, hD1, hacc1, rfl, hoth, kn, hbt, hbg⟩ := hB3.resolve_right (fun h9 => by rw [he1] at h9; exact absurd h9.1 (by decide))
          have htl : tn < nb := (by have := toU_rng bs nb; omega)
          have hp0 : kn = true ∧ pgAt w 0 = wearP (bAt bs tn).wear := (by unfold Begun at hbg; rw [(bsN_seq (by omega)).2.1, (bsN_seq (by omega)).2.2.1, (bsN_seq (by omega)).2.2.2] at hbg; rcases hbg.2.2 with h9 | ⟨h9, h8, h7⟩; exact h9; (obtain ⟨_, h6, h5⟩ := hrdy tn htl h9; refine ⟨h8.trans h6, ?_⟩; rw [h5] at h7; rcases h7 with h7 | h7; exact h7; rw [h7, mend_num (by decide)]))
          have hbt2 : bAt bs1 tn = ⟨(bAt bs tn).wear, true, seqN bs last, false, 2⟩ := (by rw [hbt, hp0.1, (bsN_seq (by omega)).2.1])
          have hoB : Others bs bs1 nb last tn := (fun j hj9 hne => by rw [hoth j hj9 (by omega), bsN_at (by omega)]; split; (rename_i h9; by_cases h8 : nx = 8; (subst h8; exact .inr ⟨h9, rfl⟩); (exfalso; rcases c45 with h7 | h7 <;> omega)); exact .inl rfl)
          have hJB : AppJ n nb (k + 60) q V bs last nx d.c d.t.ts t1.ts c1 bs1 tn 2 (upV V tn w) := ⟨hb1, hF1, hD1, hacc1, htl, by omega, by rw [hbt2]; rfl, .inr ⟨hNR, rfl, htn, hbt2, hoB, w, rfl, hbg.1, hbg.2.1, hp0.2⟩⟩
          refine s_skip <| n_K ?_
          first | exact ⟨_, _, ⟨t1, c1, bs1, tn, 2, upV V tn w, rfl, rfl, hJB⟩, jZ⟩ | exact ⟨_, _, ⟨t0, d.c, bsN bs last nx, l, nx, V, rfl, rfl, hJA⟩, (by rw [← hll]; exact jZ)⟩
      · simp only [Bool.or_eq_true, Bool.or_eq_false_iff, decide_eq_true_eq, decide_eq_false_iff_not] at c45
        obtain ⟨l, hll⟩ : ∃ l : Nat, last = l := ⟨last.toNat, by omega⟩
        have hJA : AppJ n nb (k + 60) q V bs last nx d.c d.t.ts t0.ts d.c (bsN bs last nx) l nx V := ⟨by rw [bsN_len]; exact hl, .refl _, DV.mono h' (by omega), hacc', by omega, by omega, by rw [bsN_at (by omega), if_pos hll], .inl ⟨hll, rfl, g3, rfl, rfl, rfl⟩⟩
        refine s_skip <| n_K ?_
        first | exact ⟨_, _, ⟨t1, c1, bs1, tn, 2, upV V tn w, rfl, rfl, hJB⟩, jZ⟩ | exact ⟨_, _, ⟨t0, d.c, bsN bs last nx, l, nx, V, rfl, rfl, hJA⟩, (by rw [← hll]; exact jZ)⟩
    · rintro F L ⟨t1, c1, bs1, bn, jn, V1, rfl, rfl, hJ⟩
      obtain ⟨hb1, hF1, hD1, hacc1, hbn, hjn, hnx, hph⟩ := id hJ
      refine s_seq ?_
      refine s_draw [] [(10, [(0, false), (1, false), (2, false), (3, false), (4, false), (5, false), (6, false), (7, false), (8, false), (9, false)])] (by kernel_rfl) rfl fun ops w0 H0 y => ?_
      refine p_all <| xM rfl <| xN rfl <| xF rfl ?_
      refine xR (rd_ld rfl mM rfl) ?_
      refine xM rfl <| xN rfl <| xF rfl ?_
      refine xR (rd_ld rfl mM rfl) ?_
      refine xR (rd_ixS0 rfl rfl (by omega)) ?_
      refine xA rfl <| x_nil <| p_end <| n_K <| s_seq <| s_region0 fun ops => oM rfl <| oN rfl <| oF rfl ?_
      refine oR (show Rd _ _ _ _ (.int .i64 (jn : Nat)) from (by rw [← hnx]; exact rd_ld rfl mM (by simp only [Int.toNat_natCast]; exact lb_nth (o := 4) (bAt_in (by omega)) (by omega) rfl))) ?_
      refine oA rfl <| o_nil <| n_K <| s_seq ?_
      refine s_draw [] [(7, [(0, false), (1, false), (2, false), (3, false), (4, false), (5, false), (6, false)]), (8, [(7, true)]), (9, [(8, false)])] (by kernel_rfl) rfl fun ops w0 H0 y => ?_
      refine p_all <| xM rfl <| xM rfl <| xN rfl <| xF rfl ?_
      refine xR (rd_ld rfl mM rfl) ?_
      refine xM rfl ?_
      refine xR (rd_ldA rfl mM (by first | exact cut_vb | rfl)) ?_
      refine x_nil <| p_none <| x_so ?_
      refine c_ex rfl (lwrite_fn (d := ⟨d.dk, t1, c1⟩) (bb := bb) (nb := nb) (last := (bn : Nat)) hD1 (by omega) hq hacc1 (b := bn) (j := jn) (p := pageW kind (joinB qs.list)) (by omega) hjn) sP rfl fun v72 Y72 h72 => ?_
      obtain ⟨t2, c2, e, rfl, rfl, hW⟩ := h72
      have hgb : bs1[bn]? = some (bAt bs1 bn) := bAt_in (by omega)
      refine so_ap aQ ?_
      refine o_nil ⟨rfl, ⟨_, sP⟩, ?_⟩
      refine x_nil <| p_all <| xA rfl <| x_nil <| p_end <| n_K <| s_seq <| s_region0 fun ops => oM rfl <| o_nil <| n_K <| s_block <| s_seq <| s_region0 fun ops => ?_
      refine oR (rd_bin rfl rfl rfl) <| oA rfl <| o_nil <| n_K ?_
      refine s_cond rfl (fun c76 => ?_) (fun c76 => ?_)
      · skip
        have he0 : e = 0 := (by simpa using c76)
        subst he0
        have hA := app_ok hl hJ g1 hW
        refine s_seq <| s_region0 fun ops => oM rfl <| oN rfl <| oF rfl ?_
        refine oR (show Rd _ _ _ _ (.int .i64 (jn : Nat)) from (by rw [← hnx]; exact rd_ld rfl mM (lb_nth (o := 4) hgb (by omega) rfl))) ?_
        refine oR (rd_add64 rfl rfl (by omega)) ?_
        refine oN rfl <| oF rfl ?_
        refine o_store (cs' := lbs (bs1.set bn { bAt bs1 bn with next := (jn : Int) + 1 })) rfl rfl uD rfl rfl (lb_set (o := 4) hgb rfl) ?_
        refine o_nil <| n_K <| s_seq <| s_region0 fun ops => oM rfl <| oN rfl <| oF rfl ?_
        refine oR (rd_ld rfl mM rfl) ?_
        refine oM rfl <| oR (rd_build_s rfl rfl) ?_
        refine o_store rfl rfl uD rfl rfl rfl ?_
        refine oA rfl <| o_nil <| n_K <| s_ret <| r_blk <| r_blk <| r_K <| r_blk ?_
        exact leaf_r (rets2 Tryz.results10 (rv_cell rfl mM rfl) (rv_tmp rfl)) (by exact ⟨t2, c2, _, _, 0, bn, jn, rfl, rfl, .inr ⟨hgood.1, hgood.2, hA⟩⟩) sP
      · skip
        have he0 : e ≠ 0 := (by simpa using c76)
        refine s_seq <| s_region0 fun ops => oR (rd_bin rfl rfl rfl) <| oA rfl <| o_nil <| n_K ?_
        refine s_cond rfl (fun c91 => ?_) (fun c91 => ?_)
        · skip
          have he32 : e = 32 := (by simpa using c91)
          subst he32
          obtain ⟨s1, s2, s3, s4, s5, s6⟩ := app_skip hl hJ hW
          refine s_region0 fun ops => oM rfl <| oN rfl <| oF rfl ?_
          refine oR (show Rd _ _ _ _ (.int .i64 (jn : Nat)) from (by rw [← hnx]; exact rd_ld rfl mM (lb_nth (o := 4) hgb (by omega) rfl))) ?_
          refine oR (rd_add64 rfl rfl (by omega)) ?_
          refine oN rfl <| oF rfl ?_
          refine o_store (cs' := lbs (bs1.set bn { bAt bs1 bn with next := (jn : Int) + 1 })) rfl rfl uD rfl rfl (lb_set (o := 4) hgb rfl) ?_
          refine o_nil <| n_blk <| n_blk <| n_K ?_
          exact ⟨(nx + 1, t2), ⟨by simp only; omega, fun h9 => (by simp only; have := g1 h9; omega), fun m h9 h8 h7 => (by by_cases e9 : m = nx; (subst e9; rw [s1, Int.toNat_natCast]; exact s3); exact g2 m h9 h8 (by simp only at h7; omega)), s4⟩, (by simp only; omega), kP, kP, _, (by simp only; rw [← s6, ← s5, s1]; exact sP)⟩
        · skip
          have he32 : e ≠ 32 := (by simpa using c91)
          have hA := app_down hl hJ g1 hW he0 he32
          refine s_seq <| s_region0 fun ops => oR (rd_build_s rfl rfl) <| oM rfl ?_
          refine o_store rfl rfl uD rfl rfl rfl ?_
          refine oA rfl <| o_nil <| n_K <| s_ret <| r_blk <| r_blk <| r_K <| r_blk ?_
          exact leaf_r (rets2 Tryz.results10 (rv_cell rfl mM rfl) (rv_tmp rfl)) (by exact ⟨t2, c2, bs1, _, e, 0, 0, rfl, rfl, .inr ⟨hgood.1, hgood.2, hA⟩⟩) sP
end
end Go.Proofs.YtkfcpjohblddmaaGreat
end
section
/- Walks of package chiplog: a record is got; blocks are dropped, and counted; bits that must be mended. -/
namespace Go.Proofs.YtkfcpjohblddmaaGreat
open Go.K
set_option linter.unusedVariables false
set_option linter.unusedSimpArgs false
instance fld26_0 : Fld Tryz.prog 26 0 0 := ⟨⟨_, _, 0, Tryz.underlying26, rfl, by kernel_rfl, rfl⟩⟩
instance fld26_1 : Fld Tryz.prog 26 1 1 := ⟨⟨_, _, 0, Tryz.underlying26, rfl, by kernel_rfl, rfl⟩⟩
instance ent12 : Ent Tryz.prog 12 := ⟨fun _ _ => by kernel_rfl⟩
instance ent15 : Ent Tryz.prog 15 := ⟨fun _ _ => by kernel_rfl⟩
instance ent20 : Ent Tryz.prog 20 := ⟨fun _ _ => by kernel_rfl⟩
instance ent31 : Ent Tryz.prog 31 := ⟨fun _ _ => by kernel_rfl⟩
set_option maxRecDepth 20000
set_option maxHeartbeats 1000000
/-- What getting a page tells. -/
def getF (p : Pg) : By × List By × Int × Int := if (readF p).2.2.2 = 0 ∧ (readF p).1.toNat ≤ 3 then (0, [], 0, 20) else readF p
section
variable {d : Dsk} {n k : Nat} {q : Qt} {lg bb nb : Nat} {last : Int} {V : Nat → Blk} {bs : List LB}
theorem get_fn (h : DD d n k V) {b j : Nat} (hb : b + 6 < n) (hj : j < 8) : Does Tryz.prog 31 [ptr lg, .agg #[.int .i64 (b : Nat), .int .i64 (j : Nat)]] ((lg, true, C (lgC d.dk bb nb last) tLg) :: (dkH d ++ []))
    (fun v H => ∃ s : Sl By, v = .tuple #[bv (getF (pgAt (V b) j)).1, s.val, .int .i64 (getF (pgAt (V b) j)).2.2.1, .int .i64 (getF (pgAt (V b) j)).2.2.2] ∧ H = s.hp tU8 ++ ((lg, true, C (lgC d.dk bb nb last) tLg) :: (dkH d ++ [])) ∧ s.list = (getF (pgAt (V b) j)).2.1 ∧ s.isOwn = true) := by
  have hrd := dread_pg h hb hj
  refine fn_enter (n := 45) Tryz.func31 Tryz.ntmps31 rfl (Nat.le_of_ble_eq_true rfl) <| s_seq <| s_region0 fun ops => ?_
  refine o_box rfl rfl fun b3 => ?_
  refine oA rfl <| oA rfl <| oA rfl <| oA rfl <| o_nil <| n_K <| s_seq ?_
  refine s_drawT [] [(14, (.fork [(0, false), (1, false), (2, false), (3, false), (4, false), (5, false), (6, false), (7, false)] 8 (.one [(9, false), (10, false), (11, false), (12, true), (13, true)]) 12 (.one [(8, true), (9, false), (10, false), (11, false), (13, true)]))), (15, (.one [(14, false)]))] (by kernel_rfl) rfl fun ops w0 H0 y => ?_
  refine pt_all ?_
  refine t_fork ?_ rfl
  refine xM rfl <| xN rfl <| xF rfl ?_
  refine xR (rd_ld rfl mM rfl) ?_
  refine xF rfl ?_
  refine xR (rd_ld rfl mM rfl) ?_
  refine xF rfl ?_
  refine xR (rd_ld rfl mM rfl) ?_
  refine x_nil ⟨⟨_, sP⟩, ?_, ?_⟩
  refine x_so ?_
  refine c_is rfl ((dk_read (d := d) (b := (b : Nat)) (k := (j : Nat))).to (by rw [hrd.1, hrd.2]) rfl) sP rfl aQ ?_
  refine o_nil ⟨rfl, ⟨_, sP⟩, ?_⟩
  refine x_nil ?_
  refine t_one ?_
  refine xM rfl <| xE rfl rfl <| xE rfl rfl <| x_so ?_
  refine o_alloc rfl fun b8 => ?_
  rw [zeroP_eq]
  refine o_nil ⟨rfl, ⟨_, sP⟩, ?_⟩
  refine x_so ?_
  first | refine o_store rfl rfl uD (vc_vb) (vbc_len) (spl_vb (by first | exact vbc_len | exact List.length_replicate ..)) ?_ | refine o_store rfl rfl uD rfl rfl rfl ?_
  refine o_nil ⟨rfl, ⟨_, sP⟩, ?_⟩
  refine x_nil ?_
  rotate_left
  refine x_so ?_
  refine o_alloc rfl fun b8 => ?_
  rw [zeroP_eq]
  refine o_nil ⟨rfl, ⟨_, sP⟩, ?_⟩
  refine x_nil ?_
  refine t_one ?_
  refine x_so ?_
  refine c_is rfl ((dk_read (d := d) (b := (b : Nat)) (k := (j : Nat))).to (by rw [hrd.1, hrd.2]) rfl) sP rfl aQ ?_
  refine o_nil ⟨rfl, ⟨_, sP⟩, ?_⟩
  refine xM rfl <| xE rfl rfl <| xE rfl rfl <| x_so ?_
  first | refine o_store rfl rfl uD (vc_vb) (vbc_len) (spl_vb (by first | exact vbc_len | exact List.length_replicate ..)) ?_ | refine o_store rfl rfl uD rfl rfl rfl ?_
  refine o_nil ⟨rfl, ⟨_, sP⟩, ?_⟩
  refine x_nil ?_
  rotate_left
  all_goals
    refine pt_all ?_
    refine t_one ?_
    refine xA rfl <| x_nil ?_
    refine pt_end ?_
    refine n_K <| s_seq <| s_seq <| s_region0 fun ops => oM rfl <| oR (rd_bin rfl rfl rfl) <| o_nil <| n_K ?_
    refine s_condF rfl ?_
    refine s_skip <| n_K <| s_seq <| s_region0 fun ops => ?_
    refine oR (rd_ldA rfl mM (by first | exact cut_vb | rfl)) ?_
    refine c_ex rfl (fread_fn (p := pgAt (V b) j)) sP rfl fun v30 Y30 h30 => ?_
    obtain ⟨s, rfl, rfl, hs, ho⟩ := h30
    refine so_ap aQ ?_
    refine oM rfl <| oE rfl rfl <| oE rfl rfl <| oE rfl rfl <| oE rfl rfl <| oA rfl <| oA rfl <| oA rfl <| oA rfl <| o_nil <| n_K <| s_seq <| s_seq ?_
    refine s_region [(2, 37)] rfl fun ops y => ?_
    refine oM rfl <| oR (rd_bin rfl rfl rfl) <| oM rfl ?_
    refine' o_and (j := 2) (k := 2) y rfl rfl rfl rfl rfl rfl rfl (fun hg37 => ?_) ?_
    rotate_left
    · try (simp at hg37; show _)
      refine o_g y rfl rfl ?_
      refine oM rfl ?_
      refine o_g y rfl rfl ?_
      refine oR (rd_bin rfl rfl rfl) ?_
      exact o_nil ⟨rfl, rfl, ⟨_, sP⟩⟩
    refine o_nil <| n_K ?_
    refine s_cond rfl (fun c40 => ?_) (fun c40 => ?_)
    · simp only [Bool.and_eq_true, Bool.and_eq_false_iff, decide_eq_true_eq, decide_eq_false_iff_not] at c40
      have hg : getF (pgAt (V b) j) = (0, [], 0, 20) := (by unfold getF; rw [if_pos ⟨c40.1, by omega⟩])
      refine s_seq <| s_region0 fun ops => oA rfl <| oA rfl <| oA rfl <| oA rfl <| o_nil <| n_K <| s_ret <| r_K ?_
      exact leaf_r (rets4 Tryz.results31 (rv_tmp rfl) (rv_tmp rfl) (rv_tmp rfl) (rv_tmp rfl)) (by exact ⟨Sl.nil, by rw [hg]; rfl, rfl, by rw [hg]; rfl, rfl⟩) (by rw [Sl.hp_nil, List.nil_append]; exact sP)
    · simp only [Bool.and_eq_true, Bool.and_eq_false_iff, decide_eq_true_eq, decide_eq_false_iff_not] at c40
      have hg : getF (pgAt (V b) j) = readF (pgAt (V b) j) := (by unfold getF; rw [if_neg (by rintro ⟨h1, h2⟩; rcases c40 with h3 | h3; exact h3 h1; omega)])
      refine s_skip <| n_K <| s_seq <| s_region0 fun ops => oM rfl <| oM rfl <| oM rfl <| oM rfl <| oA rfl <| oA rfl <| oA rfl <| oA rfl <| o_nil <| n_K ?_
      refine s_ret ?_
      exact leaf_r (rets4 Tryz.results31 (rv_tmp rfl) (rv_tmp rfl) (rv_tmp rfl) (rv_tmp rfl)) (by exact ⟨s, by rw [hg], rfl, by rw [hg]; exact hs, ho⟩) sP
theorem shut_fn (hl : bs.length = nb) (hlr : -1 ≤ last ∧ last < nb) : Does Tryz.prog 20 [ptr lg] ((lg, true, C (lgC d.dk bb nb last) tLg) :: (bb, true, C (lbs bs) tLB) :: [])
    (Is (.tuple #[]) ((lg, true, C (lgC d.dk bb nb last) tLg) :: (bb, true, C (lbs (bsN bs last 8)) tLB) :: [])) := by
  refine fn_enter (n := 17) Tryz.func20 Tryz.ntmps20 rfl (Nat.le_of_ble_eq_true rfl) <| s_seq <| s_region0 fun ops => oM rfl <| oN rfl <| oF rfl ?_
  refine oR (rd_ld rfl mM rfl) ?_
  refine oR (rd_bin rfl rfl rfl) <| o_nil <| n_K ?_
  refine s_cond rfl (fun c6 => ?_) (fun c6 => ?_)
  · simp only [decide_eq_true_eq, decide_eq_false_iff_not] at c6
    have hbe : bsN bs last 8 = bs.set last.toNat { bAt bs last.toNat with next := 8 } := (by unfold bsN; rw [if_pos c6]; rfl)
    refine s_draw [] [(10, [(0, false), (1, false), (2, false), (3, false), (4, false), (5, false), (6, false), (7, false), (8, false), (9, false)]), (11, [(10, true)])] (by kernel_rfl) rfl fun ops w0 H0 y => ?_
    refine p_all <| xM rfl <| xN rfl <| xF rfl ?_
    refine xR (rd_ld rfl mM rfl) ?_
    refine xM rfl <| xN rfl <| xF rfl ?_
    refine xR (rd_ld rfl mM rfl) ?_
    refine xR (rd_ixS0 rfl rfl (by omega)) ?_
    refine xF rfl <| x_nil <| p_none <| x_so ?_
    refine o_store (cs' := lbs (bs.set last.toNat { bAt bs last.toNat with next := 8 })) rfl rfl uD rfl rfl (lb_set (o := 4) (bAt_in (by omega)) rfl) ?_
    refine o_nil ⟨rfl, ⟨_, sP⟩, ?_⟩
    refine x_nil <| p_end ?_
    refine leaf_isN (ret0 Tryz.results20) ?_ (by rw [hbe]; exact sP)
    rfl
  · simp only [decide_eq_true_eq, decide_eq_false_iff_not] at c6
    have hbe : bsN bs last 8 = bs := (by unfold bsN; rw [if_neg (by omega)])
    refine s_skip ?_
    refine leaf_isN (ret0 Tryz.results20) ?_ (by rw [hbe]; exact sP)
    rfl
def freeN (bs : List LB) : Nat → Nat
  | 0 => 0
  | k + 1 => freeN bs k + (if (bAt bs k).seq.toNat = 0 then 1 else 0)
theorem freeN_le (bs : List LB) : ∀ k, freeN bs k ≤ k
  | 0 => Nat.le_refl _
  | k + 1 => by have := freeN_le bs k; unfold freeN; split <;> omega
theorem free_fn (hl : bs.length = nb) (hn : nb ≤ 1000) : Does Tryz.prog 12 [ptr lg] ((lg, true, C (lgC d.dk bb nb last) tLg) :: (bb, true, C (lbs bs) tLB) :: [])
    (Is (.int .i64 (freeN bs nb : Nat)) ((lg, true, C (lgC d.dk bb nb last) tLg) :: (bb, true, C (lbs bs) tLB) :: [])) := by
  refine fn_enter (n := 21) Tryz.func12 Tryz.ntmps12 rfl (Nat.le_of_ble_eq_true rfl) <| s_seq <| s_region0 fun ops => oA rfl <| o_nil <| n_K <| s_seq <| s_seq <| s_region0 fun ops => oM rfl <| oN rfl <| oF rfl ?_
  refine oR (rd_ld rfl mM rfl) ?_
  refine oR (rd_lenS rfl) <| oM rfl <| o_nil <| n_K <| s_block ?_
  refine s_loop2 [0, 8, 9] kQ (fun (i : Nat) => [(10, .int .i64 i), (2, .int .i64 (freeN bs i : Nat))]) (fun (i : Nat) => (lg, true, C (lgC d.dk bb nb last) tLg) :: (bb, true, C (lbs bs) tLB) :: []) (fun (i : Nat) => i ≤ nb) (fun (i : Nat) => nb - i) (0) (Nat.zero_le _) kP sP ?_
  rintro i g0
  refine s_seq <| s_region0 fun ops => oR (rd_bin rfl rfl rfl) <| o_nil <| n_K <| s_seq ?_
  refine s_cond rfl (fun c11 => ?_) (fun c11 => ?_)
  · simp only [decide_eq_true_eq, decide_eq_false_iff_not] at c11
    have hi : i < nb := (by omega)
    have hgi : bs[i]? = some (bAt bs i) := bAt_in (by omega)
    have hfl := freeN_le bs i
    refine s_skip <| n_K <| s_seq <| s_block <| s_seq <| s_region0 fun ops => ?_
    refine oR (rd_ixS0 rfl rfl (by omega)) ?_
    refine oR (rd_ldA rfl mM (by simp only [Int.toNat_natCast]; exact lb_cut hgi)) ?_
    refine o_alloc rfl fun b4 => ?_
    refine o_store rfl rfl uD rfl rfl rfl ?_
    refine o_nil <| n_K <| s_seq <| s_region0 fun ops => oF rfl ?_
    refine oR (rd_ld rfl mM rfl) ?_
    refine oR (rd_bin rfl rfl rfl) <| o_nil <| n_K ?_
    refine s_cond rfl (fun c16 => ?_) (fun c16 => ?_)
    · simp only [decide_eq_true_eq, decide_eq_false_iff_not] at c16
      have hfT : ((freeN bs (i + 1) : Nat) : Int) = (freeN bs i : Nat) + 1 := (by show ((freeN bs i + (if (bAt bs i).seq.toNat = 0 then 1 else 0) : Nat) : Int) = _; rw [if_pos (by omega)]; omega)
      refine s_region0 fun ops => oM rfl ?_
      refine oR (rd_add64 rfl rfl (by omega)) ?_
      refine oA rfl <| o_nil <| n_blk <| n_K <| s_region0 fun ops => ?_
      refine oR (rd_add64 rfl rfl (by omega)) ?_
      refine oM rfl <| o_nil <| n_K ?_
      first | exact ⟨i + 1, by omega, by omega, (by rw [hfT]; exact kP), kP, _, sP⟩ | exact ⟨i + 1, by omega, by omega, (by rw [hfF]; exact kP), kP, _, sP⟩
    · simp only [decide_eq_true_eq, decide_eq_false_iff_not] at c16
      have hfF : ((freeN bs (i + 1) : Nat) : Int) = (freeN bs i : Nat) := (by show ((freeN bs i + (if (bAt bs i).seq.toNat = 0 then 1 else 0) : Nat) : Int) = _; rw [if_neg (by omega)]; omega)
      refine s_skip <| n_blk <| n_K <| s_region0 fun ops => ?_
      refine oR (rd_add64 rfl rfl (by omega)) ?_
      refine oM rfl <| o_nil <| n_K ?_
      first | exact ⟨i + 1, by omega, by omega, (by rw [hfT]; exact kP), kP, _, sP⟩ | exact ⟨i + 1, by omega, by omega, (by rw [hfF]; exact kP), kP, _, sP⟩
  · simp only [decide_eq_true_eq, decide_eq_false_iff_not] at c11
    have hi : i = nb := (by omega)
    subst hi
    refine s_exit <| x_K <| x_K <| x_blk <| n_K <| s_seq <| s_region0 fun ops => oM rfl <| oA rfl <| o_nil <| n_K <| s_ret ?_
    refine leaf_is (rets1 Tryz.results12 (rv_tmp rfl)) ?_ sP
    rfl
def roomN (bs : List LB) (last : Int) : Int := if last < 0 then 0 else 8 - (bAt bs last.toNat).next
theorem room_fn (hl : bs.length = nb) (hlr : -1 ≤ last ∧ last < nb) (hx : 0 ≤ last → 0 ≤ (bAt bs last.toNat).next ∧ (bAt bs last.toNat).next ≤ 8) : Does Tryz.prog 15 [ptr lg] ((lg, true, C (lgC d.dk bb nb last) tLg) :: (bb, true, C (lbs bs) tLB) :: [])
    (Is (.int .i64 (roomN bs last)) ((lg, true, C (lgC d.dk bb nb last) tLg) :: (bb, true, C (lbs bs) tLB) :: [])) := by
  refine fn_enter (n := 20) Tryz.func15 Tryz.ntmps15 rfl (Nat.le_of_ble_eq_true rfl) <| s_seq <| s_region0 fun ops => oA rfl <| o_nil <| n_K <| s_seq <| s_seq <| s_region0 fun ops => oM rfl <| oN rfl <| oF rfl ?_
  refine oR (rd_ld rfl mM rfl) ?_
  refine oR (rd_bin rfl rfl rfl) <| o_nil <| n_K ?_
  refine s_cond rfl (fun c7 => ?_) (fun c7 => ?_)
  · simp only [decide_eq_true_eq, decide_eq_false_iff_not] at c7
    have hr : roomN bs last = 0 := (by unfold roomN; rw [if_pos c7])
    refine s_seq <| s_region0 fun ops => oA rfl <| o_nil <| n_K <| s_ret <| r_K ?_
    refine leaf_is (rets1 Tryz.results15 (rv_tmp rfl)) ?_ sP
    rw [hr]
  · simp only [decide_eq_true_eq, decide_eq_false_iff_not] at c7
    have hr : roomN bs last = 8 - (bAt bs last.toNat).next := (by unfold roomN; rw [if_neg c7])
    have hxx := hx (by omega)
    refine s_skip <| n_K <| s_seq ?_
    refine s_draw [] [(13, [(0, false), (1, false), (2, false), (3, false), (4, false), (5, false), (6, false), (7, false), (8, false), (9, false), (10, false), (11, false), (12, false)])] (by kernel_rfl) rfl fun ops w0 H0 y => ?_
    refine p_all <| xM rfl <| xN rfl <| xF rfl ?_
    refine xR (rd_ld rfl mM rfl) ?_
    refine xM rfl <| xN rfl <| xF rfl ?_
    refine xR (rd_ld rfl mM rfl) ?_
    refine xR (rd_ixS0 rfl rfl (by omega)) ?_
    refine xF rfl ?_
    refine xR (show Rd _ _ _ _ (.int .i64 (bAt bs last.toNat).next) from rd_ld rfl mM (lb_nth (o := 4) (bAt_in (by omega)) (by omega) rfl)) ?_
    refine xR (rd_sub64 rfl rfl (by omega)) ?_
    refine xA rfl <| x_nil <| p_end <| n_K <| s_ret ?_
    refine leaf_is (rets1 Tryz.results15 (rv_tmp rfl)) ?_ sP
    rw [hr]
/-- How many bits of a block's records must be mended. -/
def mendN (v : Blk) : Nat → Int
  | 0 => 0
  | j + 1 => mendN v j + (if (readF (pgAt v j)).2.2.2 = 0 then (readF (pgAt v j)).2.2.1 else 0)
def segB (bs : List LB) (b : Int) : Bool := decide (0 ≤ b) && decide (b < bs.length) && decide ((bAt bs b.toNat).seq.toNat ≠ 0)
end
end Go.Proofs.YtkfcpjohblddmaaGreat
end
section
/- Walks of package chiplog: bits that must be mended; a block is dropped; a log is made anew. -/
namespace Go.Proofs.YtkfcpjohblddmaaGreat
open Go.K
set_option linter.unusedVariables false
set_option linter.unusedSimpArgs false
instance ent17 : Ent Tryz.prog 17 := ⟨fun _ _ => by kernel_rfl⟩
instance ent19 : Ent Tryz.prog 19 := ⟨fun _ _ => by kernel_rfl⟩
set_option maxRecDepth 20000
set_option maxHeartbeats 1000000
theorem hamFix_num (d : Dat) (chk : Nat) : 0 ≤ (hamFix d chk).2.1 ∧ (hamFix d chk).2.1 ≤ 1 := by
  unfold hamFix
  simp only []
  split
  · exact ⟨by simp, by simp⟩
  · split
    · exact ⟨by simp, by simp⟩
    · split
      · exact ⟨by simp, by simp⟩
      · split <;> exact ⟨by simp, by simp⟩
theorem readF_num (p : Pg) : 0 ≤ (readF p).2.2.1 ∧ (readF p).2.2.1 ≤ 2 := by
  unfold readF
  simp only []
  split
  · exact ⟨by simp, by simp⟩
  · split
    · exact ⟨by simp, by simp⟩
    · split
      · exact ⟨by simp, by simp⟩
      · split
        · exact ⟨by simp, by simp⟩
        · have := hamFix_num (datOf p) (chkOf p)
          simp only
          omega
theorem mendN_le (v : Blk) : ∀ j, 0 ≤ mendN v j ∧ mendN v j ≤ 2 * j
  | 0 => ⟨Int.le_refl _, Int.le_refl _⟩
  | j + 1 => by
    have ih := mendN_le v j
    have := readF_num (pgAt v j)
    unfold mendN
    split <;> omega
theorem segB_in {bs : List LB} {b : Int} (h : segB bs b = true) : (0 ≤ b ∧ b < bs.length) ∧ (bAt bs b.toNat).seq.toNat ≠ 0 := by
  unfold segB at h
  simpa [and_assoc] using h
section
variable {d : Dsk} {n k : Nat} {q : Qt} {lg bb nb : Nat} {last : Int} {V : Nat → Blk} {bs : List LB}
theorem mend_fn (h : DD d n k V) (hnb : nb + 6 = n) (hl : bs.length = nb) {b : Int} : Does Tryz.prog 19 [ptr lg, .int .i64 b] ((lg, true, C (lgC d.dk bb nb last) tLg) :: (bb, true, C (lbs bs) tLB) :: (dkH d ++ []))
    (Is (.tuple #[.int .i64 (if segB bs b = true then mendN (V b.toNat) 8 else 0), .int .i64 (if segB bs b = true then 0 else 1)]) ((lg, true, C (lgC d.dk bb nb last) tLg) :: (bb, true, C (lbs bs) tLB) :: (dkH d ++ []))) := by
  refine fn_enter (n := 65) Tryz.func19 Tryz.ntmps19 rfl (Nat.le_of_ble_eq_true rfl) <| s_seq <| s_region0 fun ops => oA rfl <| oA rfl <| o_nil <| n_K <| s_seq <| s_seq ?_
  refine s_region [(2, 15), (11, 24)] rfl fun ops y => ?_
  refine oM rfl <| oR (rd_bin rfl rfl rfl) <| oM rfl ?_
  refine' o_or (j := 2) (k := 7) y rfl rfl rfl rfl rfl rfl rfl (fun hg15 => ?_) ?_
  rotate_left
  · try (simp at hg15; show _)
    refine o_g y rfl rfl ?_
    refine oM rfl ?_
    refine o_g y rfl rfl ?_
    refine oM rfl ?_
    refine o_g y rfl rfl ?_
    refine oN rfl ?_
    refine o_g y rfl rfl ?_
    refine oF rfl ?_
    refine o_g y rfl rfl ?_
    refine oR (rd_ld rfl mM rfl) ?_
    refine o_g y rfl rfl ?_
    refine oR (rd_lenS rfl) ?_
    refine o_g y rfl rfl ?_
    refine oR (rd_bin rfl rfl rfl) ?_
    exact o_nil ⟨rfl, rfl, ⟨_, sP⟩⟩
  refine oM rfl ?_
  refine' o_or (j := 11) (k := 9) y rfl rfl rfl rfl rfl rfl rfl (fun hg24 => ?_) ?_
  rotate_left
  · try (simp at hg24; show _)
    refine o_g y rfl rfl ?_
    refine oM rfl ?_
    refine o_g y rfl rfl ?_
    refine oN rfl ?_
    refine o_g y rfl rfl ?_
    refine oF rfl ?_
    refine o_g y rfl rfl ?_
    refine oR (rd_ld rfl mM rfl) ?_
    refine o_g y rfl rfl ?_
    refine oM rfl ?_
    refine o_g y rfl rfl ?_
    refine oR (rd_ixS0 rfl rfl (by omega)) ?_
    refine o_g y rfl rfl ?_
    refine oF rfl ?_
    refine o_g y rfl rfl ?_
    refine oR (show Rd _ _ _ _ (wv (bAt bs b.toNat).seq) from rd_ld rfl mM (lb_nth (o := 2) (bAt_in (by omega)) (by omega) rfl)) ?_
    refine o_g y rfl rfl ?_
    refine oR (rd_bin rfl rfl rfl) ?_
    exact o_nil ⟨rfl, rfl, ⟨_, sP⟩⟩
  refine o_nil <| n_K ?_
  refine s_cond rfl (fun c34 => ?_) (fun c34 => ?_)
  · simp only [Bool.or_eq_true, Bool.or_eq_false_iff, decide_eq_true_eq, decide_eq_false_iff_not] at c34
    have hsg : segB bs b = false := (by unfold segB; simp; intro h1 h2; omega)
    refine s_seq <| s_region0 fun ops => oA rfl <| oA rfl <| o_nil <| n_K <| s_ret <| r_K ?_
    refine leaf_is (rets2 Tryz.results19 (rv_tmp rfl) (rv_tmp rfl)) ?_ sP
    rw [hsg]; rfl
  · simp only [Bool.or_eq_true, Bool.or_eq_false_iff, decide_eq_true_eq, decide_eq_false_iff_not] at c34
    have hsg : segB bs b = true := (by unfold segB; simp; omega)
    obtain ⟨bN, rfl⟩ : ∃ bN : Nat, b = bN := ⟨b.toNat, by omega⟩
    refine s_skip <| n_K <| s_seq <| s_seq <| s_region0 fun ops => oM rfl <| o_nil <| n_K <| s_block ?_
    refine s_loop2 [0, 1] kQ (fun (i : Nat) => [(35, .int .i64 i), (4, .int .i64 (mendN (V bN) i))]) (fun (i : Nat) => (lg, true, C (lgC d.dk bb nb last) tLg) :: (bb, true, C (lbs bs) tLB) :: (dkH d ++ [])) (fun (i : Nat) => i ≤ 8) (fun (i : Nat) => 8 - i) (0) (Nat.zero_le _) kP sP ?_
    rintro i g0
    refine s_seq <| s_region0 fun ops => oR (rd_bin rfl rfl rfl) <| o_nil <| n_K <| s_seq ?_
    refine s_cond rfl (fun c36 => ?_) (fun c36 => ?_)
    · simp only [decide_eq_true_eq, decide_eq_false_iff_not] at c36
      have hi : i < 8 := (by omega)
      have hrd := dread_pg h (b := bN) (j := i) (by omega) hi
      have hml := mendN_le (V bN) i
      have hrn := readF_num (pgAt (V bN) i)
      refine s_skip <| n_K <| s_seq <| s_block <| s_seq <| s_region0 fun ops => oM rfl <| oA rfl <| o_nil <| n_K <| s_seq <| s_region0 fun ops => oM rfl <| oN rfl ?_
      refine oF rfl ?_
      refine oR (rd_ld rfl mM rfl) ?_
      refine oM rfl <| oM rfl ?_
      refine c_is rfl ((dk_read (d := d) (b := (bN : Nat)) (k := (i : Nat))).to (by rw [hrd.1, hrd.2]) rfl) sP rfl aQ ?_
      refine oM rfl <| oE rfl rfl <| oE rfl rfl ?_
      refine o_alloc rfl fun b7 => ?_
      rw [zeroP_eq]
      first | refine o_store rfl rfl uD (vc_vb) (vbc_len) (spl_vb (by first | exact vbc_len | exact List.length_replicate ..)) ?_ | refine o_store rfl rfl uD rfl rfl rfl ?_
      refine oA rfl <| o_nil <| n_K <| s_seq <| s_seq <| s_region0 fun ops => oM rfl <| oR (rd_bin rfl rfl rfl) <| o_nil <| n_K ?_
      refine s_condF rfl ?_
      refine s_skip <| n_K <| s_seq <| s_region0 fun ops => ?_
      refine oR (rd_ldA rfl mM (by first | exact cut_vb | rfl)) ?_
      refine c_ex rfl (fread_fn (p := pgAt (V bN) i)) sP rfl fun v53 Y53 h53 => ?_
      obtain ⟨s, rfl, rfl, hs, ho⟩ := h53
      refine so_ap aQ ?_
      refine oM rfl <| oE rfl rfl <| oE rfl rfl <| oE rfl rfl <| oE rfl rfl <| oA rfl <| oA rfl <| oA rfl <| oA rfl <| o_nil <| n_K <| s_seq <| s_region0 fun ops => oM rfl ?_
      refine oR (rd_bin rfl rfl rfl) <| o_nil <| n_K ?_
      refine s_cond rfl (fun c59 => ?_) (fun c59 => ?_)
      · simp only [decide_eq_true_eq, decide_eq_false_iff_not] at c59
        have hmT : mendN (V bN) (i + 1) = mendN (V bN) i + (readF (pgAt (V bN) i)).2.2.1 := (by show mendN (V bN) i + (if (readF (pgAt (V bN) i)).2.2.2 = 0 then (readF (pgAt (V bN) i)).2.2.1 else 0) = _; rw [if_pos c59])
        refine s_region0 fun ops => oM rfl <| oM rfl ?_
        refine oR (rd_add64 rfl rfl (by omega)) ?_
        refine oA rfl <| o_nil <| n_blk <| n_K <| s_region0 fun ops => ?_
        refine oR (rd_add64 rfl rfl (by omega)) ?_
        refine oM rfl <| o_nil <| n_K ?_
        first | exact ⟨i + 1, by omega, by omega, (by rw [hmT]; exact kP), kP, _, sP⟩ | exact ⟨i + 1, by omega, by omega, (by rw [hmF]; exact kP), kP, _, sP⟩
      · simp only [decide_eq_true_eq, decide_eq_false_iff_not] at c59
        have hmF : mendN (V bN) (i + 1) = mendN (V bN) i := (by show mendN (V bN) i + (if (readF (pgAt (V bN) i)).2.2.2 = 0 then (readF (pgAt (V bN) i)).2.2.1 else 0) = _; rw [if_neg c59]; omega)
        refine s_skip <| n_blk <| n_K <| s_region0 fun ops => ?_
        refine oR (rd_add64 rfl rfl (by omega)) ?_
        refine oM rfl <| o_nil <| n_K ?_
        first | exact ⟨i + 1, by omega, by omega, (by rw [hmT]; exact kP), kP, _, sP⟩ | exact ⟨i + 1, by omega, by omega, (by rw [hmF]; exact kP), kP, _, sP⟩
    · simp only [decide_eq_true_eq, decide_eq_false_iff_not] at c36
      have hi : i = 8 := (by omega)
      subst hi
      refine s_exit <| x_K <| x_K <| x_blk <| n_K <| s_seq <| s_region0 fun ops => oM rfl <| oA rfl <| oA rfl <| o_nil <| n_K <| s_ret ?_
      refine leaf_is (rets2 Tryz.results19 (rv_tmp rfl) (rv_tmp rfl)) ?_ sP
      rw [hsg]; rfl
def DropR (n nb k : Nat) (q : Qt) (V : Nat → Blk) (bs : List LB) (last b : Int) (c : Chip) (t : TS) (bs' : List LB) (last' e : Int) (t' : TS) (c' : Chip) : Prop :=
  (segB bs b = false ∧ e = 1 ∧ bs' = bs ∧ last' = last ∧ t' = t ∧ c' = c) ∨
  (segB bs b = true ∧ WipeR n nb k q V b.toNat bs c bs' e t' c' ∧ (e = 0 → last' = if b = last then lastU bs' nb else last))
theorem drop_fn (h : DD d n k V) (hk : k ≤ 600000) (hq : q.n ≤ 3) (hacc : Acc q d.c d.t.ts) (hnb : nb + 6 = n) (hl : bs.length = nb) {b : Int} :
    Does Tryz.prog 17 [ptr lg, .int .i64 b] ((lg, true, C (lgC d.dk bb nb last) tLg) :: (bb, true, C (lbs bs) tLB) :: (dkH d ++ []))
    (fun v H => ∃ (t' : Tab) (c' : Chip) (bs' : List LB) (last' e : Int), v = .int .i64 e ∧ H = (lg, true, C (lgC d.dk bb nb last') tLg) :: (bb, true, C (lbs bs') tLB) :: (dkH ⟨d.dk, t', c'⟩ ++ []) ∧ DropR n nb (k + 40) q V bs last b d.c d.t.ts bs' last' e t'.ts c') := by
  have hn40 := h.di.wf.n2
  refine fn_enter (n := 86) Tryz.func17 Tryz.ntmps17 rfl (Nat.le_of_ble_eq_true rfl) <| s_seq <| s_region0 fun ops => oA rfl <| o_nil <| n_K <| s_seq <| s_seq ?_
  refine s_region [(2, 10), (11, 19)] rfl fun ops y => ?_
  refine oM rfl <| oR (rd_bin rfl rfl rfl) <| oM rfl ?_
  refine' o_or (j := 2) (k := 7) y rfl rfl rfl rfl rfl rfl rfl (fun hg10 => ?_) ?_
  rotate_left
  · try (simp at hg10; show _)
    refine o_g y rfl rfl ?_
    refine oM rfl ?_
    refine o_g y rfl rfl ?_
    refine oM rfl ?_
    refine o_g y rfl rfl ?_
    refine oN rfl ?_
    refine o_g y rfl rfl ?_
    refine oF rfl ?_
    refine o_g y rfl rfl ?_
    refine oR (rd_ld rfl mM rfl) ?_
    refine o_g y rfl rfl ?_
    refine oR (rd_lenS rfl) ?_
    refine o_g y rfl rfl ?_
    refine oR (rd_bin rfl rfl rfl) ?_
    exact o_nil ⟨rfl, rfl, ⟨_, sP⟩⟩
  refine oM rfl ?_
  refine' o_or (j := 11) (k := 9) y rfl rfl rfl rfl rfl rfl rfl (fun hg19 => ?_) ?_
  rotate_left
  · try (simp at hg19; show _)
    refine o_g y rfl rfl ?_
    refine oM rfl ?_
    refine o_g y rfl rfl ?_
    refine oN rfl ?_
    refine o_g y rfl rfl ?_
    refine oF rfl ?_
    refine o_g y rfl rfl ?_
    refine oR (rd_ld rfl mM rfl) ?_
    refine o_g y rfl rfl ?_
    refine oM rfl ?_
    refine o_g y rfl rfl ?_
    refine oR (rd_ixS0 rfl rfl (by omega)) ?_
    refine o_g y rfl rfl ?_
    refine oF rfl ?_
    refine o_g y rfl rfl ?_
    refine oR (show Rd _ _ _ _ (wv (bAt bs b.toNat).seq) from rd_ld rfl mM (lb_nth (o := 2) (bAt_in (by omega)) (by omega) rfl)) ?_
    refine o_g y rfl rfl ?_
    refine oR (rd_bin rfl rfl rfl) ?_
    exact o_nil ⟨rfl, rfl, ⟨_, sP⟩⟩
  refine o_nil <| n_K ?_
  refine s_cond rfl (fun c29 => ?_) (fun c29 => ?_)
  · simp only [Bool.or_eq_true, Bool.or_eq_false_iff, decide_eq_true_eq, decide_eq_false_iff_not] at c29
    have hsg : segB bs b = false := (by unfold segB; simp; intro h1 h2; omega)
    refine s_seq <| s_region0 fun ops => oA rfl <| o_nil <| n_K <| s_ret <| r_K ?_
    exact leaf_r (rets1 Tryz.results17 (rv_tmp rfl)) (by exact ⟨d.t, d.c, bs, last, 1, rfl, rfl, .inl ⟨hsg, rfl, rfl, rfl, rfl, rfl⟩⟩) sP
  · simp only [Bool.or_eq_true, Bool.or_eq_false_iff, decide_eq_true_eq, decide_eq_false_iff_not] at c29
    have hsg : segB bs b = true := (by unfold segB; simp; omega)
    obtain ⟨bN, rfl⟩ : ∃ bN : Nat, b = bN := ⟨b.toNat, by omega⟩
    have hbN : bN < nb := (by omega)
    refine s_skip <| n_K <| s_seq <| s_seq <| s_region0 fun ops => oM rfl <| oM rfl ?_
    refine c_ex rfl (lwipe_fn (d := d) (bb := bb) (last := last) h hk hq hacc (b := bN) (bs := bs) hnb hl hbN) sP rfl fun v32 Y32 h32 => ?_
    obtain ⟨t1, c1, bs1, e1, rfl, rfl, hW⟩ := h32
    have hb1 := hW.1
    refine so_ap aQ ?_
    refine oA rfl <| o_nil <| n_K <| s_seq <| s_region0 fun ops => oM rfl <| oR (rd_bin rfl rfl rfl) <| o_nil <| n_K ?_
    refine s_cond rfl (fun c34 => ?_) (fun c34 => ?_)
    · skip
      have he1 : e1 ≠ 0 := (by simpa using c34)
      refine s_seq <| s_region0 fun ops => oM rfl <| oA rfl <| o_nil <| n_K <| s_ret <| r_K ?_
      exact leaf_r (rets1 Tryz.results17 (rv_tmp rfl)) (by exact ⟨t1, c1, bs1, last, e1, rfl, rfl, .inr ⟨hsg, hW, fun h9 => absurd h9 he1⟩⟩) sP
    · skip
      have he1 : e1 = 0 := (by simpa using c34)
      refine s_skip <| n_K <| s_seq <| s_seq <| s_region0 fun ops => oM rfl <| oM rfl <| oN rfl <| oF rfl ?_
      refine oR (rd_ld rfl mM rfl) ?_
      refine oR (rd_bin rfl rfl rfl) <| o_nil <| n_K ?_
      refine s_cond rfl (fun c41 => ?_) (fun c41 => ?_)
      · simp only [decide_eq_true_eq, decide_eq_false_iff_not] at c41
        refine s_seq <| s_region0 fun ops => oM rfl <| oN rfl <| oF rfl ?_
        refine o_store rfl rfl uD rfl rfl rfl ?_
        refine o_nil <| n_K <| s_seq <| s_region0 fun ops => oM rfl <| oN rfl <| oF rfl ?_
        refine oR (rd_ld rfl mM rfl) ?_
        refine oR (rd_lenS rfl) <| oM rfl <| o_nil <| n_K <| s_block ?_
        refine s_loop2 [0, 48, 49] kQ (fun (st : Nat × Int) => [(50, .int .i64 st.1)]) (fun (st : Nat × Int) => (lg, true, C (lgC d.dk bb nb st.2) tLg) :: (bb, true, C (lbs bs1) tLB) :: (dkH ⟨d.dk, t1, c1⟩ ++ [])) (fun (st : Nat × Int) => st.1 ≤ nb ∧ st.2 = lastU bs1 st.1) (fun (st : Nat × Int) => nb - st.1) ((0, -1)) ⟨Nat.zero_le _, rfl⟩ kP sP ?_
        rintro ⟨i, la⟩ ⟨g0, g1⟩
        simp only at g0 g1
        refine s_seq <| s_region0 fun ops => oR (rd_bin rfl rfl rfl) <| o_nil <| n_K <| s_seq ?_
        refine s_cond rfl (fun c51 => ?_) (fun c51 => ?_)
        · simp only [decide_eq_true_eq, decide_eq_false_iff_not] at c51
          have hi : i < nb := (by omega)
          have hgi : bs1[i]? = some (bAt bs1 i) := bAt_in (by omega)
          have hrg := lastU_rng bs1 i
          refine s_skip <| n_K <| s_seq <| s_block <| s_seq <| s_region0 fun ops => oM rfl ?_
          refine oR (rd_ixS0 rfl rfl (by omega)) ?_
          refine oR (rd_ldA rfl mM (by simp only [Int.toNat_natCast]; exact lb_cut hgi)) ?_
          refine o_alloc rfl fun b7 => ?_
          refine oA rfl ?_
          refine o_store rfl rfl uD rfl rfl rfl ?_
          refine o_nil <| n_K <| s_seq ?_
          refine s_draw [(3, 58), (9, 64)] [(26, [(0, false), (1, false), (2, false), (3, false), (4, false), (5, false), (6, false), (7, false), (8, false), (9, false), (10, false), (11, false), (12, false), (13, false), (14, false), (15, false), (16, false), (17, false), (18, false), (19, false), (20, false), (21, false), (22, false), (23, false), (24, false), (25, false)])] (by kernel_rfl) rfl fun ops w0 H0 y => ?_
          refine p_all <| xF rfl ?_
          refine xR (rd_ld rfl mM rfl) ?_
          refine xR (rd_bin rfl rfl rfl) <| xM rfl ?_
          refine' x_and (j := 3) (k := 21) y rfl rfl rfl rfl rfl rfl rfl (fun hg58 => ?_) ?_
          rotate_left
          · try (simp at hg58; show _)
            refine x_g y rfl rfl ?_
            refine xM rfl ?_
            refine x_g y rfl rfl ?_
            refine xN rfl ?_
            refine x_g y rfl rfl ?_
            refine xF rfl ?_
            refine x_g y rfl rfl ?_
            refine xR (rd_ld rfl mM rfl) ?_
            refine x_g y rfl rfl ?_
            refine xR (rd_bin rfl rfl rfl) ?_
            refine x_g y rfl rfl ?_
            refine xM rfl ?_
            refine' x_or (j := 9) (k := 14) y rfl rfl rfl rfl rfl rfl rfl (fun hg64 => ?_) ?_
            rotate_left
            · try (simp at hg64; show _)
              refine x_g y rfl rfl ?_
              refine xF rfl ?_
              refine x_g y rfl rfl ?_
              refine xR (rd_ld rfl mM rfl) ?_
              refine x_g y rfl rfl ?_
              refine xM rfl ?_
              refine x_g y rfl rfl ?_
              refine xN rfl ?_
              refine x_g y rfl rfl ?_
              refine xF rfl ?_
              refine x_g y rfl rfl ?_
              refine xR (rd_ld rfl mM rfl) ?_
              refine x_g y rfl rfl ?_
              refine xM rfl ?_
              refine x_g y rfl rfl ?_
              refine xN rfl ?_
              refine x_g y rfl rfl ?_
              refine xF rfl ?_
              refine x_g y rfl rfl ?_
              refine xR (rd_ld rfl mM rfl) ?_
              refine x_g y rfl rfl ?_
              refine xR (rd_ixS0 rfl rfl (by omega)) ?_
              refine x_g y rfl rfl ?_
              refine xF rfl ?_
              refine x_g y rfl rfl ?_
              refine xR (show Rd _ _ _ _ (wv (bAt bs1 la.toNat).seq) from rd_ld rfl mM (lb_nth (o := 2) (bAt_in (by omega)) (by omega) rfl)) ?_
              refine x_g y rfl rfl ?_
              refine xR (rd_bin rfl rfl rfl) ?_
              exact x_nil ⟨rfl, ⟨_, sP⟩⟩
            exact x_nil ⟨rfl, ⟨_, sP⟩⟩
          refine x_nil <| p_end <| n_K ?_
          refine s_cond rfl (fun c80 => ?_) (fun c80 => ?_)
          · simp only [Bool.and_eq_true, Bool.or_eq_true, Bool.and_eq_false_iff, Bool.or_eq_false_iff, decide_eq_true_eq, decide_eq_false_iff_not] at c80
            have hlT : (i : Int) = lastU bs1 (i + 1) := (by unfold lastU; rw [← g1, if_pos ⟨by omega, by rcases c80.2 with h9 | h9; exact .inl h9; exact .inr (by omega)⟩])
            refine s_region0 fun ops => oM rfl <| oM rfl <| oN rfl <| oF rfl ?_
            refine o_store rfl rfl uD rfl rfl rfl ?_
            refine o_nil <| n_blk <| n_K <| s_region0 fun ops => ?_
            refine oR (rd_add64 rfl rfl (by omega)) ?_
            refine oM rfl <| o_nil <| n_K ?_
            first | exact ⟨(i + 1, (i : Int)), ⟨by simp only; omega, hlT⟩, by simp only; omega, lZ⟩ | exact ⟨(i + 1, la), ⟨by simp only; omega, hlF⟩, by simp only; omega, lZ⟩
          · simp only [Bool.and_eq_true, Bool.or_eq_true, Bool.and_eq_false_iff, Bool.or_eq_false_iff, decide_eq_true_eq, decide_eq_false_iff_not] at c80
            have hlF : la = lastU bs1 (i + 1) := (by unfold lastU; rw [← g1, if_neg (by rintro ⟨h8, h9⟩; rcases c80 with h7 | ⟨h6, h7⟩; omega; rcases h9 with h9 | h9; exact h6 h9; omega)])
            refine s_skip <| n_blk <| n_K <| s_region0 fun ops => ?_
            refine oR (rd_add64 rfl rfl (by omega)) ?_
            refine oM rfl <| o_nil <| n_K ?_
            first | exact ⟨(i + 1, (i : Int)), ⟨by simp only; omega, hlT⟩, by simp only; omega, lZ⟩ | exact ⟨(i + 1, la), ⟨by simp only; omega, hlF⟩, by simp only; omega, lZ⟩
        · simp only [decide_eq_true_eq, decide_eq_false_iff_not] at c51
          have hi : i = nb := (by omega)
          subst hi
          refine s_exit <| x_K <| x_K <| x_blk <| n_K <| s_seq <| s_region0 fun ops => oA rfl <| o_nil <| n_K <| s_ret ?_
          exact leaf_r (rets1 Tryz.results17 (rv_tmp rfl)) (by exact ⟨t1, c1, bs1, la, 0, rfl, rfl, .inr ⟨hsg, by rw [← he1]; exact hW, fun _ => by rw [if_pos c41]; exact g1⟩⟩) sP
      · simp only [decide_eq_true_eq, decide_eq_false_iff_not] at c41
        refine s_skip <| n_K <| s_seq <| s_region0 fun ops => oA rfl <| o_nil <| n_K <| s_ret ?_
        exact leaf_r (rets1 Tryz.results17 (rv_tmp rfl)) (by exact ⟨t1, c1, bs1, last, 0, rfl, rfl, .inr ⟨hsg, by rw [← he1]; exact hW, fun _ => by rw [if_neg c41]⟩⟩) sP
end
end Go.Proofs.YtkfcpjohblddmaaGreat
end
