/- What holds of chips, tables, disks and logs, for all of them; the conditions are the statement's own: part 4. -/
import Derived.Test.YtkfcpjohblddmaaGreatJ2
import Derived.Test.YtkfcpjohblddmaaGreatJ3
section
/- Plain laws: what programs and erases leave; a page is put. -/
namespace Go.Proofs.YtkfcpjohblddmaaGreat
open Go.K
set_option linter.unusedVariables false
set_option linter.unusedSimpArgs false

/-- A chip that answers. -/
structure Up (c : Chip) : Prop where
  off : c.off = false
  dead : c.dead = false
  out : c.out = false
/-- How many acts that are to come may fail. -/
def FP (c : Chip) : Nat := (c.pf.list.filter fun x => decide (c.pc ≤ x)).length
def FW (c : Chip) : Nat := (c.wf.list.filter fun x => decide (c.wc ≤ x)).length
theorem filter_step (l : List Int) (k : Int) : (l.filter fun x => decide (k + 1 ≤ x)).length + (if hasI l k = true then 1 else 0) ≤ (l.filter fun x => decide (k ≤ x)).length := by
  have h1 : ∀ l : List Int, (l.filter fun x => decide (k + 1 ≤ x)).length ≤ (l.filter fun x => decide (k ≤ x)).length := fun l => by
    induction l with
    | nil => simp
    | cons x l ih =>
      rw [List.filter_cons, List.filter_cons]
      by_cases h : k + 1 ≤ x
      · rw [if_pos (by simpa using h), if_pos (by simp; omega)]; simpa using ih
      · rw [if_neg (by simpa using h)]
        split
        · simp; omega
        · exact ih
  have h2 : ∀ l : List Int, k ∈ l → (l.filter fun x => decide (k + 1 ≤ x)).length + 1 ≤ (l.filter fun x => decide (k ≤ x)).length := fun l => by
    induction l with
    | nil => simp
    | cons x l ih =>
      intro hm
      rw [List.filter_cons, List.filter_cons]
      by_cases e : x = k
      · subst e
        rw [if_neg (by simp; omega), if_pos (by simp)]
        have := h1 l
        simp; omega
      · have hk := ih (by
          cases hm with
          | head => exact absurd rfl e
          | tail _ h => exact h)
        by_cases h : k + 1 ≤ x
        · rw [if_pos (by simpa using h), if_pos (by simp; omega)]; simp; omega
        · rw [if_neg (by simpa using h), if_neg (by simp; omega)]; exact hk
  split
  · rename_i h
    have hm : k ∈ l := by
      have : hasI l k = l.any (· == k) := idxF_any l (· == k)
      rw [this, List.any_eq_true] at h
      obtain ⟨y, h3, h4⟩ := h
      have : y = k := by simpa using h4
      subst this; exact h3
    exact h2 l hm
  · exact h1 l
/-- Counts are small. -/
structure Cnt (c : Chip) (B : Int) : Prop where
  p0 : 0 ≤ c.pc ∧ c.pc ≤ B
  w0 : 0 ≤ c.wc ∧ c.wc ≤ B
theorem failP_eq {c : Chip} {B : Int} (h : Cnt c B) (hB : B < 9000000000000000000) : failP c = hasI c.pf.list c.pc := by
  unfold failP
  have := h.p0
  rw [w64_in (x := c.pc + 1) (by omega), w64_in (by omega)]
  congr 1; omega
theorem failW_eq {c : Chip} {B : Int} (h : Cnt c B) (hB : B < 9000000000000000000) : failW c = hasI c.wf.list c.wc := by
  unfold failW
  have := h.w0
  rw [w64_in (x := c.wc + 1) (by omega), w64_in (by omega)]
  congr 1; omega
/-- A block's pages from its next one on hold nothing. -/
structure BI (b : Blk) : Prop where
  nx : 0 ≤ b.next ∧ b.next ≤ 8
  bl : ∀ (j : Nat) (h : j < 8), b.next ≤ j → b.pages[j] = blankP
/-- What stays of a chip behind acts on one block. -/
structure Fr (a : Nat) (c c' : Chip) : Prop where
  oth : ∀ k, k ≠ a → c'.blocks[k]? = c.blocks[k]?
  len : c'.blocks.length = c.blocks.length
  dead : c'.dead = c.dead
  out : c'.out = c.out
  aP : c'.aP = c.aP
  aC : c'.aC = c.aC
  aB : c'.aB = c.aB
  pf : c'.pf = c.pf
  wf : c'.wf = c.wf
  fp : FP c' ≤ FP c
  fw : FW c' ≤ FW c
  pos : c.after < 0 → c'.after = c.after ∧ c'.off = c.off
  keep : c'.keep = c.keep
theorem Fr.refl (a : Nat) (c : Chip) : Fr a c c := ⟨fun _ _ => rfl, rfl, rfl, rfl, rfl, rfl, rfl, rfl, rfl, Nat.le_refl _, Nat.le_refl _, fun _ => ⟨rfl, rfl⟩, rfl⟩
theorem Fr.trans {a : Nat} {c c' c'' : Chip} (h : Fr a c c') (k : Fr a c' c'') : Fr a c c'' :=
  ⟨fun i hi => (k.oth i hi).trans (h.oth i hi), k.len.trans h.len, k.dead.trans h.dead, k.out.trans h.out, k.aP.trans h.aP, k.aC.trans h.aC, k.aB.trans h.aB, k.pf.trans h.pf, k.wf.trans h.wf, Nat.le_trans k.fp h.fp, Nat.le_trans k.fw h.fw,
    fun hp => by
      obtain ⟨h1, h2⟩ := h.pos hp
      obtain ⟨h3, h4⟩ := k.pos (by omega)
      exact ⟨h3.trans h1, h4.trans h2⟩, k.keep.trans h.keep⟩
theorem mayU {c : Chip} (h : Up c) {i j : Nat} (hi : i < c.blocks.length) (hj : j < 8) : mayE c i j = 0 := may_ok h.off h.dead h.out (by omega) (by omega)
def wrK (b : Blk) (k : Nat) (q : Pg) : Blk := ⟨b.pages.setIfInBounds k q, (k : Int) + 1, b.bad⟩
def cp (c : Chip) : Chip := endsC (actP (cnt c))
theorem wrC_eq {c : Chip} {i j m : Nat} {d : Pg} {b : Blk} (hn : b.next = j) (hj : j < 8) (hp : b.pages[j] = blankP) : wrC c (i : Nat) (j : Nat) d b m (by simpa using hj) = setB (cp c) i (wrK b j (andP m blankP d)) := by
  have e1 : w64 (b.next + 1) = (j : Int) + 1 := by rw [hn]; exact wrap64_in (by omega)
  have e : wrB { b with next := w64 (b.next + 1) } ((j : Nat) : Int).toNat m d (by simpa using hj) = wrK b j (andP m blankP d) := by
    show setPg { b with next := w64 (b.next + 1) } j (andP m b.pages[j] d) = _
    rw [e1, hp]
    unfold setPg wrK
    rfl
  unfold wrC
  rw [e]
  rfl
/-- A page is programmed. -/
theorem prog_step {c : Chip} (up : Up c) {a j : Nat} {b : Blk} {d : Pg} (hb : c.blocks[a]? = some b) (hj : j < 8) (hbad : b.bad = false) (hbi : BI b) (hn : b.next = j) :
    ∃ e m, progC c a j d = (e, setB (cp c) a (wrK b j (andP m blankP d))) ∧ ((e = 30 ∧ endsB c = true) ∨ (e = 33 ∧ m = 129 ∧ endsB c = false ∧ failP c = true) ∨ (e = 0 ∧ m = 258 ∧ endsB c = false ∧ failP c = false)) := by
  have hi : a < c.blocks.length := (List.getElem?_eq_some_iff.1 hb).1
  have hm : mayE c a j = 0 := mayU up hi hj
  have hp := hbi.bl j hj (by omega)
  have hb' : c.blocks[((a : Nat) : Int).toNat]? = some b := by simpa using hb
  cases he : endsB c with
  | true =>
    refine ⟨30, clampN c.keep 258, ?_, .inl ⟨rfl, rfl⟩⟩
    rw [prog_down hm (by simpa using hj) hb' hn.symm he]
    exact congrArg (Prod.mk 30) (wrC_eq hn hj hp)
  | false =>
    cases hf : failP c with
    | true =>
      refine ⟨33, 129, ?_, .inr (.inl ⟨rfl, rfl, rfl, rfl⟩)⟩
      rw [prog_fail hm (by simpa using hj) hb' hn.symm he (by rw [hf]; rfl)]
      exact congrArg (Prod.mk 33) (wrC_eq hn hj hp)
    | false =>
      refine ⟨0, 258, ?_, .inr (.inr ⟨rfl, rfl, rfl, rfl⟩)⟩
      rw [prog_ok hm (by simpa using hj) hb' hn.symm he (by rw [hf, hbad]; rfl)]
      exact congrArg (Prod.mk 0) (wrC_eq hn hj hp)
theorem prog_skip {c : Chip} (up : Up c) {a j : Nat} {b : Blk} {d : Pg} (hb : c.blocks[a]? = some b) (hj : j < 8) (hn : b.next ≠ j) : progC c a j d = (32, c) := by
  have hi : a < c.blocks.length := (List.getElem?_eq_some_iff.1 hb).1
  exact prog_order (mayU up hi hj) (by simpa using hb) (fun e => hn e.symm)
theorem wrK_bi {b : Blk} {j : Nat} {q : Pg} (h : BI b) (hj : j < 8) (hn : b.next = j) : BI (wrK b j q) := by
  refine ⟨by simp only [wrK]; omega, fun i hi hle => ?_⟩
  simp only [wrK] at hle ⊢
  rw [Vector.getElem_setIfInBounds, if_neg (by omega)]
  exact h.bl i hi (by omega)
theorem wrK_at {b : Blk} {j i : Nat} {q : Pg} (hi : i < 8) : (wrK b j q).pages[i] = if j = i then q else b.pages[i] := by
  simp only [wrK]
  rw [Vector.getElem_setIfInBounds]
theorem setB_at {c : Chip} {a : Nat} {b b' : Blk} (hb : c.blocks[a]? = some b') : (setB (cp c) a b).blocks[a]? = some b := by
  have := (List.getElem?_eq_some_iff.1 hb).1
  show (c.blocks.set a b)[a]? = _
  simp [this]
theorem cp_fr {c : Chip} {a : Nat} {b : Blk} {B : Int} (hc : Cnt c B) (hB : B < 9000000000000000000) : Fr a c (setB (cp c) a b) ∧ Cnt (setB (cp c) a b) (B + 1) ∧ (failP c = true → FP (setB (cp c) a b) + 1 ≤ FP c) := by
  have hp := hc.p0
  have hw := hc.w0
  have e : (setB (cp c) a b).pc = c.pc + 1 := by
    show w64 (c.pc + 1) = c.pc + 1
    exact w64_in (by omega)
  have hfs := filter_step c.pf.list c.pc
  have hFP : FP (setB (cp c) a b) + (if hasI c.pf.list c.pc = true then 1 else 0) ≤ FP c := by
    unfold FP
    rw [e]
    exact hfs
  refine ⟨⟨fun k hk => ?_, ?_, rfl, rfl, rfl, rfl, rfl, rfl, rfl, ?_, Nat.le_refl _, fun h => ?_, rfl⟩, ⟨by rw [e]; omega, by show 0 ≤ c.wc ∧ c.wc ≤ B + 1; omega⟩, fun h => ?_⟩
  · exact List.getElem?_set_ne (fun e => hk e.symm)
  · show (c.blocks.set a b).length = _
    simp
  · omega
  · exact ⟨if_pos h, if_pos h⟩
  · rw [failP_eq hc hB] at h
    rw [if_pos h] at hFP
    exact hFP
theorem cp_off {c : Chip} {a : Nat} {b : Blk} (up : Up c) : (setB (cp c) a b).off = endsB c := by
  show (if c.after < 0 then c.off else decide (c.after = 0)) = _
  unfold endsB
  split
  · exact up.off
  · rfl
theorem ends_pos {c : Chip} (h : endsB c = true) : ¬ c.after < 0 := by
  intro h2
  unfold endsB at h
  rw [if_pos h2] at h
  cases h
/-- What a put leaves. -/
structure PutR (c : Chip) (a : Nat) (b : Blk) (q : Pg) (i' e : Int) (c' : Chip) : Prop where
  fr : Fr a c c'
  blk : ∃ b', c'.blocks[a]? = some b' ∧ BI b' ∧ b'.bad = false ∧ b.next ≤ b'.next ∧
    (∀ (j : Nat) (h : j < 8), (j : Int) < b.next → b'.pages[j] = b.pages[j]) ∧
    (∀ (j : Nat) (h : j < 8), b.next ≤ j → b'.pages[j] = blankP ∨ ∃ m, b'.pages[j] = andP m blankP q ∧ (m < 258 ∨ e = 0 ∨ e = 30)) ∧
    (e = 0 → ∃ (j : Nat) (h : j < 8), b.next ≤ j ∧ i' = (j : Int) + 1 ∧ b'.next = (j : Int) + 1 ∧ b'.pages[j] = q)
  pure : FP c = 0 → c.after < 0 → ∀ b', c'.blocks[a]? = some b' → ∀ (j : Nat) (h : j < 8), b.next ≤ j → b'.pages[j] = blankP ∨ b'.pages[j] = q
  how : (e = 30 ∧ c'.off = true ∧ ¬ c.after < 0) ∨ (e = 0 ∧ c'.off = false) ∨ (e = 34 ∧ c'.off = false ∧ i' = 8 ∧ FP c' + (8 - b.next).toNat ≤ FP c)
theorem stands_ok {c : Chip} {a j : Nat} {b : Blk} {q : Pg} (up : Up c) (hb : c.blocks[a]? = some b) (hj : j < 8) (hp : b.pages[j] = q) : standsE c a j q = 0 := by
  have hi : a < c.blocks.length := (List.getElem?_eq_some_iff.1 hb).1
  have hm := mayU up hi hj
  unfold standsE
  rw [read_of hm hb hj, hp]
  simp [hm]
theorem put_spec {a : Nat} {q : Pg} : ∀ (f : Nat) (c : Chip) (i : Nat) (b : Blk) (B : Int), i + f = 8 → Up c → c.blocks[a]? = some b → b.bad = false → BI b → (i : Int) ≤ b.next → Cnt c B → B + f < 8000000000000000000 →
    ∃ i' e c', putGo f c a i q = (i', e, c') ∧ PutR c a b q i' e c' ∧ Cnt c' (B + f)
  | 0, c, i, b, B, hf, up, hb, hbad, hbi, hle, hc, hB => by
    have := hbi.nx
    refine ⟨8, 34, c, rfl, ⟨Fr.refl a c, ⟨b, hb, hbi, hbad, Int.le_refl _, fun _ _ _ => rfl, fun j h h2 => by omega, fun h => by cases h⟩, fun _ _ b' hb' j h h2 => (by rw [hb] at hb'; cases hb'; exact .inl (hbi.bl j h h2)), .inr (.inr ⟨rfl, up.off, rfl, by omega⟩)⟩, by simpa using hc⟩
  | f + 1, c, i, b, B, hf, up, hb, hbad, hbi, hle, hc, hB => by
    have hj : i < 8 := by omega
    by_cases hn : b.next = i
    · obtain ⟨e, m, hp, hcase⟩ := prog_step up (d := q) hb hj hbad hbi hn
      obtain ⟨hfr, hcn, hfp⟩ := cp_fr (a := a) (b := wrK b i (andP m blankP q)) hc (by omega)
      have hoff := cp_off (a := a) (b := wrK b i (andP m blankP q)) up
      have hbk := setB_at (b := wrK b i (andP m blankP q)) hb
      have hbi' := wrK_bi (q := andP m blankP q) hbi hj hn
      generalize hcc : setB (cp c) a (wrK b i (andP m blankP q)) = c1 at *
      have hpg : ∀ (P : Prop), (m < 258 ∨ P) → ∀ (j : Nat) (h : j < 8), b.next ≤ j → (wrK b i (andP m blankP q)).pages[j] = blankP ∨ ∃ m', (wrK b i (andP m blankP q)).pages[j] = andP m' blankP q ∧ (m' < 258 ∨ P) := fun P hP j h h2 => by
        rw [wrK_at h]
        split
        · exact .inr ⟨m, rfl, hP⟩
        · exact .inl (hbi.bl j h h2)
      have hlo : ∀ (j : Nat) (h : j < 8), (j : Int) < b.next → (wrK b i (andP m blankP q)).pages[j] = b.pages[j] := fun j h h2 => by
        rw [wrK_at h, if_neg (by omega)]
      rcases hcase with ⟨rfl, he⟩ | ⟨rfl, rfl, he, hfl⟩ | ⟨rfl, rfl, he, hfl⟩
      · have hs : stepE c a i q = 30 := by unfold stepE; rw [hp, if_neg (show ¬ (30 : Int) = 0 by decide)]
        refine ⟨(i : Int) + 1, 30, c1, ?_, ⟨hfr, ⟨_, hbk, hbi', hbad, by simp only [wrK]; omega, hlo, hpg _ (.inr (.inr rfl)), fun h => by cases h⟩, fun _ ha => absurd ha (ends_pos he), .inl ⟨rfl, by rw [hoff, he], ends_pos he⟩⟩, ⟨by have := hcn.p0; omega, by have := hcn.w0; omega⟩⟩
        unfold putGo
        rw [if_pos (by rw [hs]; decide), hs, hp]
      · have hs : stepE c a i q = 33 := by unfold stepE; rw [hp, if_neg (show ¬ (33 : Int) = 0 by decide)]
        have up' : Up c1 := ⟨by rw [hoff, he], hfr.dead.trans up.dead, hfr.out.trans up.out⟩
        obtain ⟨i', e, c', h1, h2, h3⟩ := put_spec (a := a) (q := q) f c1 (i + 1) (wrK b i (andP 129 blankP q)) (B + 1) (by omega) up' hbk hbad hbi' (by show ((i + 1 : Nat) : Int) ≤ (i : Int) + 1; omega) hcn (by omega)
        have hnx : (wrK b i (andP 129 blankP q)).next = (i : Int) + 1 := rfl
        obtain ⟨b', k1, k2, k3, k4, k5, k6, k7⟩ := h2.blk
        rw [hnx] at k4 k5 k6 k7
        refine ⟨i', e, c', ?_, ⟨hfr.trans h2.fr, ⟨b', k1, k2, k3, by omega, fun j h hlt => by rw [k5 j h (show (j : Int) < (i : Int) + 1 by omega)]; exact hlo j h hlt, fun j h hge => ?_, fun h => ?_⟩, fun h0 _ => (by have := hfp hfl; omega), ?_⟩, ⟨by have := h3.p0; omega, by have := h3.w0; omega⟩⟩
        · unfold putGo
          rw [if_neg (by rw [hs]; decide), hp]
          exact_mod_cast h1
        · by_cases e1 : j = i
          · subst e1
            refine .inr ⟨129, ?_, .inl (by omega)⟩
            rw [k5 j h (show (j : Int) < (j : Int) + 1 by omega), wrK_at h, if_pos rfl]
          · exact k6 j h (by omega)
        · obtain ⟨j, hj8, q1, q2, q3, q4⟩ := k7 h
          exact ⟨j, hj8, by omega, q2, q3, q4⟩
        · rcases h2.how with ⟨q1, q2, q3⟩ | ⟨q1, q2⟩ | ⟨q1, q2, q3, q4⟩
          · refine .inl ⟨q1, q2, fun h => q3 ?_⟩
            rw [(hfr.pos h).1]; exact h
          · exact .inr (.inl ⟨q1, q2⟩)
          · refine .inr (.inr ⟨q1, q2, q3, ?_⟩)
            have := hfp hfl
            rw [hnx] at q4
            omega
      · have up' : Up c1 := ⟨by rw [hoff, he], hfr.dead.trans up.dead, hfr.out.trans up.out⟩
        have hq : (wrK b i (andP 258 blankP q)).pages[i] = q := by rw [wrK_at hj, if_pos rfl]; exact and_full (Nat.le_refl _)
        have hs : stepE c a i q = 0 := by unfold stepE; rw [hp, if_pos rfl]; exact stands_ok up' hbk hj hq
        refine ⟨(i : Int) + 1, 0, c1, ?_, ⟨hfr, ⟨_, hbk, hbi', hbad, by simp only [wrK]; omega, hlo, hpg _ (.inr (.inl rfl)), fun _ => ⟨i, hj, by omega, rfl, rfl, hq⟩⟩, fun _ _ b' hb' j h h2 => (by rw [hbk] at hb'; cases hb'; rw [wrK_at h]; split; exact .inr (and_full (Nat.le_refl _)); exact .inl (hbi.bl j h h2)), .inr (.inl ⟨rfl, up'.off⟩)⟩, ⟨by have := hcn.p0; omega, by have := hcn.w0; omega⟩⟩
        unfold putGo
        rw [if_pos (by rw [hs]; decide), hs, hp]
    · have hp := prog_skip up (d := q) hb hj hn
      have hs : stepE c a i q = 32 := by unfold stepE; rw [hp, if_neg (show ¬ (32 : Int) = 0 by decide)]
      obtain ⟨i', e, c', h1, h2, h3⟩ := put_spec (a := a) (q := q) f c (i + 1) b B (by omega) up hb hbad hbi (by omega) hc (by omega)
      refine ⟨i', e, c', ?_, h2, ⟨by have := h3.p0; omega, by have := h3.w0; omega⟩⟩
      unfold putGo
      rw [if_neg (by rw [hs]; decide), hp]
      exact_mod_cast h1
end Go.Proofs.YtkfcpjohblddmaaGreat
end
section
/- Plain laws: a plan is kept, whatever goes wrong. -/
namespace Go.Proofs.YtkfcpjohblddmaaGreat
open Go.K
set_option linter.unusedVariables false
set_option linter.unusedSimpArgs false

def ce (c : Chip) : Chip := endsC (actW (cnt c))
structure EraseR (c : Chip) (a : Nat) (b : Blk) (e : Int) (c' : Chip) : Prop where
  fr : Fr a c c'
  blk : ∃ b', c'.blocks[a]? = some b' ∧ BI b' ∧ b'.bad = b.bad ∧ (∀ (j : Nat) (h : j < 8), b'.pages[j] = blankP ∨ b'.pages[j] = b.pages[j]) ∧ (e = 0 → b'.next = 0)
  how : (e = 30 ∧ c'.off = true ∧ ¬ c.after < 0) ∨ (e = 33 ∧ c'.off = false ∧ FW c' + 1 ≤ FW c) ∨ (e = 0 ∧ c'.off = false)
theorem ce_fr {c : Chip} {a : Nat} {b : Blk} {B : Int} (hc : Cnt c B) (hB : B < 9000000000000000000) : Fr a c (setB (ce c) a b) ∧ Cnt (setB (ce c) a b) (B + 1) ∧ (failW c = true → FW (setB (ce c) a b) + 1 ≤ FW c) := by
  have hp := hc.p0
  have hw := hc.w0
  have e : (setB (ce c) a b).wc = c.wc + 1 := by
    show w64 (c.wc + 1) = c.wc + 1
    exact w64_in (by omega)
  have hfs := filter_step c.wf.list c.wc
  have hFW : FW (setB (ce c) a b) + (if hasI c.wf.list c.wc = true then 1 else 0) ≤ FW c := by
    unfold FW
    rw [e]
    exact hfs
  refine ⟨⟨fun k hk => ?_, ?_, rfl, rfl, rfl, rfl, rfl, rfl, rfl, Nat.le_refl _, ?_, fun h => ?_, rfl⟩, ⟨by show 0 ≤ c.pc ∧ c.pc ≤ B + 1; omega, by rw [e]; omega⟩, fun h => ?_⟩
  · exact List.getElem?_set_ne (fun e => hk e.symm)
  · show (c.blocks.set a b).length = _
    simp
  · omega
  · exact ⟨if_pos h, if_pos h⟩
  · rw [failW_eq hc hB] at h
    rw [if_pos h] at hFW
    exact hFW
theorem ce_off {c : Chip} {a : Nat} {b : Blk} (up : Up c) : (setB (ce c) a b).off = endsB c := by
  show (if c.after < 0 then c.off else decide (c.after = 0)) = _
  unfold endsB
  split
  · exact up.off
  · rfl
theorem setBe_at {c : Chip} {a : Nat} {b b' : Blk} (hb : c.blocks[a]? = some b') : (setB (ce c) a b).blocks[a]? = some b := by
  have := (List.getElem?_eq_some_iff.1 hb).1
  show (c.blocks.set a b)[a]? = _
  simp [this]
theorem wipe_at {b : Blk} {m j : Nat} (h : j < 8) : (wipeB b m).pages[j] = if j < m then blankP else b.pages[j] := by simp [wipeB]
/-- A block is erased. -/
theorem erase_spec {c : Chip} {a : Nat} {b : Blk} {B : Int} (up : Up c) (hb : c.blocks[a]? = some b) (hbad : b.bad = false) (hc : Cnt c B) (hB : B < 8000000000000000000) : ∃ e c', eraseC c a = (e, c') ∧ EraseR c a b e c' ∧ Cnt c' (B + 1) := by
  have hi : a < c.blocks.length := (List.getElem?_eq_some_iff.1 hb).1
  have hm : mayE c a 0 = 0 := mayU (j := 0) up hi (by omega)
  have hb' : c.blocks[((a : Nat) : Int).toNat]? = some b := by simpa using hb
  cases he : endsB c with
  | true =>
    refine ⟨30, _, erase_down hm hb' he, ?_⟩
    rw [Int.toNat_natCast]
    obtain ⟨h1, h2, _⟩ := ce_fr (a := a) (b := wipeB { b with next := 8 } (clampN c.keep 8)) hc (by omega)
    exact ⟨⟨h1, ⟨_, setBe_at hb, ⟨⟨by simp [wipeB], by simp [wipeB]⟩, fun j h h2 => (by simp only [wipeB] at h2; omega)⟩, rfl, fun j h => by rw [wipe_at h]; split; exact .inl rfl; exact .inr rfl, fun h => by cases h⟩, .inl ⟨rfl, (ce_off up).trans he, ends_pos he⟩⟩, h2⟩
  | false =>
    cases hf : failW c with
    | true =>
      refine ⟨33, _, erase_fail hm hb' he (by rw [hf]; rfl), ?_⟩
      rw [Int.toNat_natCast]
      obtain ⟨h1, h2, h3⟩ := ce_fr (a := a) (b := { b with next := 8 }) hc (by omega)
      exact ⟨⟨h1, ⟨_, setBe_at hb, ⟨⟨by simp, by simp⟩, fun j h h2 => (by simp only at h2; omega)⟩, rfl, fun j h => .inr rfl, fun h => by cases h⟩, .inr (.inl ⟨rfl, (ce_off up).trans he, h3 hf⟩)⟩, h2⟩
    | false =>
      refine ⟨0, _, erase_ok hm hb' he (by rw [hf, hbad]; rfl), ?_⟩
      rw [Int.toNat_natCast]
      obtain ⟨h1, h2, h3⟩ := ce_fr (a := a) (b := { wipeB { b with next := 8 } 8 with next := 0 }) hc (by omega)
      have hpg : ∀ (j : Nat) (h : j < 8), ({ wipeB { b with next := 8 } 8 with next := 0 } : Blk).pages[j] = blankP := fun j h => by
        show (wipeB { b with next := 8 } 8).pages[j] = blankP
        rw [wipe_at h, if_pos h]
      exact ⟨⟨h1, ⟨_, setBe_at hb, ⟨⟨by simp, by simp⟩, fun j h _ => hpg j h⟩, rfl, fun j h => .inl (hpg j h), fun _ => rfl⟩, .inr (.inr ⟨rfl, (ce_off up).trans he⟩)⟩, h2⟩

/-- The newest plan that a chip holds, and an area in which it stands. -/
structure Hold (c : Chip) (v : Nat) (u l : List Int) (a : Nat) : Prop where
  ok : OkP c.blocks.length u l
  a2 : a < 2
  bs : ∀ k < 2, ∃ b, c.blocks[k]? = some b ∧ BI b ∧ b.bad = false
  le : ∀ k < 2, ∀ b, c.blocks[k]? = some b → ∀ (j : Nat) (h : j < 8) (w : Nat) (u' l' : List Int), RP c.blocks.length b.pages[j] = some (w, u', l') → w ≤ v ∧ (w = v → u' = u ∧ l' = l)
  ex : ∃ b, c.blocks[a]? = some b ∧ ∃ (j : Nat) (h : j < 8), RP c.blocks.length b.pages[j] = some (v, u, l)
theorem blankP_b : blankB blankP = true := blankP_blank
theorem rp_blank {n : Nat} : RP n blankP = none := rp_bl blankP_b
theorem Hold.put {c c' : Chip} {v : Nat} {u l u' l' : List Int} {a k : Nat} {V : Wd} {b : Blk} {i' e : Int} (h : Hold c v u l a) (hk : k < 2) (hb : c.blocks[k]? = some b) (hV : V.toNat = v + 1) (ok : OkP c.blocks.length u' l')
    (r : PutR c k b (planP V c.blocks.length u' l') i' e c') : (e = 0 → Hold c' (v + 1) u' l' k) ∧ (e = 30 → Hold c' v u l a ∨ Hold c' (v + 1) u' l' k) ∧ (e = 34 → Hold c' v u l a) := by
  obtain ⟨b', k1, k2, k3, k4, k5, k6, k7⟩ := r.blk
  have hq := rp_plan (v := V) ok
  rw [hV] at hq
  generalize planP V c.blocks.length u' l' = q at *
  obtain ⟨b0, hb0, hbi, _⟩ := h.bs k hk
  rw [hb] at hb0
  cases hb0
  have hbs : ∀ i < 2, ∃ b, c'.blocks[i]? = some b ∧ BI b ∧ b.bad = false := fun i hi => by
    by_cases e1 : i = k
    · subst e1; exact ⟨b', k1, k2, k3⟩
    · rw [r.fr.oth i e1]; exact h.bs i hi
  have hpg : ∀ (j : Nat) (hj : j < 8), (RP c.blocks.length b'.pages[j] = none ∨ ∃ (hlt : (j : Int) < b.next), b'.pages[j] = b.pages[j]) ∨ (b'.pages[j] = q ∧ (e = 0 ∨ e = 30)) := fun j hj => by
    rcases (show (j : Int) < b.next ∨ b.next ≤ j by omega) with h1 | h1
    · exact .inl (.inr ⟨h1, k5 j hj h1⟩)
    · rcases k6 j hj h1 with h2 | ⟨m, h2, h3⟩
      · exact .inl (.inl (by rw [h2]; exact rp_blank))
      · rcases Nat.lt_or_ge m 258 with hm | hm
        · exact .inl (.inl (by rw [h2]; exact and_torn hm))
        · rw [and_full hm] at h2
          exact .inr ⟨h2, by rcases h3 with h3 | h3; omega; exact h3⟩
  have hnew : (∃ (j : Nat) (hj : j < 8), b'.pages[j] = q) → Hold c' (v + 1) u' l' k := fun ⟨j0, hj0, h0⟩ => by
    refine ⟨by rw [r.fr.len]; exact ok, hk, hbs, fun i hi b2 hb2 j hj w u2 l2 hw => ?_, ⟨b', k1, j0, hj0, by rw [r.fr.len, h0]; exact hq⟩⟩
    rw [r.fr.len] at hw
    by_cases e1 : i = k
    · subst e1
      rw [k1] at hb2
      cases hb2
      rcases hpg j hj with (h1 | ⟨h1, h2⟩) | ⟨h1, _⟩
      · rw [h1] at hw; cases hw
      · rw [h2] at hw
        have := (h.le i hi b hb j hj w u2 l2 hw).1
        exact ⟨by omega, fun e2 => by omega⟩
      · rw [h1, hq] at hw
        simp only [Option.some.injEq, Prod.mk.injEq] at hw
        obtain ⟨h3, h4, h5⟩ := hw
        exact ⟨by omega, fun _ => ⟨h4.symm, h5.symm⟩⟩
    · rw [r.fr.oth i e1] at hb2
      have := (h.le i hi b2 hb2 j hj w u2 l2 hw).1
      exact ⟨by omega, fun e2 => by omega⟩
  have hold : (∀ (j : Nat) (hj : j < 8), RP c.blocks.length b'.pages[j] = none ∨ ∃ (hlt : (j : Int) < b.next), b'.pages[j] = b.pages[j]) → Hold c' v u l a := fun hall => by
    refine ⟨by rw [r.fr.len]; exact h.ok, h.a2, hbs, fun i hi b2 hb2 j hj w u2 l2 hw => ?_, ?_⟩
    · rw [r.fr.len] at hw
      by_cases e1 : i = k
      · subst e1
        rw [k1] at hb2
        cases hb2
        rcases hall j hj with h1 | ⟨h1, h2⟩
        · rw [h1] at hw; cases hw
        · rw [h2] at hw
          exact h.le i hi b hb j hj w u2 l2 hw
      · rw [r.fr.oth i e1] at hb2
        exact h.le i hi b2 hb2 j hj w u2 l2 hw
    · obtain ⟨b2, hb2, j, hj, hr⟩ := h.ex
      rw [r.fr.len]
      by_cases e1 : a = k
      · subst e1
        rw [hb] at hb2
        cases hb2
        have hlt : (j : Int) < b.next := by
          rcases (show (j : Int) < b.next ∨ b.next ≤ j by omega) with h1 | h1
          · exact h1
          · rw [hbi.bl j hj h1, rp_blank] at hr; cases hr
        exact ⟨b', k1, j, hj, by rw [k5 j hj hlt]; exact hr⟩
      · exact ⟨b2, by rw [r.fr.oth a e1]; exact hb2, j, hj, hr⟩
  have hdec : (∃ (j : Nat) (hj : j < 8), b'.pages[j] = q) ∨ (∀ (j : Nat) (hj : j < 8), RP c.blocks.length b'.pages[j] = none ∨ ∃ (hlt : (j : Int) < b.next), b'.pages[j] = b.pages[j]) := by
    by_cases hx : ∃ (j : Nat) (hj : j < 8), b'.pages[j] = q
    · exact .inl hx
    · refine .inr fun j hj => ?_
      rcases hpg j hj with h1 | ⟨h1, _⟩
      · exact h1
      · exact absurd ⟨j, hj, h1⟩ hx
  refine ⟨fun e0 => ?_, fun e0 => ?_, fun e0 => ?_⟩
  · obtain ⟨j, hj, _, _, _, h1⟩ := k7 e0
    exact hnew ⟨j, hj, h1⟩
  · rcases hdec with h1 | h1
    · exact .inr (hnew h1)
    · exact .inl (hold h1)
  · refine hold fun j hj => ?_
    rcases hpg j hj with h1 | ⟨_, h1⟩
    · exact h1
    · omega
theorem Hold.erase {c c' : Chip} {v : Nat} {u l : List Int} {a k : Nat} {b : Blk} {e : Int} (h : Hold c v u l a) (hk : k ≠ a) (hb : c.blocks[k]? = some b) (hbad : b.bad = false) (r : EraseR c k b e c') : Hold c' v u l a := by
  obtain ⟨b', k1, k2, k3, k4, k5⟩ := r.blk
  refine ⟨by rw [r.fr.len]; exact h.ok, h.a2, fun i hi => ?_, fun i hi b2 hb2 j hj w u2 l2 hw => ?_, ?_⟩
  · by_cases e1 : i = k
    · subst e1; exact ⟨b', k1, k2, k3.trans hbad⟩
    · rw [r.fr.oth i e1]; exact h.bs i hi
  · rw [r.fr.len] at hw
    by_cases e1 : i = k
    · subst e1
      rw [k1] at hb2
      cases hb2
      rcases k4 j hj with h1 | h1
      · rw [h1, rp_blank] at hw; cases hw
      · rw [h1] at hw; exact h.le i hi b hb j hj w u2 l2 hw
    · rw [r.fr.oth i e1] at hb2
      exact h.le i hi b2 hb2 j hj w u2 l2 hw
  · obtain ⟨b2, hb2, j, hj, hr⟩ := h.ex
    rw [r.fr.len]
    exact ⟨b2, by rw [r.fr.oth a (fun e1 => hk e1.symm)]; exact hb2, j, hj, hr⟩
/-- A table that is the chip's. -/
def TI (c : Chip) (t : TS) : Prop := ∃ a : Nat, t.area = a ∧ Hold c t.version.toNat t.uses t.lost a ∧ ∃ b, c.blocks[a]? = some b ∧ 0 ≤ t.next ∧ t.next ≤ b.next
/-- What acts on the table's own blocks leave. -/
structure Fr2 (c c' : Chip) : Prop where
  oth : ∀ k, 2 ≤ k → c'.blocks[k]? = c.blocks[k]?
  len : c'.blocks.length = c.blocks.length
  dead : c'.dead = c.dead
  out : c'.out = c.out
  aP : c'.aP = c.aP
  aC : c'.aC = c.aC
  aB : c'.aB = c.aB
  pf : c'.pf = c.pf
  wf : c'.wf = c.wf
  fp : FP c' ≤ FP c
  fw : FW c' ≤ FW c
  pos : c.after < 0 → c'.after = c.after ∧ c'.off = c.off
  keep : c'.keep = c.keep
theorem Fr2.refl (c : Chip) : Fr2 c c := ⟨fun _ _ => rfl, rfl, rfl, rfl, rfl, rfl, rfl, rfl, rfl, Nat.le_refl _, Nat.le_refl _, fun _ => ⟨rfl, rfl⟩, rfl⟩
theorem Fr.two {a : Nat} {c c' : Chip} (h : Fr a c c') (ha : a < 2) : Fr2 c c' := ⟨fun k hk => h.oth k (by omega), h.len, h.dead, h.out, h.aP, h.aC, h.aB, h.pf, h.wf, h.fp, h.fw, h.pos, h.keep⟩
theorem Fr2.trans {c c' c'' : Chip} (h : Fr2 c c') (k : Fr2 c' c'') : Fr2 c c'' :=
  ⟨fun i hi => (k.oth i hi).trans (h.oth i hi), k.len.trans h.len, k.dead.trans h.dead, k.out.trans h.out, k.aP.trans h.aP, k.aC.trans h.aC, k.aB.trans h.aB, k.pf.trans h.pf, k.wf.trans h.wf, Nat.le_trans k.fp h.fp, Nat.le_trans k.fw h.fw,
    fun hp => by
      obtain ⟨h1, h2⟩ := h.pos hp
      obtain ⟨h3, h4⟩ := k.pos (by omega)
      exact ⟨h3.trans h1, h4.trans h2⟩, k.keep.trans h.keep⟩
/-- What a loop of keeping comes to. -/
def KOut (c : Chip) (v : Nat) (u l u' l' : List Int) (a : Nat) (s : KS) : Prop :=
  (s.e = 0 ∧ s.c.off = false ∧ ∃ k, s.area = (k : Nat) ∧ Hold s.c (v + 1) u' l' k ∧ ∃ b, s.c.blocks[k]? = some b ∧ 0 ≤ s.next ∧ s.next ≤ b.next) ∨
  (s.e = 30 ∧ s.c.off = true ∧ ¬ c.after < 0 ∧ (Hold s.c v u l a ∨ ∃ k, Hold s.c (v + 1) u' l' k))
theorem Up.of {c c' : Chip} (h : Up c) (hd : c'.dead = c.dead) (ho : c'.out = c.out) (hf : c'.off = false) : Up c' := ⟨hf, hd.trans h.dead, ho.trans h.out⟩
theorem putC_eq {c : Chip} {a : Int} {i : Nat} {q : Pg} : putC c a i q = putGo (8 - i) c a i q := by
  unfold putC
  congr 1
  omega
theorem loop_spec {v : Nat} {u l u' l' : List Int} {a n : Nat} {V : Wd} (ha : a < 2) (hV : V.toNat = v + 1) (ok : OkP n u' l') :
    ∀ (f : Nat) (s : KS) (B : Int), s.e = 34 → s.c.blocks.length = n → Hold s.c v u l a → Up s.c → FP s.c ≤ 7 → FW s.c < f → Cnt s.c B → B + 100 * f < 8000000000000000000 →
      KOut s.c v u l u' l' a (keepGo f (a : Nat) (planP V n u' l') s) ∧ Fr2 s.c (keepGo f (a : Nat) (planP V n u' l') s).c ∧ Cnt (keepGo f (a : Nat) (planP V n u' l') s).c (B + 9 * f)
  | 0, s, B, he, hn, h, up, hfp, hfw, hc, hB => by omega
  | f + 1, s, B, he, hn, h, up, hfp, hfw, hc, hB => by
    obtain ⟨b, hb, hbi, hbad⟩ := h.bs (1 - a) (by omega)
    obtain ⟨e, c1, h1, h2, h3⟩ := erase_spec up hb hbad hc (by omega)
    have hra : (1 : Int) - (a : Nat) = ((1 - a : Nat) : Int) := by omega
    have hold1 := h.erase (k := 1 - a) (by omega) hb hbad h2
    unfold keepGo
    rw [if_pos he]
    unfold keep1
    simp only []
    rw [hra, h1]
    simp only []
    rcases h2.how with ⟨rfl, q1, q2⟩ | ⟨rfl, q1, q2⟩ | ⟨rfl, q1⟩
    · rw [if_neg (by decide), if_neg (by decide)]
      have hk : keepGo f (a : Nat) (planP V n u' l') ⟨((1 - a : Nat) : Int), s.next, 30, c1⟩ = ⟨((1 - a : Nat) : Int), s.next, 30, c1⟩ := by
        cases f with
        | zero => rfl
        | succ f => unfold keepGo; rw [if_neg (show ¬ (30 : Int) = 34 by decide)]
      rw [hk]
      exact ⟨.inr ⟨rfl, q1, q2, .inl hold1⟩, h2.fr.two (by omega), ⟨by have := h3.p0; simp only; omega, by have := h3.w0; simp only; omega⟩⟩
    · rw [if_neg (by decide), if_pos rfl]
      have up1 := up.of h2.fr.dead h2.fr.out q1
      obtain ⟨r1, r2, r3⟩ := loop_spec ha hV ok f ⟨((1 - a : Nat) : Int), s.next, s.e, c1⟩ (B + 1) he (h2.fr.len.trans hn) hold1 up1 (by have := h2.fr.fp; simp only; omega) (by simp only; omega) h3 (by omega)
      refine ⟨?_, (h2.fr.two (by omega)).trans r2, ⟨by have := r3.p0; omega, by have := r3.w0; omega⟩⟩
      rcases r1 with r1 | ⟨r1, r4, r5, r6⟩
      · exact .inl r1
      · exact .inr ⟨r1, r4, fun hp => r5 (by show c1.after < 0; rw [(h2.fr.pos hp).1]; exact hp), r6⟩
    · rw [if_pos rfl]
      have up1 := up.of h2.fr.dead h2.fr.out q1
      obtain ⟨b1, k1, k2, k3, k4, k5⟩ := h2.blk
      have hp0 : putC c1 ((1 - a : Nat) : Int) 0 (planP V n u' l') = putGo 8 c1 ((1 - a : Nat) : Int) ((0 : Nat) : Int) (planP V n u' l') := putC_eq (i := 0)
      obtain ⟨i', e, c2, p1, p2, p3⟩ := put_spec (a := 1 - a) (q := planP V n u' l') 8 c1 0 b1 (B + 1) (by omega) up1 k1 (k3.trans hbad) k2 (by rw [k5 rfl]; exact Int.le_refl _) h3 (by omega)
      rw [hp0, p1]
      simp only []
      have hlen1 : c1.blocks.length = n := h2.fr.len.trans hn
      have hp := hold1.put (k := 1 - a) (V := V) (u' := u') (l' := l') (by omega) k1 hV (by rw [hlen1]; exact ok) (by rw [hlen1]; exact p2)
      have hkk : e ≠ 34 → keepGo f (a : Nat) (planP V n u' l') ⟨((1 - a : Nat) : Int), i', e, c2⟩ = ⟨((1 - a : Nat) : Int), i', e, c2⟩ := fun hne => by
        cases f with
        | zero => rfl
        | succ f => unfold keepGo; rw [if_neg hne]
      have hfr := (h2.fr.two (by omega)).trans (p2.fr.two (by omega))
      rcases p2.how with ⟨rfl, q2, q3⟩ | ⟨rfl, q2⟩ | ⟨rfl, q2, q3, q4⟩
      · rw [hkk (by decide)]
        refine ⟨.inr ⟨rfl, q2, fun hpo => q3 (by rw [(h2.fr.pos hpo).1]; exact hpo), ?_⟩, hfr, ⟨by have := p3.p0; simp only; omega, by have := p3.w0; simp only; omega⟩⟩
        rcases hp.2.1 rfl with h5 | h5
        · exact .inl h5
        · exact .inr ⟨_, h5⟩
      · rw [hkk (by decide)]
        obtain ⟨b2, m1, m2, m3, m4, m5, m6, m7⟩ := p2.blk
        obtain ⟨j, hj, _, n2, n3, _⟩ := m7 rfl
        exact ⟨.inl ⟨rfl, q2, 1 - a, rfl, hp.1 rfl, b2, m1, by simp only; omega, by simp only; omega⟩, hfr, ⟨by have := p3.p0; simp only; omega, by have := p3.w0; simp only; omega⟩⟩
      · have h9 := k5 rfl
        have h10 := h2.fr.fp
        rw [h9] at q4
        have : (8 - (0 : Int)).toNat = 8 := rfl
        omega
/-- A plan is kept. -/
theorem keep_hold {c : Chip} {t : TS} {u l : List Int} {B : Int} (up : Up c) (h : TI c t) (hv : t.version.toNat + 1 < 18446744073709551616) (ok : OkP c.blocks.length u l) (hfp : FP c ≤ 7) (hfw : FW c ≤ 3) (hc : Cnt c B) (hB : B + 1000 < 8000000000000000000) :
    ∃ e t' c', keepC t u l c = (e, t', c') ∧ Fr2 c c' ∧ Cnt c' (B + 100) ∧
      ((e = 0 ∧ Up c' ∧ TI c' t' ∧ t'.uses = u ∧ t'.lost = l ∧ t'.version.toNat = t.version.toNat + 1) ∨
       (e = 30 ∧ c'.off = true ∧ ¬ c.after < 0 ∧ t' = t ∧ ((∃ a, Hold c' t.version.toNat t.uses t.lost a) ∨ ∃ a, Hold c' (t.version.toNat + 1) u l a))) := by
  obtain ⟨a, ha, hh, b, hb, hn0, hn1⟩ := h
  have hV : (t.version + 1).toNat = t.version.toNat + 1 := by
    rw [BitVec.toNat_add]
    show (t.version.toNat + 1) % 2 ^ 64 = _
    exact Nat.mod_eq_of_lt hv
  obtain ⟨b0, hb0, hbi, hbad⟩ := hh.bs a hh.a2
  rw [hb] at hb0
  cases hb0
  have hnx := hbi.nx
  obtain ⟨i, hi⟩ : ∃ i : Nat, t.next = i := ⟨t.next.toNat, by omega⟩
  obtain ⟨i', e, c1, p1, p2, p3⟩ := put_spec (a := a) (q := planP (t.version + 1) c.blocks.length u l) (8 - i) c i b B (by omega) up hb hbad hbi (by omega) hc (by omega)
  have hp0 : putC c t.area t.next (planP (t.version + 1) c.blocks.length u l) = (i', e, c1) := by rw [ha, hi, putC_eq]; exact p1
  have hp := hh.put (k := a) (V := t.version + 1) (u' := u) (l' := l) hh.a2 hb hV ok p2
  have hS : keepS t u l c = keepGo 4 (a : Nat) (planP (t.version + 1) c.blocks.length u l) ⟨(a : Nat), i', e, c1⟩ := by
    unfold keepS
    simp only []
    rw [hp0, ha]
  have key : KOut c t.version.toNat t.uses t.lost u l a (keepS t u l c) ∧ Fr2 c (keepS t u l c).c ∧ Cnt (keepS t u l c).c (B + 100) := by
    rw [hS]
    have hfr := p2.fr.two hh.a2
    have hkk : e ≠ 34 → keepGo 4 (a : Nat) (planP (t.version + 1) c.blocks.length u l) ⟨(a : Nat), i', e, c1⟩ = ⟨(a : Nat), i', e, c1⟩ := fun hne => by
      unfold keepGo; rw [if_neg hne]
    rcases p2.how with ⟨rfl, q2, q3⟩ | ⟨rfl, q2⟩ | ⟨rfl, q2, q3, q4⟩
    · rw [hkk (by decide)]
      refine ⟨.inr ⟨rfl, q2, q3, ?_⟩, hfr, ⟨by have := p3.p0; simp only; omega, by have := p3.w0; simp only; omega⟩⟩
      rcases hp.2.1 rfl with h5 | h5
      · exact .inl h5
      · exact .inr ⟨_, h5⟩
    · rw [hkk (by decide)]
      obtain ⟨b2, m1, m2, m3, m4, m5, m6, m7⟩ := p2.blk
      obtain ⟨j, hj, _, n2, n3, _⟩ := m7 rfl
      exact ⟨.inl ⟨rfl, q2, a, rfl, hp.1 rfl, b2, m1, by simp only; omega, by simp only; omega⟩, hfr, ⟨by have := p3.p0; simp only; omega, by have := p3.w0; simp only; omega⟩⟩
    · have h10 := p2.fr.fp
      have h11 := p2.fr.fw
      have hlen : c1.blocks.length = c.blocks.length := p2.fr.len
      obtain ⟨r1, r2, r3⟩ := loop_spec (n := c.blocks.length) (V := t.version + 1) (u := t.uses) (l := t.lost) hh.a2 hV ok 4 ⟨(a : Nat), i', 34, c1⟩ (B + 8) rfl hlen (hp.2.2 rfl) (up.of p2.fr.dead p2.fr.out q2) (by simp only; omega) (by simp only; omega) ⟨by have := p3.p0; simp only; omega, by have := p3.w0; simp only; omega⟩ (by omega)
      refine ⟨?_, hfr.trans r2, ⟨by have := r3.p0; omega, by have := r3.w0; omega⟩⟩
      rcases r1 with r1 | ⟨r1, r4, r5, r6⟩
      · exact .inl r1
      · exact .inr ⟨r1, r4, fun hpo => r5 (by show c1.after < 0; rw [(p2.fr.pos hpo).1]; exact hpo), r6⟩
  obtain ⟨k1, k2, k3⟩ := key
  generalize hs : keepS t u l c = s at *
  rcases k1 with ⟨e0, h1, k, h2, h3, b2, h4, h5, h6⟩ | ⟨e0, h1, h2, h3⟩
  · refine ⟨0, ⟨u, l, t.version + 1, s.area, s.next, s.next - 1⟩, s.c, ?_, k2, k3, .inl ⟨rfl, up.of k2.dead k2.out h1, ⟨k, h2, ?_, b2, h4, h5, h6⟩, rfl, rfl, hV⟩⟩
    · unfold keepC
      simp only [hs]
      rw [if_neg (by rw [e0]; decide)]
    · show Hold s.c (t.version + 1).toNat u l k
      rw [hV]; exact h3
  · refine ⟨30, t, s.c, ?_, k2, k3, .inr ⟨rfl, h1, h2, rfl, ?_⟩⟩
    · unfold keepC
      simp only [hs]
      rw [if_pos (by rw [e0]; decide), e0]
    · rcases h3 with h3 | h3
      · exact .inl ⟨a, h3⟩
      · exact .inr h3
/-- A chip is opened. -/
theorem open_hold {c : Chip} {v a : Nat} {u l : List Int} (up : Up c) (h : Hold c v u l a) : ∃ t, openC c = (0, t) ∧ TI c t ∧ t.uses = u ∧ t.lost = l ∧ t.version.toNat = v := by
  have hlen : 2 ≤ c.blocks.length := by have := h.ok.n1; omega
  have hm : mayE c 0 0 = 0 := mayU (i := 0) (j := 0) up (by omega) (by omega)
  have hrd : ∀ k < 2, ∀ b, c.blocks[k]? = some b → ∀ (j : Nat) (hj : j < 8), readP c (k : Nat) (j : Nat) = b.pages[j] := fun k hk b hb j hj => read_of (mayU up (by omega) hj) hb hj
  obtain ⟨b, hb, j, hj, hr⟩ := h.ex
  obtain ⟨t, ho, hi⟩ := openC_some hm h.a2 hj (by rw [hrd a h.a2 b hb j hj]; exact hr)
  refine ⟨t, ho, ?_⟩
  obtain ⟨k, hk⟩ : ∃ k : Nat, t.area = k := ⟨t.area.toNat, by have := hi.area; omega⟩
  have hk2 : k < 2 := by have := hi.area; omega
  obtain ⟨b2, hb2, hbi2, _⟩ := h.bs k hk2
  obtain ⟨⟨r1, r2⟩, r3⟩ := hi.rc
  obtain ⟨j2, hj2⟩ : ∃ j : Nat, t.at' = j := ⟨t.at'.toNat, by omega⟩
  have hj28 : j2 < 8 := by omega
  rw [hk, hj2, hrd k hk2 b2 hb2 j2 hj28] at r3
  have h1 := h.le k hk2 b2 hb2 j2 hj28 _ _ _ r3
  have h2 := hi.le a h.a2 j hj v u l (by rw [hrd a h.a2 b hb j hj]; exact hr)
  have hv : t.version.toNat = v := by omega
  obtain ⟨h3, h4⟩ := h1.2 hv
  refine ⟨⟨k, hk, ?_, b2, hb2, hi.l0.1, ?_⟩, h3, h4, hv⟩
  · rw [hv, h3, h4]
    refine ⟨h.ok, hk2, h.bs, h.le, ⟨b2, hb2, j2, hj28, ?_⟩⟩
    rw [r3, hv, h3, h4]
  · rcases (show t.next ≤ b2.next ∨ b2.next < t.next by omega) with h5 | h5
    · exact h5
    · exfalso
      have hnx := hbi2.nx
      have hl := hi.l0
      have hnb := hi.nb (by omega)
      obtain ⟨i, hi2⟩ : ∃ i : Nat, t.next - 1 = i := ⟨(t.next - 1).toNat, by omega⟩
      rw [hk, hi2, hrd k hk2 b2 hb2 i (by omega), hbi2.bl i (by omega) (by omega), blankP_b] at hnb
      cases hnb
end Go.Proofs.YtkfcpjohblddmaaGreat
end
section
/- Walks of the reference of tables. -/
namespace Go.Proofs.YtkfcpjohblddmaaGreat
open Go.K
set_option linter.unusedVariables false
set_option linter.unusedSimpArgs false
abbrev tB : TypeId := 4
instance : Cel Bool := ⟨1, fun b => [.bool b], fun _ => rfl, fun _ => rfl⟩
/-- The document's table, and where it lies. -/
structure RTab where
  b : Nat
  u : Sl Int
  l : Sl Bool
abbrev refC (r : RTab) : List Value := [r.u.val, r.l.val]
def atB (l : List Bool) (i : Int) : Bool := l.getD i.toNat false
theorem atB_get {l : List Bool} {i : Int} (h0 : 0 ≤ i) (h1 : i < l.length) : l[i.toNat]? = some (atB l i) := by
  have : i.toNat < l.length := by omega
  simp [atB, List.getD_eq_getElem?_getD, this]
/-- Is a block a spare? -/
def spareR (u : List Int) (l : List Bool) (b : Int) : Bool := !((decide (b < 2) || decide ((l.length : Int) ≤ b)) || atB l b) && !hasI u b
theorem has_at {l : List Int} {x i : Int} (h0 : 0 ≤ i) (h1 : i < l.length) (h : at0 l i = x) : hasI l x = true := by
  apply has_mem.2
  have : i.toNat < l.length := by omega
  rw [← h]
  have e : at0 l i = l[i.toNat] := by simp [at0, List.getD_eq_getElem?_getD, this]
  rw [e]
  exact List.getElem_mem this
theorem has_no {l : List Int} {x : Int} (h : ∀ k : Int, 0 ≤ k → k < l.length → at0 l k ≠ x) : hasI l x = false := by
  cases hh : hasI l x with
  | false => rfl
  | true =>
    obtain ⟨i, hi, e⟩ := List.getElem_of_mem (has_mem.1 hh)
    refine absurd ?_ (h i (by omega) (by omega))
    simp [at0, List.getD_eq_getElem?_getD, hi, e]
section
variable {r : RTab}
def firstR (u : List Int) (l : List Bool) : Int := match (List.range l.length).find? fun (b : Nat) => spareR u l b with | some b => (b : Int) | none => -1
theorem first_found {u : List Int} {l : List Bool} {i : Nat} (hi : i < l.length) (hn : ∀ k < i, spareR u l k = false) (h : spareR u l i = true) : firstR u l = i := by
  unfold firstR
  have : (List.range l.length).find? (fun (b : Nat) => spareR u l b) = some i := by
    rw [List.find?_range_eq_some]
    exact ⟨h, List.mem_range.2 hi, fun j hj => by rw [hn j hj]; rfl⟩
  rw [this]
theorem first_none {u : List Int} {l : List Bool} (hn : ∀ k < l.length, spareR u l k = false) : firstR u l = -1 := by
  unfold firstR
  have : (List.range l.length).find? (fun (b : Nat) => spareR u l b) = none := by
    rw [List.find?_eq_none]
    intro x hx
    rw [hn x (List.mem_range.1 hx)]; simp
  rw [this]
end
end Go.Proofs.YtkfcpjohblddmaaGreat
end
section
/- Walks of the reference of tables, second part: new tables. -/
namespace Go.Proofs.YtkfcpjohblddmaaGreat
open Go.K
set_option linter.unusedVariables false
set_option linter.unusedSimpArgs false
/-- Which blocks are bad. -/
def badL (n : Nat) (l : List Int) : List Bool := (List.range n).map fun i => hasI l (i : Nat)
theorem badL_len (n : Nat) (l : List Int) : (badL n l).length = n := by simp [badL]
theorem zrep_false (n : Nat) : zrep n [Value.bool false] = cells (badL n []) := by
  unfold badL
  induction n with
  | zero => rfl
  | succ n ih =>
    have e : ∀ m : Nat, (List.range m).map (fun i => hasI [] ((i : Nat) : Int)) = List.replicate m false := fun m => by
      apply List.ext_getElem
      · simp
      · intro i h1 h2; simp [has_nil]
    rw [e] at ih ⊢
    rw [List.replicate_succ, zrep, ih]
    rfl
theorem has_snoc (l : List Int) (x y : Int) : hasI (l ++ [x]) y = (hasI l y || decide (x = y)) := by
  have e : ∀ l : List Int, hasI l y = l.any (· == y) := fun l => idxF_any l (· == y)
  rw [e, e, List.any_append]
  simp [BEq.beq]
theorem badL_step {n : Nat} {l : List Int} {x : Int} (h : 0 ≤ x ∧ x < n) : badL n (l ++ [x]) = (badL n l).set x.toNat true := by
  apply List.ext_getElem
  · simp [badL]
  · intro i h1 h2
    rw [List.getElem_set]
    have : (badL n (l ++ [x]))[i] = hasI (l ++ [x]) (i : Nat) := by simp [badL]
    rw [this, has_snoc]
    split
    · rename_i e; simp; right; omega
    · rename_i e
      have : ¬ x = (i : Int) := by omega
      simp [badL, this]
/-- The blocks for use, of those ahead of i. -/
def fmtV (l : List Bool) (size : Int) : Nat → List Int
  | 0 => []
  | i + 1 => if atB l (i : Nat) = true then fmtV l size i else if (decide (2 ≤ (i : Int)) && decide (((fmtV l size i).length : Int) < size)) = true then fmtV l size i ++ [(i : Int)] else fmtV l size i
theorem fmtV_full {l : List Bool} {size : Int} {i : Nat} (h : ¬ ((fmtV l size i).length : Int) < size) : ∀ k, fmtV l size (i + k) = fmtV l size i
  | 0 => rfl
  | k + 1 => by
    have ih := fmtV_full h k
    have e : fmtV l size (i + (k + 1)) = if atB l ((i + k : Nat) : Int) = true then fmtV l size (i + k) else if (decide (2 ≤ ((i + k : Nat) : Int)) && decide (((fmtV l size (i + k)).length : Int) < size)) = true then fmtV l size (i + k) ++ [((i + k : Nat) : Int)] else fmtV l size (i + k) := rfl
    rw [e, ih]
    split
    · rfl
    · rw [if_neg (by simp only [Bool.and_eq_true, decide_eq_true_eq]; omega)]
theorem fmtV_two (l : List Bool) (size : Int) : fmtV l size 2 = [] := by
  have e1 : fmtV l size 1 = [] := by
    show (if _ then _ else _) = _
    split
    · rfl
    · rw [if_neg (by simp)]; rfl
  show (if _ then _ else _) = _
  rw [e1]
  split
  · rfl
  · rw [if_neg (by simp)]
theorem fmtV_len (l : List Bool) (size : Int) : ∀ i, (fmtV l size i).length ≤ i
  | 0 => Nat.le_refl _
  | i + 1 => by
    have ih := fmtV_len l size i
    show (if _ then _ else _ : List Int).length ≤ _
    split
    · omega
    · split
      · simp; omega
      · omega
def fmtX (l : List Bool) : Bool := (atB l 0 || atB l 1) || decide (((fmtV l ((l.length : Int) - 6) l.length).length : Int) < (l.length : Int) - 6)
section
variable {r : RTab}
end
end Go.Proofs.YtkfcpjohblddmaaGreat
end
section
/- Walks of the laws of tables. -/
namespace Go.Proofs.YtkfcpjohblddmaaGreat
open Go.K
set_option linter.unusedVariables false
set_option linter.unusedSimpArgs false

theorem new2_fn {pp : Nat} {n : Int} {s : Sl Int} {T : TypeId} : Does Tryz.prog 21 [ptr pp, .int .i64 n, s.val] ((pp, true, C [.bool false, .int .i64 (-1), .int .i64 0] tPw) :: (s.hp T ++ []))
    (fun v H => (∃ aC aB, v = .tuple #[ptr aC, .int .i64 0] ∧ H = chH (newG (-1) 0 pp aC aB n.toNat s.list) ++ (s.hp T ++ []) ∧ okNew n s.list = true) ∨ (v = .tuple #[.pointer none, .int .i64 1] ∧ H = (s.hp T ++ []) ∧ okNew n s.list = false)) :=
  (new_fn (off := false) (after := -1) (keep := 0)).mono fun v H h => by
    unfold NewR at h
    split at h
    · rename_i h0; obtain ⟨aC, aB, h1, h2⟩ := h; exact .inl ⟨aC, aB, h1, h2, h0⟩
    · rename_i h0; exact .inr ⟨h.1, h.2, by simpa using h0⟩
theorem new3_fn {pp b : Nat} : Does Tryz.prog 21 [ptr pp, .int .i64 16, .slice (some ⟨b, 0, none⟩) 1 1] [(pp, true, C [.bool false, .int .i64 (-1), .int .i64 0] tPw), (b, true, C [.int .i64 3] tI)]
    (fun v H => ∃ aC aB, v = .tuple #[ptr aC, .int .i64 0] ∧ H = chH (newG (-1) 0 pp aC aB 16 [3]) ++ [(b, true, C [.int .i64 3] tI)]) := by
  have h := new2_fn (pp := pp) (n := 16) (s := .own b [3] 1 [] ⟨by simp, Nat.le_refl _, by simp⟩) (T := tI)
  rw [Sl.hp_own] at h
  refine h.mono fun v H hh => ?_
  rcases hh with ⟨aC, aB, h1, h2, _⟩ | ⟨_, _, h3⟩
  · exact ⟨aC, aB, h1, h2⟩
  · exact absurd h3 (show ¬ okNew 16 [3] = false by decide)
theorem format_ok {c c' : Chip} {t : TS} (hb : 2 ≤ c.blocks.length ∧ c.blocks.length ≤ 1000) (hf : formatC c = (0, t, c')) : Does Tryz.prog 42 [ptr c.aC] (chH c) (fun v H => ∃ tb : Tab, v = .tuple #[ptr tb.b, .int .i64 0] ∧ H = tabH c.aC tb ++ (chH c' ++ []) ∧ tb.ts = t) :=
  (format_fn hb).mono fun v H h => by
    unfold FormatR at h
    rw [hf] at h
    rcases h with ⟨tb, h1, h2, h3, _⟩ | ⟨_, _, h3⟩
    · exact ⟨tb, h1, h2, h3⟩
    · exact absurd rfl h3
theorem at_ok {a : Nat} {t : Tab} {i : Int} : Does Tryz.prog 96 [ptr t.b, .int .i64 i] (tabH a t) (Is (.tuple #[.int .i64 (atT t.ts i).1, .bool (atT t.ts i).2]) (tabH a t)) := at_fn
end Go.Proofs.YtkfcpjohblddmaaGreat
end
section
/- Walks of the laws of tables: is a table the document's; a step of the document's. -/
namespace Go.Proofs.YtkfcpjohblddmaaGreat
open Go.K
set_option linter.unusedVariables false
set_option linter.unusedSimpArgs false
section
variable {r : RTab} {t : Tab} {c : Chip} {a : Nat}
/-- A table, and the document's. -/
structure RelT (t : TS) (u : List Int) (l : List Bool) (n : Nat) : Prop where
  uu : u = t.uses
  ll : l.length = n
  lo : ∀ b : Int, 0 ≤ b → b < n → atB l b = hasI t.lost b
  ln : t.lost.Nodup
  lr : ∀ x ∈ t.lost, 0 ≤ x ∧ x < n
theorem RelT.spare {t : TS} {u : List Int} {l : List Bool} {n : Nat} (h : RelT t u l n) (b : Int) : spareR u l b = spareB t n b := by
  unfold spareR spareB
  rw [h.ll, h.uu]
  by_cases h1 : 2 ≤ b ∧ b < n
  · rw [h.lo b (by omega) h1.2]
    have e1 : decide (b < 2) = false := by simp; omega
    have e2 : decide ((n : Int) ≤ b) = false := by simp; omega
    have e3 : decide (2 ≤ b) = true := by simp; omega
    have e4 : decide (b < (n : Int)) = true := by simp; omega
    rw [e1, e2, e3, e4]
    cases hasI t.lost b <;> cases hasI t.uses b <;> rfl
  · have e1 : (decide (b < 2) || decide ((n : Int) ≤ b)) = true := by simp; omega
    have e2 : (decide (2 ≤ b) && decide (b < (n : Int))) = false := by simp; omega
    rw [e1, e2]
    simp
theorem RelT.first {t : TS} {u : List Int} {l : List Bool} {n : Nat} (h : RelT t u l n) : spareV t n = if 0 ≤ firstR u l then (firstR u l, true) else (0, false) := by
  unfold firstR spareV spareU
  rw [h.ll]
  have : (fun b : Nat => spareR u l b) = fun b : Nat => spareB t n b := funext fun b => h.spare b
  rw [this]
  cases (List.range n).find? fun b : Nat => spareB t n b with
  | none => simp
  | some b => simp
theorem count_list : ∀ (l : List Bool) (k : Nat) (s : List Int), s.Nodup → (∀ x ∈ s, (k : Int) ≤ x ∧ x < k + l.length) → (∀ i (h : i < l.length), l[i] = hasI s ((k + i : Nat) : Int)) → l.countP id = s.length
  | [], k, s, hn, hr, _ => by
    cases s with
    | nil => rfl
    | cons x s => have := hr x (.head _); simp at this; omega
  | b :: l, k, s, hn, hr, hb => by
    have h0 := hb 0 (by simp)
    simp only [List.getElem_cons_zero, Nat.add_zero] at h0
    have ih := count_list l (k + 1) (s.erase (k : Int)) (hn.erase _) (fun x hx => by
      have h1 := (hn.mem_erase_iff).1 hx
      have h2 := hr x h1.2
      have h3 := h1.1
      simp only [List.length_cons] at h2
      push_cast
      omega) (fun i hi => by
      have h1 := hb (i + 1) (by simp; omega)
      simp only [List.getElem_cons_succ] at h1
      rw [h1, show ((k + 1 + i : Nat) : Int) = ((k + (i + 1) : Nat) : Int) by omega]
      cases hh : hasI s ((k + (i + 1) : Nat) : Int) with
      | true =>
        symm
        apply has_mem.2
        exact (hn.mem_erase_iff).2 ⟨by omega, has_mem.1 hh⟩
      | false =>
        symm
        cases h2 : hasI (s.erase (k : Int)) ((k + (i + 1) : Nat) : Int) with
        | false => rfl
        | true =>
          have := has_mem.2 ((hn.mem_erase_iff).1 (has_mem.1 h2)).2
          rw [hh] at this
          cases this)
    rw [List.countP_cons, ih]
    cases b with
    | true =>
      have hm := has_mem.1 h0.symm
      have := List.length_erase_of_mem hm
      have := List.length_pos_of_mem hm
      simp
      omega
    | false =>
      have hm : (k : Int) ∉ s := fun h => by rw [has_mem.2 h] at h0; cases h0
      rw [List.erase_of_not_mem hm]
      simp
theorem RelT.count {t : TS} {u : List Int} {l : List Bool} {n : Nat} (h : RelT t u l n) : l.countP id = t.lost.length :=
  count_list l 0 t.lost h.ln (fun x hx => by have := h.lr x hx; rw [h.ll]; omega) (fun i hi => by
    have := h.lo (i : Nat) (by omega) (by rw [h.ll] at hi; omega)
    rw [Nat.zero_add, ← this]
    simp [atB, List.getD_eq_getElem?_getD, hi])
theorem in_of {x : Bool} {i n : Int} (h : x = (decide (0 ≤ i) && decide (i < n))) (k : x = true) : 0 ≤ i ∧ i < n := by
  rw [k] at h
  have := h.symm
  simpa using this
theorem same_row {t : TS} {u : List Int} {i : Int} (h : u = t.uses) : (((!(atT t i).2 == (decide (0 ≤ i) && decide (i < (u.length : Int)))) || ((atT t i).2 && !decide ((atT t i).1 = at0 u i))) || (!(atT t i).2 && !decide ((atT t i).1 = 0))) = false := by
  subst h
  by_cases hi : 0 ≤ i ∧ i < t.uses.length
  · have e : atT t i = (at0 t.uses i, true) := by
      unfold atT
      rw [if_neg (by simp; omega)]
    rw [e]
    simp [hi]
  · have e : atT t i = (0, false) := by
      unfold atT
      rw [if_pos (by simp; omega)]
    rw [e]
    simp
    omega
def stB (u : List Int) (l : List Bool) (o : OpV) : Int := if o.least = true then max (firstR u l) 0 else o.block
/-- A step of the document's table. -/
def StepR (u : List Int) (l : List Bool) (o : OpV) (b : Int) (ok : Bool) (u' : List Int) (l' : List Bool) : Prop :=
  (evn o.kind = true → ok = spareR u l b ∧ u' = u ∧ l' = if ok = true then l.set b.toNat true else l) ∧
  (evn o.kind = false → ok = !((decide (o.logical < 0) || decide ((u.length : Int) ≤ o.logical)) || !spareR u l b) ∧ u' = (if ok = true then u.set o.logical.toNat b else u) ∧ l' = if ok = true then l.set (at0 u o.logical).toNat true else l)
section
variable {u u1 u2 : List Int} {l l1 l2 : List Bool} {o : OpV} {b : Int}
theorem st_l0 (hk : evn o.kind = true) (hx : spareR u1 l1 b = false) (hu : u1 = u) (hl : l1 = l) : StepR u l o b false u1 l1 := by
  subst hu hl
  exact ⟨fun _ => ⟨hx.symm, rfl, rfl⟩, fun h => by rw [hk] at h; cases h⟩
theorem st_l1 (hk : evn o.kind = true) (hx : spareR u1 l1 b = true) (hu : u1 = u) (hl : l1 = l) (hu2 : u2 = u1) (hl2 : l2 = l1.set b.toNat true) : StepR u l o b true u2 l2 := by
  subst hu hl hu2 hl2
  exact ⟨fun _ => ⟨hx.symm, rfl, rfl⟩, fun h => by rw [hk] at h; cases h⟩
theorem st_s0 (hk : evn o.kind = false) (hx : ((decide (o.logical < 0) || decide ((u1.length : Int) ≤ o.logical)) || !spareR u1 l1 b) = true) (hu : u1 = u) (hl : l1 = l) : StepR u l o b false u1 l1 := by
  subst hu hl
  exact ⟨fun h => (by rw [hk] at h; cases h), fun _ => ⟨by rw [hx]; rfl, rfl, rfl⟩⟩
theorem st_s1 (hk : evn o.kind = false) (hx : ((decide (o.logical < 0) || decide ((u1.length : Int) ≤ o.logical)) || !spareR u1 l1 b) = false) (hu : u1 = u) (hl : l1 = l) (hu2 : u2 = u1.set o.logical.toNat b) (hl2 : l2 = l1.set (at0 u1 o.logical).toNat true) : StepR u l o b true u2 l2 := by
  subst hu hl hu2 hl2
  exact ⟨fun h => (by rw [hk] at h; cases h), fun _ => ⟨by rw [hx]; rfl, rfl, rfl⟩⟩
end
end
end Go.Proofs.YtkfcpjohblddmaaGreat
end
section
/- Plain laws: tables and the document's. -/
namespace Go.Proofs.YtkfcpjohblddmaaGreat
open Go.K
set_option linter.unusedVariables false
set_option linter.unusedSimpArgs false
/-- A table's plan, of a chip of n blocks. -/
structure WF (n : Nat) (u l : List Int) : Prop where
  n1 : 16 ≤ n
  n2 : n ≤ 40
  un : u.Nodup
  len : u.length + 6 = n
  us : ∀ x ∈ u, 2 ≤ x ∧ x < n ∧ x ∉ l
  ln : l.Nodup
  ls : ∀ x ∈ l, 2 ≤ x ∧ x < n
theorem WF.lost4 {n : Nat} {u l : List Int} (h : WF n u l) : l.length ≤ 4 := by
  have h1 := h.n1
  have := nodup_le (l := u ++ l) (m := (List.range (n - 2)).map fun i => ((i : Nat) : Int) + 2) (by
    rw [List.nodup_append]
    exact ⟨h.un, h.ln, fun a ha b hb e => by subst e; exact (h.us a ha).2.2 hb⟩) (fun x hx => by
      have hr : 2 ≤ x ∧ x < n := by
        rcases List.mem_append.1 hx with h1 | h1
        · have := h.us x h1; exact ⟨this.1, this.2.1⟩
        · exact h.ls x h1
      exact List.mem_map.2 ⟨(x - 2).toNat, List.mem_range.2 (by omega), by omega⟩)
  have h2 := h.len
  simp at this
  omega
theorem WF.okP {n : Nat} {u l : List Int} (h : WF n u l) : OkP n u l :=
  ⟨h.n1, h.n2, h.len, by have := h.lost4; omega, fun x hx => by have := h.us x hx; have := h.n2; omega, fun x hx => by have := h.ls x hx; have := h.n2; omega⟩
theorem spare_n {t : TS} {n : Nat} {b : Int} (h : spareB t n b = true) : 2 ≤ b ∧ b < n ∧ b ∉ t.uses ∧ b ∉ t.lost := by
  unfold spareB at h
  simp only [Bool.and_eq_true, Bool.not_eq_true', decide_eq_true_eq] at h
  obtain ⟨⟨⟨h1, h2⟩, h3⟩, h4⟩ := h
  exact ⟨h1, h2, fun e => (by rw [has_mem.2 e] at h3; cases h3), fun e => (by rw [has_mem.2 e] at h4; cases h4)⟩
theorem WF.lose {n : Nat} {t : TS} {b : Int} {l : List Int} (h : WF n t.uses t.lost) (hb : spareB t n b = true) (hp : l.Perm (t.lost ++ [b])) : WF n t.uses l := by
  obtain ⟨b1, b2, b3, b4⟩ := spare_n hb
  have hm : ∀ x, x ∈ l ↔ x ∈ t.lost ∨ x = b := fun x => by rw [hp.mem_iff]; simp
  refine ⟨h.n1, h.n2, h.un, h.len, fun x hx => ?_, hp.nodup_iff.2 (nodup_snoc h.ln b4), fun x hx => ?_⟩
  · obtain ⟨h1, h2, h4⟩ := h.us x hx
    exact ⟨h1, h2, fun e => by rcases (hm x).1 e with e | e; exact h4 e; subst e; exact b3 hx⟩
  · rcases (hm x).1 hx with e | e
    · exact h.ls x e
    · subst e; exact ⟨b1, b2⟩
theorem at0_mem {l : List Int} {i : Int} (hi : 0 ≤ i ∧ i < l.length) : at0 l i ∈ l := List.mem_of_getElem? (at0_get hi.1 hi.2)
theorem WF.swap {n : Nat} {t : TS} {b i : Int} {l : List Int} (h : WF n t.uses t.lost) (hi : 0 ≤ i ∧ i < t.uses.length) (hb : spareB t n b = true) (hp : l.Perm (t.lost ++ [at0 t.uses i])) : WF n (t.uses.set i.toNat b) l := by
  obtain ⟨b1, b2, b3, b4⟩ := spare_n hb
  have hlt : i.toNat < t.uses.length := by omega
  have hat : at0 t.uses i = t.uses[i.toNat] := by simp [at0, List.getD_eq_getElem?_getD, hlt]
  rw [hat] at hp
  have hu := h.us _ (List.getElem_mem hlt)
  have hm : ∀ x, x ∈ l ↔ x ∈ t.lost ∨ x = t.uses[i.toNat] := fun x => by rw [hp.mem_iff]; simp
  refine ⟨h.n1, h.n2, nodup_set h.un b3, by rw [List.length_set]; exact h.len, fun x hx => ?_, hp.nodup_iff.2 (nodup_snoc h.ln hu.2.2), fun x hx => ?_⟩
  · rcases mem_set h.un hlt hx with e | ⟨e, hne⟩
    · subst e
      exact ⟨b1, b2, fun e => by rcases (hm _).1 e with e | e; exact b4 e; exact b3 (by rw [e]; exact List.getElem_mem hlt)⟩
    · obtain ⟨h1, h2, h4⟩ := h.us x e
      exact ⟨h1, h2, fun e => by rcases (hm x).1 e with e | e; exact h4 e; exact hne e⟩
  · rcases (hm x).1 hx with e | e
    · exact h.ls x e
    · subst e; exact ⟨hu.1, hu.2.1⟩
theorem has_perm {l m : List Int} (h : l.Perm m) (x : Int) : hasI l x = hasI m x := by
  cases h1 : hasI m x with
  | true => exact has_mem.2 (h.mem_iff.2 (has_mem.1 h1))
  | false =>
    cases h2 : hasI l x with
    | false => rfl
    | true => rw [has_mem.2 (h.mem_iff.1 (has_mem.1 h2))] at h1; cases h1
theorem RelT.of {t t' : TS} {u : List Int} {l : List Bool} {n : Nat} (h : RelT t u l n) (h1 : t'.uses = t.uses) (h2 : t'.lost = t.lost) : RelT t' u l n :=
  ⟨by rw [h1]; exact h.uu, h.ll, by rw [h2]; exact h.lo, by rw [h2]; exact h.ln, by rw [h2]; exact h.lr⟩
theorem RelT.mark {t t' : TS} {u u' : List Int} {l : List Bool} {n : Nat} {x : Int} {lost : List Int} (h : RelT t u l n) (hx : 0 ≤ x ∧ x < n) (hp : lost.Perm (t.lost ++ [x])) (hn : lost.Nodup) (h1 : t'.uses = u') (h2 : t'.lost = lost) : RelT t' u' (l.set x.toNat true) n := by
  have hm : ∀ y, y ∈ lost ↔ y ∈ t.lost ∨ y = x := fun y => by rw [hp.mem_iff]; simp
  refine ⟨h1.symm, by rw [List.length_set]; exact h.ll, fun b h3 h4 => ?_, by rw [h2]; exact hn, fun y hy => ?_⟩
  · rw [h2, has_perm hp, has_snoc, ← h.lo b h3 h4]
    unfold atB
    rw [List.getD_eq_getElem?_getD, List.getD_eq_getElem?_getD, List.getElem?_set]
    have hll := h.ll
    by_cases e : x = b
    · subst e
      rw [if_pos rfl, if_pos (by omega)]
      simp
    · rw [if_neg (by omega)]
      simp [e]
  · rw [h2] at hy
    rcases (hm y).1 hy with e | e
    · exact h.lr y e
    · subst e; exact hx
/-- A step of the document's table, and the call. -/
theorem do_step {t : TS} {c : Chip} {u u' : List Int} {l l' : List Bool} {o : OpV} {b : Int} {ok : Bool} {r : Int × TS × Chip} (hr : RelT t u l c.blocks.length) (hw : WF c.blocks.length t.uses t.lost) (hs : StepR u l o b ok u' l') (hd : DoD t c o b r) :
    (ok = false ∧ r = (1, t, c)) ∨ (ok = true ∧ ∃ lost, r = keepC t u' lost c ∧ WF c.blocks.length u' lost ∧ lost.length = t.lost.length + 1 ∧ ∀ t' : TS, t'.uses = u' → t'.lost = lost → RelT t' u' l' c.blocks.length) := by
  have hsp := hr.spare b
  have huu := hr.uu
  cases hk : evn o.kind with
  | true =>
    obtain ⟨s1, s2, s3⟩ := hs.1 hk
    obtain ⟨d1, d2⟩ := hd.1 hk
    cases hx : spareB t c.blocks.length b with
    | false =>
      rw [hsp, hx] at s1
      exact .inl ⟨s1, d2 hx⟩
    | true =>
      rw [hsp, hx] at s1
      subst s1
      obtain ⟨lost, hp, rfl⟩ := d1 hx
      have hw' := hw.lose hx hp
      rw [if_pos rfl] at s3
      have hb := spare_n hx
      refine .inr ⟨rfl, lost, by rw [s2, huu], by rw [s2, huu]; exact hw', by rw [hp.length_eq]; simp, fun t' h1 h2 => ?_⟩
      rw [s3]
      exact hr.mark (by omega) hp hw'.ln h1 h2
  | false =>
    obtain ⟨s1, s2, s3⟩ := hs.2 hk
    obtain ⟨d1, d2⟩ := hd.2 hk
    have hat : (atT t o.logical).2 = !(decide (o.logical < 0) || decide ((t.uses.length : Int) ≤ o.logical)) := by
      unfold atT
      split
      · rename_i h; rw [h]; rfl
      · rename_i h
        cases h2 : (decide (o.logical < 0) || decide ((t.uses.length : Int) ≤ o.logical)) with
        | true => exact absurd h2 h
        | false => rfl
    have hok : ok = ((atT t o.logical).2 && spareB t c.blocks.length b) := by
      rw [s1, hsp, hat, huu]
      cases (decide (o.logical < 0) || decide ((t.uses.length : Int) ≤ o.logical)) <;> cases spareB t c.blocks.length b <;> rfl
    cases hx : ((atT t o.logical).2 && spareB t c.blocks.length b) with
    | false =>
      rw [hx] at hok
      exact .inl ⟨hok, d2 hx⟩
    | true =>
      rw [hx] at hok
      subst hok
      obtain ⟨lost, hp, rfl⟩ := d1 hx
      simp only [Bool.and_eq_true] at hx
      have hi : 0 ≤ o.logical ∧ o.logical < t.uses.length := by
        have := hx.1
        rw [hat] at this
        simp at this
        omega
      have hw' := hw.swap hi hx.2 hp
      rw [if_pos rfl] at s2 s3
      have hxu := hw.us _ (at0_mem hi)
      refine .inr ⟨rfl, lost, by rw [s2, huu], by rw [s2, huu]; exact hw', by rw [hp.length_eq]; simp, fun t' h1 h2 => ?_⟩
      rw [s3, huu]
      exact hr.mark (by omega) hp hw'.ln h1 h2
/-- All that is known between two calls of a script: k calls were made. -/
structure JI (c : Chip) (t : TS) (u : List Int) (l : List Bool) (n k : Nat) : Prop where
  up : Up c
  ti : TI c t
  rel : RelT t u l n
  wf : WF n t.uses t.lost
  len : c.blocks.length = n
  ver : t.version.toNat ≤ k + 1
  cnt : Cnt c (1000 * k + 1000)
  pf : c.pf.list = []
  wfl : c.wf.list = []
  af : c.after < 0
theorem JI.keep {c : Chip} {t : TS} {u u' lost : List Int} {l l' : List Bool} {n k : Nat} {e : Int} {t' : TS} {c' : Chip} (h : JI c t u l n k) (hk : k ≤ 1000) (hr : (e, t', c') = keepC t u' lost c) (hw : WF n u' lost) (hrel : ∀ t' : TS, t'.uses = u' → t'.lost = lost → RelT t' u' l' n) : e = 0 ∧ JI c' t' u' l' n (k + 1) := by
  have hfp : FP c ≤ 7 := by unfold FP; rw [h.pf]; simp
  have hfw : FW c ≤ 3 := by unfold FW; rw [h.wfl]; simp
  obtain ⟨e2, t2, c2, h1, h2, h3, h4⟩ := keep_hold (u := u') (l := lost) (B := 1000 * k + 1000) h.up h.ti (by have := h.ver; omega) (by rw [h.len]; exact hw.okP) hfp hfw h.cnt (by omega)
  rw [h1] at hr
  simp only [Prod.mk.injEq] at hr
  obtain ⟨rfl, rfl, rfl⟩ := hr
  rcases h4 with ⟨h5, h6, h7, h8, h9, h10⟩ | ⟨_, _, h5, _⟩
  · refine ⟨h5, h6, h7, hrel _ h8 h9, by rw [h8, h9]; exact hw, h2.len.trans h.len, by have := h.ver; omega, ?_, by rw [h2.pf]; exact h.pf, by rw [h2.wf]; exact h.wfl, by rw [(h2.pos h.af).1]; exact h.af⟩
    have p := h3.p0
    have q := h3.w0
    exact ⟨by push_cast; omega, by push_cast; omega⟩
  · exact absurd h.af h5
theorem JI.mono {c : Chip} {t : TS} {u : List Int} {l : List Bool} {n k : Nat} (h : JI c t u l n k) : JI c t u l n (k + 1) :=
  ⟨h.up, h.ti, h.rel, h.wf, h.len, by have := h.ver; omega, ⟨by have := h.cnt.p0; push_cast; omega, by have := h.cnt.w0; push_cast; omega⟩, h.pf, h.wfl, h.af⟩
/-- The table that is opened behind it. -/
theorem JI.open {c : Chip} {t : TS} {u : List Int} {l : List Bool} {n k : Nat} (h : JI c t u l n k) : ∃ t', openC c = (0, t') ∧ JI c t' u l n k := by
  obtain ⟨a, ha, hh, _⟩ := h.ti
  obtain ⟨t', h1, h2, h3, h4, h5⟩ := open_hold h.up hh
  exact ⟨t', h1, h.up, h2, h.rel.of h3 h4, by rw [h3, h4]; exact h.wf, h.len, by rw [h5]; exact h.ver, h.cnt, h.pf, h.wfl, h.af⟩
theorem JI.refS {c : Chip} {t : TS} {u : List Int} {l : List Bool} {n k : Nat} (h : JI c t u l n k) : u.length ≤ 1000 ∧ l.length ≤ 1000 ∧ ∀ x ∈ u, 0 ≤ x ∧ x < l.length := by
  have h1 := h.wf.n2
  have h2 := h.wf.len
  have h3 := h.rel.uu
  have h4 := h.rel.ll
  refine ⟨by rw [h3]; omega, by omega, fun x hx => ?_⟩
  rw [h3] at hx
  have := h.wf.us x hx
  omega
theorem JI.tabS {c : Chip} {t : Tab} {u : List Int} {l : List Bool} {n k : Nat} (h : JI c t.ts u l n k) : t.u.list.length ≤ 1000 ∧ t.l.list.length ≤ 11 ∧ 0 ≤ t.next ∧ (0 ≤ t.area ∧ t.area ≤ 1) := by
  have h1 := h.wf.n2
  have h2 : t.u.list.length + 6 = n := h.wf.len
  have h3 : t.l.list.length ≤ 4 := h.wf.lost4
  obtain ⟨a, h4, h5, b, h6, h7, h8⟩ := h.ti
  have h9 := h5.a2
  have h10 : t.area = a := h4
  have h11 : 0 ≤ t.next := h7
  omega
/-! a new chip -/
section
variable {aP aC aB n : Nat} {bad : List Int}
theorem badL_at {i : Int} (h : 0 ≤ i ∧ i < n) : atB (badL n bad) i = hasI bad i := by
  have : i.toNat < (badL n bad).length := by rw [badL_len]; omega
  simp only [atB, List.getD_eq_getElem?_getD, List.getElem?_eq_getElem this, Option.getD_some]
  simp only [badL, List.getElem_map, List.getElem_range]
  congr 1; omega
theorem fmtV_eq (hn : 2 ≤ n) (size : Int) : ∀ i, i ≤ n → fmtV (badL n bad) size i = (fmtU (newG (-1) 0 aP aC aB n bad) size i).1
  | 0, _ => rfl
  | i + 1, h => by
    have ih := fmtV_eq hn size i (by omega)
    have hb : badB (newG (-1) 0 aP aC aB n bad) (i : Nat) = atB (badL n bad) (i : Nat) := by rw [new_bad (by omega), badL_at (by omega)]
    unfold fmtV fmtU
    simp only []
    rw [hb, ih]
    split
    · rfl
    · split <;> rfl
theorem new_size (hn : 16 ≤ n ∧ n ≤ 40) : fmtSize (newG (-1) 0 aP aC aB n bad) = (n : Int) - 6 := by
  unfold fmtSize
  rw [new_len, w64_in (x := (n : Int) - 2) (by omega), w64_in (by omega)]
  omega
theorem new_uses (hn : 16 ≤ n ∧ n ≤ 40) : (fmtT (newG (-1) 0 aP aC aB n bad)).uses = fmtV (badL n bad) ((n : Int) - 6) n := by
  rw [fmtT_uses, new_size hn, new_len, fmtV_eq (aP := aP) (aC := aC) (aB := aB) (by omega) _ n (Nat.le_refl _)]
theorem new_fmtX (hn : 16 ≤ n ∧ n ≤ 40) : fmtBad (newG (-1) 0 aP aC aB n bad) = fmtX (badL n bad) := by
  unfold fmtBad fmtX
  rw [new_bad (by omega), new_bad (by omega), new_size hn, new_uses hn, badL_len, badL_at (by omega), badL_at (by omega)]
theorem new_JI (hn : 16 ≤ n ∧ n ≤ 40) (hx : fmtX (badL n bad) = false) : ∃ t c', formatC (newG (-1) 0 aP aC aB n bad) = (0, t, c') ∧ JI c' t (fmtV (badL n bad) ((n : Int) - 6) n) (badL n bad) n 0 ∧ c'.aC = aC ∧ c'.aP = aP := by
  have hnb : fmtBad (newG (-1) 0 aP aC aB n bad) = false := (new_fmtX hn).trans hx
  have hI := fmtI (newG (-1) 0 aP aC aB n bad) (size := (n : Int) - 6) (by omega) n
  have hu := new_uses (aP := aP) (aC := aC) (aB := aB) (bad := bad) hn
  have hl : (fmtT (newG (-1) 0 aP aC aB n bad)).lost = (fmtU (newG (-1) 0 aP aC aB n bad) ((n : Int) - 6) n).2 := by rw [fmtT_lost, new_size hn, new_len]
  rw [← fmtV_eq (by omega) _ n (Nat.le_refl _), ← hl] at hI
  obtain ⟨c', h1, h2⟩ := new_format (after := -1) (keep := 0) (aP := aP) (aC := aC) (aB := aB) (n := n) (bad := bad) (by omega) (by omega) hnb
  rw [hu] at h1 h2
  generalize (fmtT (newG (-1) 0 aP aC aB n bad)).lost = lost at *
  generalize hus : fmtV (badL n bad) ((n : Int) - 6) n = us at *
  have hbd : ∀ x : Int, 0 ≤ x → x < n → badB (newG (-1) 0 aP aC aB n bad) x = hasI bad x := fun x h2 h3 => new_bad (by omega)
  have hx2 : hasI bad 0 = false ∧ hasI bad 1 = false ∧ ¬ ((us.length : Int) < (n : Int) - 6) := by
    unfold fmtX at hx
    rw [badL_len, hus, badL_at (by omega), badL_at (by omega)] at hx
    simp only [Bool.or_eq_false_iff, decide_eq_false_iff_not] at hx
    exact ⟨hx.1.1, hx.1.2, hx.2⟩
  obtain ⟨hb0, hb1, hlen⟩ := hx2
  have hlo : ∀ x ∈ lost, 2 ≤ x ∧ x < n := fun x hx => by
    have := hI.ls x hx
    rw [hbd x this.1 this.2.1] at this
    refine ⟨?_, this.2.1⟩
    rcases (show x < 2 ∨ 2 ≤ x by omega) with h | h
    · rcases (show x = 0 ∨ x = 1 by omega) with rfl | rfl
      · rw [hb0] at this; exact absurd this.2.2 (by simp)
      · rw [hb1] at this; exact absurd this.2.2 (by simp)
    · exact h
  have hw : WF n us lost := ⟨hn.1, hn.2, hI.un, by have := hI.len; omega, fun x hx => by
    have := hI.us x hx
    exact ⟨this.1, this.2.1, fun h => by have h5 := (hI.ls x h).2.2; rw [this.2.2] at h5; cases h5⟩, hI.ln, hlo⟩
  have hrel : RelT ⟨us, lost, 1, 0, 1, 0⟩ us (badL n bad) n := ⟨rfl, badL_len _ _, fun b h3 h4 => by
    rw [badL_at ⟨h3, h4⟩]
    show hasI bad b = hasI lost b
    have hb := hbd b h3 h4
    cases hh : hasI bad b with
    | true => rw [hh] at hb; exact (has_mem.2 (hI.lb b h3 h4 hb)).symm
    | false =>
      rw [hh] at hb
      cases h5 : hasI lost b with
      | false => rfl
      | true => (have := (hI.ls b (has_mem.1 h5)).2.2; rw [hb] at this; cases this), hI.ln, fun x hx => by have := hlo x hx; omega⟩
  have hblk : ∀ k < 2, (newG (-1) 0 aP aC aB n bad).blocks[k]? = some (newB false) := fun k hk => by
    rw [new_block (by omega)]
    rcases (show k = 0 ∨ k = 1 by omega) with rfl | rfl
    · rw [show (((0 : Nat) : Int)) = 0 from rfl, hb0]
    · rw [show (((1 : Nat) : Int)) = 1 from rfl, hb1]
  have hlen' : c'.blocks.length = n := by rw [h2, prg_len, new_len]
  have hc0 : c'.blocks[0]? = some ⟨(newB false).pages.setIfInBounds 0 (planP 1 n us lost), 1, false⟩ := by
    rw [h2]
    exact prg_same (by rw [new_len]; omega)
  have hc1 : c'.blocks[1]? = some (newB false) := by
    rw [h2, prg_other (by omega)]
    exact hblk 1 (by omega)
  have hnp : ∀ (j : Nat) (h : j < 8), (newB false).pages[j] = blankP := fun j h => by simp [newB]
  have hp0 : ∀ (j : Nat) (h : j < 8), ((newB false).pages.setIfInBounds 0 (planP 1 n us lost))[j] = if 0 = j then planP 1 n us lost else blankP := fun j h => by
    rw [Vector.getElem_setIfInBounds]
    split
    · rfl
    · exact hnp j h
  have hrp : RP n (planP 1 n us lost) = some (1, us, lost) := rp_plan hw.okP
  have hg : c'.off = false ∧ c'.dead = false ∧ c'.out = false ∧ c'.after < 0 ∧ c'.pf.list = [] ∧ c'.wf.list = [] ∧ c'.pc = 1 ∧ c'.wc = 0 ∧ c'.aC = aC ∧ c'.aP = aP := by
    rw [h2]
    refine ⟨rfl, rfl, rfl, by show (-1 : Int) < 0; omega, rfl, rfl, ?_, rfl, rfl, rfl⟩
    show w64 (0 + 1) = 1
    exact w64_in (by omega)
  obtain ⟨g1, g2, g3, g4, g5, g6, g7, g8, g9, g10⟩ := hg
  refine ⟨_, c', h1, ⟨⟨g1, g2, g3⟩, ⟨0, rfl, ⟨?_, by omega, fun k hk => ?_, fun k hk b hb j hj w u l hr => ?_, ?_⟩, _, hc0, (show (0 : Int) ≤ 1 by decide), (show (1 : Int) ≤ 1 by decide)⟩, hrel, hw, hlen', (show (1#64).toNat ≤ 0 + 1 by decide), ⟨by rw [g7]; omega, by rw [g8]; omega⟩, g5, g6, g4⟩, g9, g10⟩
  · rw [hlen']; exact hw.okP
  · rcases (show k = 0 ∨ k = 1 by omega) with rfl | rfl
    · exact ⟨_, hc0, ⟨⟨by simp, by simp⟩, fun j hj hle => by simp only at hle ⊢; rw [hp0 j hj, if_neg (by omega)]⟩, rfl⟩
    · exact ⟨_, hc1, ⟨⟨by simp [newB], by simp [newB]⟩, fun j hj _ => hnp j hj⟩, rfl⟩
  · rw [hlen'] at hr
    rcases (show k = 0 ∨ k = 1 by omega) with rfl | rfl
    · rw [hc0] at hb
      cases hb
      simp only at hr
      rw [hp0 j hj] at hr
      split at hr
      · rw [hrp] at hr
        simp only [Option.some.injEq, Prod.mk.injEq] at hr
        obtain ⟨rfl, rfl, rfl⟩ := hr
        exact ⟨Nat.le_refl _, fun _ => ⟨rfl, rfl⟩⟩
      · rw [rp_blank] at hr; cases hr
    · rw [hc1] at hb
      cases hb
      rw [hnp j hj, rp_blank] at hr; cases hr
  · refine ⟨_, hc0, 0, by omega, ?_⟩
    rw [hlen']
    simp only
    rw [hp0 0 (by omega), if_pos rfl]
    exact hrp
end
end Go.Proofs.YtkfcpjohblddmaaGreat
end
section
/- Walk of the law BbtPlays. -/
namespace Go.Proofs.YtkfcpjohblddmaaGreat
open Go.K
set_option linter.unusedVariables false
set_option linter.unusedSimpArgs false
theorem format_b {c : Chip} {a : Nat} (ha : c.aC = a) (hb : 2 ≤ c.blocks.length ∧ c.blocks.length ≤ 1000) : Does Tryz.prog 42 [ptr a] (chH c) (FormatR a c) := by subst ha; exact format_fn hb
theorem open_b {c : Chip} {a : Nat} (ha : c.aC = a) (hb : 2 ≤ c.blocks.length ∧ c.blocks.length ≤ 1000) {t : TS} (ho : openC c = (0, t)) : Does Tryz.prog 55 [ptr a] (chH c) (fun v H => ∃ tb : Tab, v = .tuple #[ptr tb.b, .int .i64 0] ∧ H = tabH a tb ++ (chH c ++ []) ∧ tb.ts = t) := by
  subst ha
  refine (open_fn hb).mono fun v H h => ?_
  unfold OpenR at h
  rw [ho, if_pos rfl] at h
  exact h
theorem fails_format {aP aC aB n : Nat} {bad : List Int} (hn : 16 ≤ n ∧ n ≤ 40) (hx : fmtX (badL n bad) = true) : formatC (newG (-1) 0 aP aC aB n bad) = (34, ts0, newG (-1) 0 aP aC aB n bad) := by
  unfold formatC
  rw [if_neg (by rw [new_may (by omega) (by omega)]; simp), if_pos ((new_fmtX hn).trans hx)]
theorem okNew_bad {n : Int} {bad : List Int} (h : okNew n bad = true) : ∀ x ∈ bad, 0 ≤ x ∧ x < n := fun x hx => by
  unfold okNew at h
  simp only [Bool.and_eq_true] at h
  have := List.all_eq_true.1 h.2 x hx
  simpa using this
/-- A new chip is given a table. -/
theorem formatJ_fn {pp aC aB m : Nat} {bad : List Int} (hm : 16 ≤ m ∧ m ≤ 40) : Does Tryz.prog 42 [ptr aC] (chH (newG (-1) 0 pp aC aB m bad))
    (fun v H => (fmtX (badL m bad) = false ∧ ∃ (tb : Tab) (c' : Chip), v = .tuple #[ptr tb.b, .int .i64 0] ∧ H = tabH aC tb ++ (chH c' ++ []) ∧ c'.aC = aC ∧ c'.aP = pp ∧ JI c' tb.ts (fmtV (badL m bad) ((m : Int) - 6) m) (badL m bad) m 0) ∨
      (fmtX (badL m bad) = true ∧ v = .tuple #[.pointer none, .int .i64 34] ∧ H = chH (newG (-1) 0 pp aC aB m bad) ++ [])) := by
  have hlen : (newG (-1) 0 pp aC aB m bad).blocks.length = m := new_len
  refine (format_b (c := newG (-1) 0 pp aC aB m bad) (a := aC) rfl (by rw [hlen]; omega)).mono fun v H h => ?_
  cases hx : fmtX (badL m bad) with
  | false =>
    obtain ⟨t, c', h1, h2, h3, h4⟩ := new_JI (aP := pp) (aC := aC) (aB := aB) hm hx
    unfold FormatR at h
    rw [h1] at h
    rcases h with ⟨tb, rfl, rfl, h5, _⟩ | ⟨_, _, h6⟩
    · exact .inl ⟨rfl, tb, c', rfl, rfl, h3, h4, by rw [h5]; exact h2⟩
    · exact absurd rfl h6
  | true =>
    have h1 := fails_format (aP := pp) (aC := aC) (aB := aB) hm hx
    unfold FormatR at h
    rw [h1] at h
    rcases h with ⟨_, _, _, _, h5⟩ | ⟨rfl, rfl, _⟩
    · cases h5
    · exact .inr ⟨rfl, rfl, rfl⟩
end Go.Proofs.YtkfcpjohblddmaaGreat
end
section
/- Plain laws: what pages of a table's own blocks are, where nothing goes wrong; turned bits in them. -/
namespace Go.Proofs.YtkfcpjohblddmaaGreat
open Go.K
set_option linter.unusedVariables false
set_option linter.unusedSimpArgs false

/-- All pages of the table's own blocks are such. -/
def PgP (c : Chip) (S : Pg → Prop) : Prop := ∀ a < 2, ∀ b, c.blocks[a]? = some b → ∀ (j : Nat) (h : j < 8), S b.pages[j]
theorem put_pg {c c' : Chip} {a : Nat} {b : Blk} {q : Pg} {i' e : Int} {S : Pg → Prop} (r : PutR c a b q i' e c') (hb : c.blocks[a]? = some b) (h0 : FP c = 0) (ha : c.after < 0) (hS : PgP c S) (hbl : S blankP) (hq : S q) : PgP c' S := fun k hk b2 hb2 j hj => by
  by_cases e1 : k = a
  · subst e1
    obtain ⟨b', k1, _, _, _, k5, _⟩ := r.blk
    rw [k1] at hb2
    cases hb2
    rcases (show (j : Int) < b.next ∨ b.next ≤ j by omega) with h1 | h1
    · rw [k5 j hj h1]; exact hS k hk b hb j hj
    · rcases r.pure h0 ha _ k1 j hj h1 with h2 | h2 <;> rw [h2] <;> assumption
  · rw [r.fr.oth k e1] at hb2
    exact hS k hk b2 hb2 j hj
theorem erase_pg {c c' : Chip} {a : Nat} {b : Blk} {e : Int} {S : Pg → Prop} (r : EraseR c a b e c') (hb : c.blocks[a]? = some b) (hS : PgP c S) (hbl : S blankP) : PgP c' S := fun k hk b2 hb2 j hj => by
  by_cases e1 : k = a
  · subst e1
    obtain ⟨b', k1, _, _, k4, _⟩ := r.blk
    rw [k1] at hb2
    cases hb2
    rcases k4 j hj with h1 | h1
    · rw [h1]; exact hbl
    · rw [h1]; exact hS k hk b hb j hj
  · rw [r.fr.oth k e1] at hb2
    exact hS k hk b2 hb2 j hj
theorem keep_pg {c : Chip} {t : TS} {u l : List Int} {B : Int} {S : Pg → Prop} (up : Up c) (h : TI c t) (hfp : FP c = 0) (hfw : FW c = 0) (ha : c.after < 0) (hc : Cnt c B) (hB : B + 1000 < 8000000000000000000) (hS : PgP c S) (hbl : S blankP) (hq : S (planP (t.version + 1) c.blocks.length u l)) :
    PgP (keepC t u l c).2.2 S := by
  obtain ⟨a, har, hh, b, hb, hn0, hn1⟩ := h
  obtain ⟨b0, hb0, hbi, hbad⟩ := hh.bs a hh.a2
  rw [hb] at hb0
  cases hb0
  have hnx := hbi.nx
  obtain ⟨i, hi⟩ : ∃ i : Nat, t.next = i := ⟨t.next.toNat, by omega⟩
  obtain ⟨i', e, c1, p1, p2, p3⟩ := put_spec (a := a) (q := planP (t.version + 1) c.blocks.length u l) (8 - i) c i b B (by omega) up hb hbad hbi (by omega) hc (by omega)
  have hp0 : putC c t.area t.next (planP (t.version + 1) c.blocks.length u l) = (i', e, c1) := by rw [har, hi, putC_eq]; exact p1
  have hK : (keepC t u l c).2.2 = (keepS t u l c).c := by
    unfold keepC
    simp only []
    split <;> rfl
  have hSS : keepS t u l c = keepGo 4 (a : Nat) (planP (t.version + 1) c.blocks.length u l) ⟨(a : Nat), i', e, c1⟩ := by
    unfold keepS
    simp only []
    rw [hp0, har]
  rw [hK, hSS]
  have hS1 := put_pg p2 hb hfp ha hS hbl hq
  have hlen : c1.blocks.length = c.blocks.length := p2.fr.len
  have hfp1 : FP c1 = 0 := by have := p2.fr.fp; omega
  have hfw1 : FW c1 = 0 := by have := p2.fr.fw; omega
  generalize planP (t.version + 1) c.blocks.length u l = q at *
  rcases p2.how with ⟨rfl, q2, q3⟩ | ⟨rfl, q2⟩ | ⟨rfl, q2, q3, q4⟩
  · exact absurd ha q3
  · unfold keepGo
    rw [if_neg (show ¬ (0 : Int) = 34 by decide)]
    exact hS1
  · have up1 := up.of p2.fr.dead p2.fr.out q2
    have ha1 : c1.after < 0 := by rw [(p2.fr.pos ha).1]; exact ha
    have hbs : ∃ b1, c1.blocks[1 - a]? = some b1 ∧ b1.bad = false := by
      obtain ⟨b1, h1, _, h2⟩ := hh.bs (1 - a) (by omega)
      have := hh.a2
      exact ⟨b1, by rw [p2.fr.oth (1 - a) (by omega)]; exact h1, h2⟩
    obtain ⟨b1, hb1, hbad1⟩ := hbs
    have ha2 := hh.a2
    have hra : (1 : Int) - (a : Nat) = ((1 - a : Nat) : Int) := by omega
    obtain ⟨e2, c2, r1, r2, r3⟩ := erase_spec up1 hb1 hbad1 p3 (by omega)
    have hS2 := erase_pg r2 hb1 hS1 hbl
    unfold keepGo
    rw [if_pos rfl]
    unfold keep1
    simp only []
    rw [hra, r1]
    simp only []
    rcases r2.how with ⟨rfl, m1, m2⟩ | ⟨rfl, m1, m2⟩ | ⟨rfl, m1⟩
    · exact absurd ha1 m2
    · omega
    · rw [if_pos rfl]
      have up2 := up1.of r2.fr.dead r2.fr.out m1
      obtain ⟨b2, k1, k2, k3, k4, k5⟩ := r2.blk
      obtain ⟨i2, e3, c3, s1, s2, s3⟩ := put_spec (a := 1 - a) (q := q) 8 c2 0 b2 (B + (8 - i : Nat) + 1) (by omega) up2 k1 (k3.trans hbad1) k2 (by rw [k5 rfl]; exact Int.le_refl _) r3 (by omega)
      have hp1 : putC c2 ((1 - a : Nat) : Int) 0 q = (i2, e3, c3) := by
        have : putC c2 ((1 - a : Nat) : Int) 0 q = putGo 8 c2 ((1 - a : Nat) : Int) ((0 : Nat) : Int) q := putC_eq (i := 0)
        rw [this]; exact s1
      rw [hp1]
      simp only []
      have hfp2 : FP c2 = 0 := by have := r2.fr.fp; omega
      have ha22 : c2.after < 0 := by rw [(r2.fr.pos ha1).1]; exact ha1
      have hS3 := put_pg s2 k1 hfp2 ha22 hS2 hbl hq
      rcases s2.how with ⟨rfl, n2, n3⟩ | ⟨rfl, n2⟩ | ⟨rfl, n2, n3, n4⟩
      · exact absurd ha22 n3
      · unfold keepGo
        rw [if_neg (show ¬ (0 : Int) = 34 by decide)]
        exact hS3
      · rw [k5 rfl] at n4
        have : (8 - (0 : Int)).toNat = 8 := rfl
        omega
/-! turned bits -/
theorem blank_zeros {k : Nat} (hk : k < 2064) : ∀ i, i ≤ 258 → zerosU (flipP blankP k) i ≤ if k / 8 < i then 1 else 0
  | 0, _ => by simp [zerosU]
  | i + 1, h => by
    have ih := blank_zeros hk i (by omega)
    have h1 : ∀ k < 8, pop8 (~~~ (255#8 ^^^ (1#8 <<< k))) = 1 := by decide
    rw [zerosU_succ, getD_at _ (show i < 258 by omega), flipP_at _ hk (by omega), blank_at (by omega)]
    by_cases e : k / 8 = i
    · rw [if_pos e, h1 _ (by omega), if_pos (by omega)]
      rw [if_neg (by omega)] at ih
      omega
    · rw [if_neg e, pop_all]
      split at ih
      · rw [if_pos (by omega)]; omega
      · rw [if_neg (by omega)]; omega
theorem flip_blank {k : Nat} (hk : k < 2064) : blankB (flipP blankP k) = true := by
  have := blank_zeros hk 258 (Nat.le_refl _)
  unfold blankB
  rw [if_pos (by omega)] at this
  simpa using this
/-- A page that was never written, or a plan's. -/
def PlB (n : Nat) (p : Pg) : Prop := p = blankP ∨ ∃ w u l, OkP n u l ∧ p = planP w n u l
theorem rp_turned {n : Nat} {p : Pg} {k : Nat} (h : PlB n p) (hk : k < 2064) : RP n (flipP p k) = RP n p := by
  rcases h with rfl | ⟨w, u, l, h, rfl⟩
  · rw [rp_bl (flip_blank hk), rp_blank]
  · rw [rp_flip h hk, rp_plan h]
/-- A chip, and it with turned bits in pages of the table's own blocks. -/
structure Turned (c c' : Chip) (m : Nat) : Prop where
  up : Up c'
  len : c'.blocks.length = c.blocks.length
  aC : c'.aC = c.aC
  pg : ∀ a < 2, ∀ b, c.blocks[a]? = some b → ∃ b', c'.blocks[a]? = some b' ∧ ∀ (j : Nat) (h : j < 8), (8 * a + j < m ∧ ∃ k < 2064, b'.pages[j] = flipP b.pages[j] k) ∨ b'.pages[j] = b.pages[j]
  old : ∀ a < 2, ∀ b b', c.blocks[a]? = some b → c'.blocks[a]? = some b' → ∀ (j : Nat) (h : j < 8), m ≤ 8 * a + j → b'.pages[j] = b.pages[j]
theorem Turned.refl {c : Chip} (up : Up c) : Turned c c 0 := ⟨up, rfl, rfl, fun a ha b hb => ⟨b, hb, fun j h => .inr rfl⟩, fun a ha b b' hb hb' j h _ => by rw [hb] at hb'; cases hb'; rfl⟩
theorem Turned.mono {c c' : Chip} {m k : Nat} (h : Turned c c' m) (hk : m ≤ k) : Turned c c' k :=
  ⟨h.up, h.len, h.aC, fun a ha b hb => by
    obtain ⟨b', h1, h2⟩ := h.pg a ha b hb
    exact ⟨b', h1, fun j hj => by
      rcases h2 j hj with ⟨h3, h4⟩ | h3
      · exact .inl ⟨by omega, h4⟩
      · exact .inr h3⟩, fun a ha b b' hb hb' j hj hle => h.old a ha b b' hb hb' j hj (by omega)⟩
theorem setPg_at {b : Blk} {i j : Nat} {p : Pg} (hi : i < 8) : (setPg b j p).pages[i] = if j = i then p else b.pages[i] := by
  unfold setPg
  simp only
  rw [Vector.getElem_setIfInBounds]
theorem Turned.flip {c c' : Chip} {m k : Nat} {b' : Blk} (h : Turned c c' m) (hl : 2 ≤ c.blocks.length) (hm : m < 16) (hk : k < 2064) (hb' : c'.blocks[m / 8]? = some b') : Turned c (setB c' (m / 8) (setPg b' (m % 8) (flipP b'.pages[m % 8] k))) (m + 1) := by
  have hi : m / 8 < c'.blocks.length := (List.getElem?_eq_some_iff.1 hb').1
  have hset : (setB c' (m / 8) (setPg b' (m % 8) (flipP b'.pages[m % 8] k))).blocks[m / 8]? = some (setPg b' (m % 8) (flipP b'.pages[m % 8] k)) := by
    show (c'.blocks.set _ _)[m / 8]? = _
    simp [hi]
  have hoth : ∀ a, a ≠ m / 8 → (setB c' (m / 8) (setPg b' (m % 8) (flipP b'.pages[m % 8] k))).blocks[a]? = c'.blocks[a]? := fun a ha => List.getElem?_set_ne (fun e => ha e.symm)
  refine ⟨⟨h.up.off, h.up.dead, h.up.out⟩, ?_, h.aC, fun a ha b hb => ?_, fun a ha b b2 hb hb2 j hj hle => ?_⟩
  · show (c'.blocks.set _ _).length = _
    rw [List.length_set]; exact h.len
  · by_cases e : a = m / 8
    · subst e
      obtain ⟨b1, h1, h2⟩ := h.pg _ ha b hb
      rw [hb'] at h1
      cases h1
      refine ⟨_, hset, fun j hj => ?_⟩
      rw [setPg_at hj]
      by_cases e2 : m % 8 = j
      · subst e2
        rw [if_pos rfl]
        refine .inl ⟨by omega, k, hk, ?_⟩
        rw [h.old _ ha b b' hb hb' (m % 8) hj (by omega)]
      · rw [if_neg e2]
        rcases h2 j hj with ⟨h3, h4⟩ | h3
        · exact .inl ⟨by omega, h4⟩
        · exact .inr h3
    · rw [hoth a e]
      obtain ⟨b1, h1, h2⟩ := h.pg _ ha b hb
      refine ⟨b1, h1, fun j hj => ?_⟩
      rcases h2 j hj with ⟨h3, h4⟩ | h3
      · exact .inl ⟨by omega, h4⟩
      · exact .inr h3
  · by_cases e : a = m / 8
    · subst e
      rw [hset] at hb2
      cases hb2
      rw [setPg_at hj, if_neg (by omega)]
      exact h.old _ ha b b' hb hb' j hj (by omega)
    · rw [hoth a e] at hb2
      exact h.old a ha b b2 hb hb2 j hj (by omega)
/-- It is opened as it was. -/
theorem open_turned {c c' : Chip} {v a : Nat} {u l : List Int} {m : Nat} (h : Hold c v u l a) (hp : PgP c (PlB c.blocks.length)) (ht : Turned c c' m) : ∃ t, openC c' = (0, t) ∧ t.uses = u ∧ t.lost = l := by
  have hlen : 2 ≤ c.blocks.length := by have := h.ok.n1; omega
  have hlen' : 2 ≤ c'.blocks.length := by rw [ht.len]; exact hlen
  have hm : mayE c' 0 0 = 0 := mayU (i := 0) (j := 0) ht.up (by omega) (by omega)
  have hrd : ∀ k < 2, ∀ b, c.blocks[k]? = some b → ∀ (j : Nat) (hj : j < 8), RP c'.blocks.length (readP c' (k : Nat) (j : Nat)) = RP c.blocks.length b.pages[j] := fun k hk b hb j hj => by
    obtain ⟨b', h1, h2⟩ := ht.pg k hk b hb
    rw [read_of (mayU ht.up (by omega) hj) h1 hj, ht.len]
    rcases h2 j hj with ⟨_, q, hq, h3⟩ | h3
    · rw [h3, rp_turned (hp k hk b hb j hj) hq]
    · rw [h3]
  obtain ⟨b, hb, j, hj, hr⟩ := h.ex
  obtain ⟨t, ho, hi⟩ := openC_some hm h.a2 hj (by rw [hrd a h.a2 b hb j hj]; exact hr)
  refine ⟨t, ho, ?_⟩
  obtain ⟨k, hk⟩ : ∃ k : Nat, t.area = k := ⟨t.area.toNat, by have := hi.area; omega⟩
  have hk2 : k < 2 := by have := hi.area; omega
  obtain ⟨b2, hb2, _⟩ := h.bs k hk2
  obtain ⟨⟨r1, r2⟩, r3⟩ := hi.rc
  obtain ⟨j2, hj2⟩ : ∃ j : Nat, t.at' = j := ⟨t.at'.toNat, by omega⟩
  have hj28 : j2 < 8 := by omega
  rw [hk, hj2, hrd k hk2 b2 hb2 j2 hj28] at r3
  have h1 := h.le k hk2 b2 hb2 j2 hj28 _ _ _ r3
  have h2 := hi.le a h.a2 j hj v u l (by rw [hrd a h.a2 b hb j hj]; exact hr)
  exact h1.2 (by omega)
end Go.Proofs.YtkfcpjohblddmaaGreat
end
section
/- Walks: a bit is turned; the power is on again. -/
namespace Go.Proofs.YtkfcpjohblddmaaGreat
open Go.K
set_option linter.unusedVariables false
set_option linter.unusedSimpArgs false
instance ent18 : Ent Tryz.prog 18 := ⟨fun _ _ => by kernel_rfl⟩
section
variable {P : Program} {E : Env} {H : Hp} {t u : TypeId} {x y : Operand} {i m : Nat}
theorem rd_quoN (hx : ev E x = some (.int .i64 (i : Nat))) (hy : ev E y = some (.int .i64 (m : Nat))) (hm : m ≠ 0) (hi : i < 9223372036854775808) : Rd P E H (.binOp .quo t x y u) (.int .i64 ((i / m : Nat) : Int)) := fun a w d ty pos af g h1 h2 => by
  have e1 := ev_ok h1 hx
  have e2 := ev_ok h1 hy
  have e3 : ¬ (m : Int) = 0 := by omega
  have e4 : IntKind.i64.wrap ((i : Int).tdiv (m : Int)) = ((i / m : Nat) : Int) := by
    rw [Int.tdiv_eq_ediv_of_nonneg (by omega), ← Int.natCast_ediv]
    exact wrap64_in (by have := Nat.div_le_self i m; have h0 := Int.natCast_nonneg (i / m); omega)
  simp only [execOp, e1, e2, eqGuard, binOp, Op.intDiv, if_neg e3, e4]
  simp
theorem rd_remN (hx : ev E x = some (.int .i64 (i : Nat))) (hy : ev E y = some (.int .i64 (m : Nat))) (hm : m ≠ 0) : Rd P E H (.binOp .rem t x y u) (.int .i64 ((i % m : Nat) : Int)) := fun a w d ty pos af g h1 h2 => by
  have e1 := ev_ok h1 hx
  have e2 := ev_ok h1 hy
  have e3 : ¬ (m : Int) = 0 := by omega
  have e4 : (i : Int).tmod (m : Int) = ((i % m : Nat) : Int) := by
    rw [Int.tmod_eq_emod_of_nonneg (by omega), ← Int.natCast_emod]
  simp only [execOp, e1, e2, eqGuard, binOp, Op.intDiv, if_neg e3, e4]
  simp
end
theorem and_ffff (b : Int) : ∃ k : Nat, ibits .and .i64 b 65535 = (k : Int) ∧ k < 65536 := by
  have h : (BitVec.ofInt 64 b &&& BitVec.ofInt 64 65535).toNat ≤ 65535 := by
    rw [BitVec.toNat_and]
    exact Nat.le_trans Nat.and_le_right (by decide)
  refine ⟨(BitVec.ofInt 64 b &&& BitVec.ofInt 64 65535).toNat, ?_, by omega⟩
  show IntKind.i64.wrap ((BitVec.ofInt 64 b &&& BitVec.ofInt 64 65535).toNat : Int) = _
  exact wrap64_in (by omega)
theorem flip_at {l : List Blk} {i j k : Nat} {b : Blk} (hb : l[i]? = some b) (hj : j < 8) (hk : k < 2064) : splice (rowc l) (i * 2066 + (j * 258 + k / 8)) [bv (b.pages[j][k / 8] ^^^ (1#8 <<< (k % 8)))] = some (rowc (l.set i (setPg b j (flipP b.pages[j] k)))) := by
  refine row_setPg hb hj ?_
  unfold flipP
  rw [dif_pos (show k / 8 < 258 by omega)]
  exact spl1_vb (by omega) _
theorem flip_fn {c : Chip} {a i j k : Nat} {b : Blk} (ha : c.aC = a) (hb : c.blocks[i]? = some b) (hj : j < 8) (hk : k < 2064) : Does Tryz.prog 18 [ptr a, .int .i64 (i : Nat), .int .i64 (j : Nat), .int .i64 (k : Nat)] (chH c) (Is (.int .i64 0) (chH (setB c i (setPg b j (flipP b.pages[j] k))))) := by
  subst ha
  have hi : i < c.blocks.length := (List.getElem?_eq_some_iff.1 hb).1
  have hth : thereB c i = true := (by unfold thereB; simp; omega)
  rw [chH_eq c, chH_set]
  refine fn_enter (n := 50) Tryz.func18 Tryz.ntmps18 rfl (Nat.le_of_ble_eq_true rfl) <| s_seq <| s_region0 fun ops => oA rfl <| o_nil <| n_K <| s_seq <| s_seq ?_
  refine s_region [(4, 13), (8, 17), (12, 21), (16, 25)] rfl fun ops y => ?_
  refine oM rfl <| oM rfl ?_
  refine c_is rfl (there_fn) sP rfl aQ ?_
  refine oR (rd_not rfl) <| oM rfl ?_
  refine' o_or (j := 4) (k := 2) y rfl rfl rfl rfl rfl rfl rfl (fun hg13 => ?_) ?_
  rotate_left
  · try (simp at hg13; show _)
    refine o_g y rfl rfl ?_
    refine oM rfl ?_
    refine o_g y rfl rfl ?_
    refine oR (rd_bin rfl rfl rfl) ?_
    exact o_nil ⟨rfl, rfl, ⟨_, sP⟩⟩
  refine oM rfl ?_
  refine' o_or (j := 8) (k := 2) y rfl rfl rfl rfl rfl rfl rfl (fun hg17 => ?_) ?_
  rotate_left
  · try (simp at hg17; show _)
    refine o_g y rfl rfl ?_
    refine oM rfl ?_
    refine o_g y rfl rfl ?_
    refine oR (rd_bin rfl rfl rfl) ?_
    exact o_nil ⟨rfl, rfl, ⟨_, sP⟩⟩
  refine oM rfl ?_
  refine' o_or (j := 12) (k := 2) y rfl rfl rfl rfl rfl rfl rfl (fun hg21 => ?_) ?_
  rotate_left
  · try (simp at hg21; show _)
    refine o_g y rfl rfl ?_
    refine oM rfl ?_
    refine o_g y rfl rfl ?_
    refine oR (rd_bin rfl rfl rfl) ?_
    exact o_nil ⟨rfl, rfl, ⟨_, sP⟩⟩
  refine oM rfl ?_
  refine' o_or (j := 16) (k := 2) y rfl rfl rfl rfl rfl rfl rfl (fun hg25 => ?_) ?_
  rotate_left
  · try (simp at hg25; show _)
    refine o_g y rfl rfl ?_
    refine oM rfl ?_
    refine o_g y rfl rfl ?_
    refine oR (rd_bin rfl rfl rfl) ?_
    exact o_nil ⟨rfl, rfl, ⟨_, sP⟩⟩
  refine o_nil <| n_K ?_
  refine s_cond rfl (fun c28 => ?_) (fun c28 => ?_)
  · skip
    exact absurd c28 (by rw [hth]; simp; omega)
  · skip
    refine s_skip <| n_K <| s_seq ?_
    refine s_draw [] [(21, [(0, false), (1, false), (2, false), (3, false), (4, false), (5, false), (6, false), (7, false), (8, false), (9, false), (10, false), (11, false), (12, false), (13, false), (14, false), (15, false), (16, false), (17, false), (18, false), (19, false), (20, false)]), (22, [(21, true)])] (by kernel_rfl) rfl fun ops w0 H0 y => ?_
    refine p_all <| xM rfl <| xN rfl <| xF rfl ?_
    refine xR (rd_ld rfl mM rfl) ?_
    refine xM rfl <| xM rfl <| xM rfl ?_
    refine xR (rd_quoN (m := 8) rfl rfl (by omega) (by omega)) ?_
    refine xR (rd_ixS rfl rfl (by omega)) ?_
    refine xF rfl ?_
    refine xR (rd_ixA rfl rfl (by omega)) ?_
    refine xR (rd_ixA rfl rfl (by omega)) ?_
    refine xR (rd_ld rfl mM (show nth _ _ = some (bv b.pages[j][k / 8]) by simp only [Int.toNat_natCast, Nat.mul_one, Nat.zero_add, Nat.add_zero, Nat.add_assoc]; exact row_byte (j := k / 8) hb hj (by omega))) ?_
    refine xM rfl ?_
    refine xR (rd_remN (m := 8) rfl rfl (by omega)) ?_
    refine xR (rd_bit8 rfl rfl (by omega)) ?_
    refine xR (show Rd _ _ _ _ (bv (b.pages[j][k / 8] ^^^ (1#8 <<< (k % 8)))) from by (unfold bv; rw [← xor_by]; exact rd_bin rfl rfl rfl)) ?_
    refine xR (rd_ixS rfl rfl (by omega)) ?_
    refine xF rfl ?_
    refine xR (rd_ixA rfl rfl (by omega)) ?_
    refine xR (rd_ixA rfl rfl (by omega)) ?_
    refine x_nil <| p_none <| x_so ?_
    refine o_store (cs' := rowc (c.blocks.set i (setPg b j (flipP b.pages[j] k)))) rfl rfl uD rfl rfl (by simp only [Int.toNat_natCast, Nat.mul_one, Nat.zero_add, Nat.add_zero, Nat.add_assoc]; exact flip_at hb hj hk) ?_
    refine o_nil ⟨rfl, ⟨_, sP⟩, ?_⟩
    refine x_nil <| p_end <| n_K <| s_seq <| s_region0 fun ops => oA rfl <| o_nil <| n_K <| s_ret ?_
    refine leaf_is (rets1 Tryz.results18 (rv_tmp rfl)) ?_ sP
    rfl
end Go.Proofs.YtkfcpjohblddmaaGreat
end
section
/- Walk of the law BbtFlips. -/
namespace Go.Proofs.YtkfcpjohblddmaaGreat
open Go.K
set_option linter.unusedVariables false
set_option linter.unusedSimpArgs false
theorem new0_fn {pp : Nat} {n : Nat} (hn : okNew n [] = true) : Does Tryz.prog 21 [ptr pp, .int .i64 (n : Nat), .slice none 0 0] [(pp, true, C [.bool false, .int .i64 (-1), .int .i64 0] tPw)]
    (fun v H => ∃ aC aB, v = .tuple #[ptr aC, .int .i64 0] ∧ H = chH (newG (-1) 0 pp aC aB n []) ++ []) := by
  have h := new2_fn (pp := pp) (n := (n : Int)) (s := .nil) (T := tI)
  rw [Sl.hp_nil] at h
  refine h.mono fun v H hh => ?_
  rcases hh with ⟨aC, aB, h1, h2, _⟩ | ⟨_, _, h3⟩
  · exact ⟨aC, aB, h1, h2⟩
  · rw [show (Sl.nil : Sl Int).list = [] from rfl, hn] at h3; cases h3
theorem newPg {pp aC aB n : Nat} {bad : List Int} {t : TS} {c' : Chip} {k : Nat} {u : List Int} {l : List Bool} (hn : 16 ≤ n ∧ n ≤ 40) (hx : fmtX (badL n bad) = false) (hf : formatC (newG (-1) 0 pp aC aB n bad) = (0, t, c')) (hJ : JI c' t u l n k) : PgP c' (PlB n) := by
  obtain ⟨c2, h1, h2⟩ := new_format (after := -1) (keep := 0) (aP := pp) (aC := aC) (aB := aB) (n := n) (bad := bad) (by omega) (by omega) ((new_fmtX hn).trans hx)
  rw [h1] at hf
  simp only [Prod.mk.injEq] at hf
  obtain ⟨_, rfl, rfl⟩ := hf
  have hok := hJ.wf.okP
  generalize (fmtT (newG (-1) 0 pp aC aB n bad)).uses = us at *
  generalize (fmtT (newG (-1) 0 pp aC aB n bad)).lost = lost at *
  intro a ha b hb j hj
  rw [h2] at hb
  rcases (show a = 0 ∨ a = 1 by omega) with rfl | rfl
  · rw [prg_same (by rw [new_len]; omega)] at hb
    cases hb
    simp only
    rw [Vector.getElem_setIfInBounds]
    split
    · exact .inr ⟨1, us, lost, hok, rfl⟩
    · refine .inl ?_
      simp [newB]
  · rw [prg_other (by omega), new_block (by omega)] at hb
    cases hb
    refine .inl ?_
    simp [newB]
theorem formatF_fn {pp aC aB m : Nat} {bad : List Int} (hm : 16 ≤ m ∧ m ≤ 40) (hX : fmtX (badL m bad) = false) : Does Tryz.prog 42 [ptr aC] (chH (newG (-1) 0 pp aC aB m bad))
    (fun v H => ∃ (tb : Tab) (c' : Chip), v = .tuple #[ptr tb.b, .int .i64 0] ∧ H = tabH aC tb ++ (chH c' ++ []) ∧ c'.aC = aC ∧ c'.aP = pp ∧ JI c' tb.ts (fmtV (badL m bad) ((m : Int) - 6) m) (badL m bad) m 0 ∧ PgP c' (PlB m)) := by
  have hlen : (newG (-1) 0 pp aC aB m bad).blocks.length = m := new_len
  refine (format_b (c := newG (-1) 0 pp aC aB m bad) (a := aC) rfl (by rw [hlen]; omega)).mono fun v H h => ?_
  obtain ⟨t, c', h1, h2, h3, h4⟩ := new_JI (aP := pp) (aC := aC) (aB := aB) hm hX
  unfold FormatR at h
  rw [h1] at h
  rcases h with ⟨tb, rfl, rfl, h5, _⟩ | ⟨_, _, h6⟩
  · exact ⟨tb, c', rfl, rfl, h3, h4, by rw [h5]; exact h2, newPg hm hX h1 h2⟩
  · exact absurd rfl h6
theorem JI.keepP {c : Chip} {t : TS} {u u' lost : List Int} {l : List Bool} {n k : Nat} {e : Int} {t' : TS} {c' : Chip} (h : JI c t u l n k) (hk : k ≤ 1000) (hp : PgP c (PlB n)) (hr : (e, t', c') = keepC t u' lost c) (hw : WF n u' lost) : PgP c' (PlB n) := by
  have hfp : FP c = 0 := by unfold FP; rw [h.pf]; simp
  have hfw : FW c = 0 := by unfold FW; rw [h.wfl]; simp
  have := keep_pg (u := u') (l := lost) (B := 1000 * k + 1000) h.up h.ti hfp hfw h.af h.cnt (by omega) hp (.inl rfl) (.inr ⟨_, _, _, hw.okP, by rw [h.len]⟩)
  rw [← hr] at this
  exact this
theorem fx20 : fmtX (badL 20 []) = false := by decide +kernel
theorem fx24 : fmtX (badL 24 []) = false := by decide +kernel
end Go.Proofs.YtkfcpjohblddmaaGreat
end
section
/- Walk of the law BbtCuts. -/
namespace Go.Proofs.YtkfcpjohblddmaaGreat
open Go.K
set_option linter.unusedVariables false
set_option linter.unusedSimpArgs false
/-- The power is there again. -/
def onC (c : Chip) : Chip := { c with off := false, after := -1 }
def cutC (c : Chip) (a k : Int) : Chip := { c with after := max a (-1), keep := k }
/-- All that is known between two calls, whatever the power is to do. -/
structure JC (c : Chip) (t : TS) (u : List Int) (l : List Bool) (n k : Nat) : Prop where
  up : Up c
  ti : TI c t
  rel : RelT t u l n
  wf : WF n t.uses t.lost
  len : c.blocks.length = n
  ver : t.version.toNat ≤ k + 1
  cnt : Cnt c (1000 * k + 1000)
  pf : c.pf.list = []
  wfl : c.wf.list = []
theorem Hold.same {c c' : Chip} {v : Nat} {u l : List Int} {a : Nat} (h : Hold c v u l a) (hb : c'.blocks = c.blocks) : Hold c' v u l a :=
  ⟨by rw [hb]; exact h.ok, h.a2, by rw [hb]; exact h.bs, by rw [hb]; exact h.le, by rw [hb]; exact h.ex⟩
theorem TI.same {c c' : Chip} {t : TS} (h : TI c t) (hb : c'.blocks = c.blocks) : TI c' t := by
  obtain ⟨a, h1, h2, h3⟩ := h
  exact ⟨a, h1, h2.same hb, by rw [hb]; exact h3⟩
theorem JC.on {c : Chip} {t : TS} {u : List Int} {l : List Bool} {n k : Nat} (h : JC c t u l n k) : JC (onC c) t u l n k :=
  ⟨⟨rfl, h.up.dead, h.up.out⟩, h.ti.same rfl, h.rel, h.wf, h.len, h.ver, ⟨h.cnt.p0, h.cnt.w0⟩, h.pf, h.wfl⟩
theorem JC.cut {c : Chip} {t : TS} {u : List Int} {l : List Bool} {n k : Nat} (h : JC c t u l n k) (a q : Int) : JC (cutC c a q) t u l n k :=
  ⟨⟨h.up.off, h.up.dead, h.up.out⟩, h.ti.same rfl, h.rel, h.wf, h.len, h.ver, ⟨h.cnt.p0, h.cnt.w0⟩, h.pf, h.wfl⟩
theorem JC.mono {c : Chip} {t : TS} {u : List Int} {l : List Bool} {n k : Nat} (h : JC c t u l n k) : JC c t u l n (k + 1) :=
  ⟨h.up, h.ti, h.rel, h.wf, h.len, by have := h.ver; omega, ⟨by have := h.cnt.p0; push_cast; omega, by have := h.cnt.w0; push_cast; omega⟩, h.pf, h.wfl⟩
theorem JI.jc {c : Chip} {t : TS} {u : List Int} {l : List Bool} {n k : Nat} (h : JI c t u l n k) : JC c t u l n k := ⟨h.up, h.ti, h.rel, h.wf, h.len, h.ver, h.cnt, h.pf, h.wfl⟩
theorem JC.refS {c : Chip} {t : TS} {u : List Int} {l : List Bool} {n k : Nat} (h : JC c t u l n k) : u.length ≤ 1000 ∧ l.length ≤ 1000 ∧ ∀ x ∈ u, 0 ≤ x ∧ x < l.length := by
  have h1 := h.wf.n2
  have h2 := h.wf.len
  have h3 := h.rel.uu
  have h4 := h.rel.ll
  refine ⟨by rw [h3]; omega, by omega, fun x hx => ?_⟩
  rw [h3] at hx
  have := h.wf.us x hx
  omega
theorem JC.tabS {c : Chip} {t : Tab} {u : List Int} {l : List Bool} {n k : Nat} (h : JC c t.ts u l n k) : t.u.list.length ≤ 1000 ∧ t.l.list.length ≤ 11 ∧ 0 ≤ t.next ∧ (0 ≤ t.area ∧ t.area ≤ 1) := by
  have h1 := h.wf.n2
  have h2 : t.u.list.length + 6 = n := h.wf.len
  have h3 : t.l.list.length ≤ 4 := h.wf.lost4
  obtain ⟨a, h4, h5, b, h6, h7, h8⟩ := h.ti
  have h9 := h5.a2
  have h10 : t.area = a := h4
  have h11 : 0 ≤ t.next := h7
  omega
/-- What a call comes to, whenever the power goes. -/
theorem JC.keep {c : Chip} {t : TS} {u u' lost : List Int} {l l' : List Bool} {n k : Nat} {e : Int} {t' : TS} {c' : Chip} (h : JC c t u l n k) (hk : k ≤ 1000) (hr : (e, t', c') = keepC t u' lost c) (hw : WF n u' lost) (hn : lost.length = t.lost.length + 1) (hrel : ∀ t' : TS, t'.uses = u' → t'.lost = lost → RelT t' u' l' n) :
    (e = 0 ∧ JC c' t' u' l' n (k + 1)) ∨ (e = 30 ∧ ∃ t2, openC (onC c') = (0, t2) ∧ ((JC (onC c') t2 u l n (k + 1) ∧ ¬ t2.lost.length = l'.countP id) ∨ JC (onC c') t2 u' l' n (k + 1))) := by
  have hfp : FP c ≤ 7 := by unfold FP; rw [h.pf]; simp
  have hfw : FW c ≤ 3 := by unfold FW; rw [h.wfl]; simp
  obtain ⟨e2, t2, c2, h1, h2, h3, h4⟩ := keep_hold (u := u') (l := lost) (B := 1000 * k + 1000) h.up h.ti (by have := h.ver; omega) (by rw [h.len]; exact hw.okP) hfp hfw h.cnt (by omega)
  rw [h1] at hr
  simp only [Prod.mk.injEq] at hr
  obtain ⟨rfl, rfl, rfl⟩ := hr
  have p := h3.p0
  have q := h3.w0
  have hc : ∀ d : Chip, d.pc = c'.pc → d.wc = c'.wc → Cnt d (1000 * ((k + 1 : Nat) : Int) + 1000) := fun d h5 h6 => ⟨by rw [h5]; push_cast; omega, by rw [h6]; push_cast; omega⟩
  rcases h4 with ⟨h5, h6, h7, h8, h9, h10⟩ | ⟨h5, h6, h7, h8, h9⟩
  · exact .inl ⟨h5, h6, h7, hrel _ h8 h9, by rw [h8, h9]; exact hw, h2.len.trans h.len, by have := h.ver; omega, hc _ rfl rfl, by rw [h2.pf]; exact h.pf, by rw [h2.wf]; exact h.wfl⟩
  · have upo : Up (onC c') := ⟨rfl, h2.dead.trans h.up.dead, h2.out.trans h.up.out⟩
    have hlen : (onC c').blocks.length = n := h2.len.trans h.len
    have hpf : (onC c').pf.list = [] := by show c'.pf.list = []; rw [h2.pf]; exact h.pf
    have hwf : (onC c').wf.list = [] := by show c'.wf.list = []; rw [h2.wf]; exact h.wfl
    have hver := h.ver
    refine .inr ⟨h5, ?_⟩
    rcases h9 with ⟨a, hh⟩ | ⟨a, hh⟩
    · obtain ⟨t3, o1, o2, o3, o4, o5⟩ := open_hold upo (hh.same (c' := onC c') rfl)
      refine ⟨t3, o1, .inl ⟨⟨upo, o2, h.rel.of o3 o4, by rw [o3, o4]; exact h.wf, hlen, by omega, hc _ rfl rfl, hpf, hwf⟩, ?_⟩⟩
      have := (hrel ⟨u', lost, 0, 0, 0, 0⟩ rfl rfl).count
      rw [o4, this]
      show ¬ t.lost.length = lost.length
      omega
    · obtain ⟨t3, o1, o2, o3, o4, o5⟩ := open_hold upo (hh.same (c' := onC c') rfl)
      exact ⟨t3, o1, .inr ⟨upo, o2, hrel _ o3 o4, by rw [o3, o4]; exact hw, hlen, by omega, hc _ rfl rfl, hpf, hwf⟩⟩
theorem rd_pw {P : Program} {E : Env} {H F : Hp} {t : TypeId} {x : Operand} {c : Chip} {a : Nat} [ht : Agg P t false] (ha : c.aC = a) (hx : ev E x = some (.pointer (some ⟨a, 0, none⟩))) (hm : PickL (chH c) H F) : Rd P E H (.load t x) (ptr c.aP) := by
  subst ha
  exact rd_ld hx (hm.sub (by rw [chH_eq]; exact .tail _ (.head _))) rfl
theorem le_of_step {u u' : List Int} {l l' : List Bool} {o : OpV} {b : Int} {ok : Bool} (h : u.length ≤ 1000) (hs : StepR u l o b ok u' l') : u'.length ≤ 1000 := by
  cases hk : evn o.kind with
  | true => rw [(hs.1 hk).2.1]; exact h
  | false =>
    rw [(hs.2 hk).2.1]
    split
    · rw [List.length_set]; exact h
    · exact h
end Go.Proofs.YtkfcpjohblddmaaGreat
end
section
/- Walks of package disk: the simple ones. -/
namespace Go.Proofs.YtkfcpjohblddmaaGreat
open Go.K
set_option linter.unusedVariables false
set_option linter.unusedSimpArgs false
instance und42 : Und Tryz.prog 42 (.pointer 115) := ⟨Tryz.underlying42⟩
instance agg42 : Agg Tryz.prog 42 false := ⟨⟨_, Tryz.underlying42, rfl⟩⟩
instance siz42 : Siz Tryz.prog 42 1 := ⟨by kernel_rfl⟩
instance agg44 : Agg Tryz.prog 44 true := ⟨⟨_, Tryz.underlying44, rfl⟩⟩
instance siz44 : Siz Tryz.prog 44 2 := ⟨by kernel_rfl⟩
instance fld44_0 : Fld Tryz.prog 44 0 0 := ⟨⟨_, _, 0, Tryz.underlying44, rfl, by kernel_rfl, rfl⟩⟩
instance fld44_1 : Fld Tryz.prog 44 1 1 := ⟨⟨_, _, 0, Tryz.underlying44, rfl, by kernel_rfl, rfl⟩⟩
instance ent13 : Ent Tryz.prog 13 := ⟨fun _ _ => by kernel_rfl⟩
instance ent37 : Ent Tryz.prog 37 := ⟨fun _ _ => by kernel_rfl⟩
instance ent57 : Ent Tryz.prog 57 := ⟨fun _ _ => by kernel_rfl⟩
instance ent128 : Ent Tryz.prog 128 := ⟨fun _ _ => by kernel_rfl⟩
abbrev tDk : TypeId := 44
/-- A logical block's block, or one that there isn't. -/
def atD (t : TS) (b : Int) : Int := if (atT t b).2 = true then (atT t b).1 else -1
/-- A page as it should stand. -/
def mendP (p : Pg) : Pg := if (readF p).2.2.2 ≠ 0 ∨ (readF p).2.2.1 = 0 then p else (writeF (readF p).1 (readF p).2.1).1
section
variable {c : Chip} {t : Tab} {a dk : Nat}
theorem dat_fn {b : Int} : Does Tryz.prog 57 [ptr dk, .int .i64 b] ((dk, true, C [ptr a, ptr t.b] tDk) :: (tabH a t ++ [])) (Is (.int .i64 (atD t.ts b)) ((dk, true, C [ptr a, ptr t.b] tDk) :: (tabH a t ++ []))) := by
  refine fn_enter (n := 19) Tryz.func57 Tryz.ntmps57 rfl (Nat.le_of_ble_eq_true rfl) <| s_seq <| s_region0 fun ops => oA rfl <| o_nil <| n_K <| s_seq <| s_region0 fun ops => oM rfl <| oN rfl <| oF rfl ?_
  refine oR (rd_ld rfl mM rfl) ?_
  refine oM rfl ?_
  refine c_is rfl (at_fn (a := a) (t := t)) sP rfl aQ ?_
  refine oM rfl <| oE rfl rfl <| oE rfl rfl <| oA rfl <| oA rfl <| o_nil <| n_K <| s_seq <| s_seq <| s_region0 fun ops => oM rfl <| oR (rd_not rfl) <| o_nil <| n_K ?_
  refine s_cond rfl (fun c17 => ?_) (fun c17 => ?_)
  · skip
    have hres : atD t.ts b = -1 := (by unfold atD; rw [if_neg (by simpa using c17)])
    refine s_seq <| s_region0 fun ops => oA rfl <| o_nil <| n_K <| s_ret <| r_K ?_
    refine leaf_is (rets1 Tryz.results57 (rv_tmp rfl)) ?_ sP
    rw [hres]
  · skip
    have hres : atD t.ts b = (atT t.ts b).1 := (by unfold atD; rw [if_pos (by simpa using c17)])
    refine s_skip <| n_K <| s_seq <| s_region0 fun ops => oM rfl <| oA rfl <| o_nil <| n_K <| s_ret ?_
    refine leaf_is (rets1 Tryz.results57 (rv_tmp rfl)) ?_ sP
    rw [hres]
theorem dlen_fn : Does Tryz.prog 13 [ptr dk] ((dk, true, C [ptr a, ptr t.b] tDk) :: (tabH a t ++ [])) (Is (.int .i64 t.u.list.length) ((dk, true, C [ptr a, ptr t.b] tDk) :: (tabH a t ++ []))) := by
  refine fn_enter (n := 8) Tryz.func13 Tryz.ntmps13 rfl (Nat.le_of_ble_eq_true rfl) <| s_seq <| s_region0 fun ops => oA rfl <| o_nil <| n_K <| s_seq <| s_region0 fun ops => oM rfl <| oN rfl <| oF rfl ?_
  refine oR (rd_ld rfl mM rfl) ?_
  refine c_is rfl (tlen_fn (a := a) (t := t)) sP rfl aQ ?_
  refine oA rfl <| o_nil <| n_K <| s_ret ?_
  refine leaf_is (rets1 Tryz.results13 (rv_tmp rfl)) ?_ sP
  rfl
theorem dread_fn (ha : c.aC = a) {b k : Int} : Does Tryz.prog 37 [ptr dk, .int .i64 b, .int .i64 k] ((dk, true, C [ptr a, ptr t.b] tDk) :: (tabH a t ++ (chH c ++ [])))
    (Is (.tuple #[.agg (vbc (readP c (atD t.ts b) k)).toArray, .int .i64 (mayE c (atD t.ts b) k)]) ((dk, true, C [ptr a, ptr t.b] tDk) :: (tabH a t ++ (chH c ++ [])))) := by
  refine fn_enter (n := 19) Tryz.func37 Tryz.ntmps37 rfl (Nat.le_of_ble_eq_true rfl) <| s_seq <| s_region0 fun ops => ?_
  refine o_alloc rfl fun b6 => ?_
  rw [zeroP_eq]
  refine oA rfl <| o_nil <| n_K <| s_seq ?_
  refine s_draw [] [(8, [(0, false), (1, false), (2, false), (3, false), (4, false), (5, false), (7, false), (6, true)]), (11, [(8, true), (9, false), (10, false)]), (12, [(11, true)]), (13, [(12, false)])] (by kernel_rfl) rfl fun ops w0 H0 y => ?_
  refine p_all <| xM rfl <| xN rfl <| xF rfl ?_
  refine xR (rd_ld rfl mM rfl) ?_
  refine xM rfl <| xM rfl <| xM rfl <| x_so ?_
  refine c_is rfl (dat_fn (a := a) (t := t) (dk := dk)) sP rfl aQ ?_
  refine o_nil ⟨rfl, ⟨_, sP⟩, ?_⟩
  refine x_nil <| p_all <| x_so ?_
  refine c_is rfl (read_a ha) sP rfl aQ ?_
  refine o_nil ⟨rfl, ⟨_, sP⟩, ?_⟩
  refine xE rfl rfl <| xE rfl rfl <| x_nil <| p_none <| x_so ?_
  first | refine o_store rfl rfl uD (vc_vb) (vbc_len) (spl_vb (by first | exact vbc_len | exact List.length_replicate ..)) ?_ | refine o_store rfl rfl uD rfl rfl rfl ?_
  refine o_nil ⟨rfl, ⟨_, sP⟩, ?_⟩
  refine x_nil <| p_all <| xA rfl <| x_nil <| p_end <| n_K <| s_ret ?_
  refine leaf_is (rets2 Tryz.results37 (rv_cell rfl mM (by first | exact cut_vb | rfl)) (rv_tmp rfl)) ?_ sP
  rfl
theorem mended_fn {p : Pg} : Does Tryz.prog 128 [.agg (vbc p).toArray] [] (Is (.agg (vbc (mendP p)).toArray) []) := by
  refine fn_enter (n := 29) Tryz.func128 Tryz.ntmps128 rfl (Nat.le_of_ble_eq_true rfl) <| s_seq <| s_region0 fun ops => ?_
  refine o_boxA rfl rfl fun b1 => ?_
  refine o_alloc rfl fun b2 => ?_
  rw [zeroP_eq]
  refine o_nil <| n_K <| s_seq <| s_region0 fun ops => ?_
  refine oR (rd_ldA rfl mM (by first | exact cut_vb | rfl)) ?_
  refine c_ex rfl (fread_fn (p := p)) sP rfl fun v9 Y9 h9 => ?_
  obtain ⟨s, rfl, rfl, hs, ho⟩ := h9
  refine so_ap aQ ?_
  refine oM rfl <| oE rfl rfl <| oE rfl rfl <| oE rfl rfl <| oE rfl rfl <| oA rfl <| oA rfl <| oA rfl <| oA rfl <| o_nil <| n_K <| s_seq <| s_seq ?_
  refine s_region [(2, 16)] rfl fun ops y => ?_
  refine oM rfl <| oR (rd_bin rfl rfl rfl) <| oM rfl ?_
  refine' o_or (j := 2) (k := 2) y rfl rfl rfl rfl rfl rfl rfl (fun hg16 => ?_) ?_
  rotate_left
  · try (simp at hg16; show _)
    refine o_g y rfl rfl ?_
    refine oM rfl ?_
    refine o_g y rfl rfl ?_
    refine oR (rd_bin rfl rfl rfl) ?_
    exact o_nil ⟨rfl, rfl, ⟨_, sP⟩⟩
  refine o_nil <| n_K ?_
  refine s_cond rfl (fun c19 => ?_) (fun c19 => ?_)
  · skip
    have hres : mendP p = p := (by unfold mendP; rw [if_pos (by simp at c19; rcases c19 with h | h; exact .inl h; exact .inr h)])
    refine s_seq <| s_region0 fun ops => ?_
    refine oR (rd_ldA rfl mM (by first | exact cut_vb | rfl)) ?_
    first | refine o_store rfl rfl uD (vc_vb) (vbc_len) (spl_vb (by first | exact vbc_len | exact List.length_replicate ..)) ?_ | refine o_store rfl rfl uD rfl rfl rfl ?_
    refine o_nil <| n_K <| s_ret <| r_K ?_
    refine leaf_is (rets1 Tryz.results128 (rv_cell rfl mM (by first | exact cut_vb | rfl))) ?_ sP
    rw [hres]
  · skip
    have hres : mendP p = (writeF (readF p).1 (readF p).2.1).1 := (by unfold mendP; rw [if_neg (by simp at c19; rintro (h | h); exact h c19.1; exact c19.2 h)])
    refine s_skip <| n_K <| s_seq <| s_region0 fun ops => oM rfl <| oM rfl ?_
    refine o_bslice_k rfl rfl rfl rfl fun b24 => ?_
    refine c_is rfl (write_one (kind := (readF p).1) (s := s) (by have := readF_len p; rw [hs]; omega)) sP rfl aQ ?_
    refine oM rfl <| oE rfl rfl <| oE rfl rfl ?_
    first | refine o_store rfl rfl uD (vc_vb) (vbc_len) (spl_vb (by first | exact vbc_len | exact List.length_replicate ..)) ?_ | refine o_store rfl rfl uD rfl rfl rfl ?_
    refine o_nil <| n_K <| s_seq <| s_region0 fun ops => ?_
    refine oR (rd_ldA rfl mM (by first | exact cut_vb | rfl)) ?_
    first | refine o_store rfl rfl uD (vc_vb) (vbc_len) (spl_vb (by first | exact vbc_len | exact List.length_replicate ..)) ?_ | refine o_store rfl rfl uD rfl rfl rfl ?_
    refine o_nil <| n_K <| s_ret ?_
    refine leaf_is (rets1 Tryz.results128 (rv_cell rfl mM (by first | exact cut_vb | rfl))) ?_ sP
    rw [hres, ← hs]
end
end Go.Proofs.YtkfcpjohblddmaaGreat
end
section
/- Walks of package disk: filling a block. -/
namespace Go.Proofs.YtkfcpjohblddmaaGreat
open Go.K
set_option linter.unusedVariables false
set_option linter.unusedSimpArgs false
instance und166 : Und Tryz.prog 166 (.slice 69) := ⟨Tryz.underlying166⟩
instance agg166 : Agg Tryz.prog 166 false := ⟨⟨_, Tryz.underlying166, rfl⟩⟩
instance siz166 : Siz Tryz.prog 166 1 := ⟨by kernel_rfl⟩
instance ent113 : Ent Tryz.prog 113 := ⟨fun _ _ => by kernel_rfl⟩
theorem vbc_one (p : Pg) : ((vbc p).all (·.oneCell')) = true := by
  rw [List.all_eq_true]
  intro x hx
  obtain ⟨y, _, rfl⟩ := List.mem_map.1 hx
  rfl
instance : Cel Pg := ⟨258, vbc, fun _ => vbc_len, vbc_one⟩
/-- A page is copied, mended. -/
def fill1 (c : Chip) (src to' : Int) (i : Int) : Int × Chip := if mayE c src i = 0 then progC c to' i (mendP (readP c src i)) else (mayE c src i, c)
def fillGo : Nat → Chip → Int → Int → Int → Int × Chip
  | 0, c, _, _, _ => (0, c)
  | f + 1, c, src, to', i => if (fill1 c src to' i).1 ≠ 0 then fill1 c src to' i else fillGo f (fill1 c src to' i).2 src to' (i + 1)
def fillM : List Pg → Chip → Int → Int → Int × Chip
  | [], c, _, _ => (0, c)
  | p :: ps, c, to', i => if (progC c to' i p).1 ≠ 0 then progC c to' i p else fillM ps (progC c to' i p).2 to' (i + 1)
/-- A block's first pages, and some more, are written into a block: the error, the chip. -/
def fillC (c : Chip) (src to' : Int) (count : Nat) (more : List Pg) : Int × Chip :=
  if (fillGo count c src to' 0).1 ≠ 0 then fillGo count c src to' 0 else fillM more (fillGo count c src to' 0).2 to' count
theorem fill1_aC (c : Chip) (src to' i : Int) : (fill1 c src to' i).2.aC = c.aC := by
  unfold fill1
  split
  · exact prog_aC _ _ _ _
  · rfl
theorem dropP {l : List Pg} {i : Nat} {p : Pg} (h : l[i]? = some p) : l.drop i = p :: l.drop (i + 1) := by
  obtain ⟨h1, h2⟩ := List.getElem?_eq_some_iff.1 h
  rw [List.drop_eq_getElem_cons h1, h2]
section
variable {c : Chip} {t : Tab} {a dk : Nat}
theorem fill_fn (ha : c.aC = a) {b to' : Int} {count : Nat} {more : Sl Pg} (hc : count ≤ 8) (hm : more.list.length ≤ 1000) :
    Does Tryz.prog 113 [ptr dk, .int .i64 b, .int .i64 to', .int .i64 (count : Nat), more.val] ((dk, true, C [ptr a, ptr t.b] tDk) :: (tabH a t ++ (chH c ++ (more.hp tPg ++ []))))
    (Is (.int .i64 (fillC c (atD t.ts b) to' count more.list).1) ((dk, true, C [ptr a, ptr t.b] tDk) :: (tabH a t ++ (chH (fillC c (atD t.ts b) to' count more.list).2 ++ (more.hp tPg ++ []))))) := by
  refine fn_enter (n := 64) Tryz.func113 Tryz.ntmps113 rfl (Nat.le_of_ble_eq_true rfl) <| s_seq <| s_region0 fun ops => oA rfl <| o_nil <| n_K <| s_seq <| s_seq <| s_region0 fun ops => oM rfl <| oM rfl <| o_nil <| n_K <| s_block ?_
  refine s_loop2 [0, 1, 2, 3, 4, 17] kQ (fun (st : Nat × Chip) => [(18, .int .i64 st.1)]) (fun (st : Nat × Chip) => (dk, true, C [ptr a, ptr t.b] tDk) :: (tabH a t ++ (chH st.2 ++ (more.hp tPg ++ [])))) (fun (st : Nat × Chip) => st.1 ≤ count ∧ st.2.aC = a ∧ fillGo (count - st.1) st.2 (atD t.ts b) to' st.1 = fillGo count c (atD t.ts b) to' 0) (fun (st : Nat × Chip) => count - st.1) ((0, c)) ⟨Nat.zero_le _, ha, rfl⟩ kP sP ?_
  rintro ⟨i, c1⟩ ⟨h0, h1, h2⟩
  simp only at h0 h1 h2
  refine s_seq <| s_region0 fun ops => oR (rd_bin rfl rfl rfl) <| o_nil <| n_K <| s_seq ?_
  refine s_cond rfl (fun c19 => ?_) (fun c19 => ?_)
  · simp only [decide_eq_true_eq, decide_eq_false_iff_not] at c19
    have hgo : fillGo (count - i) c1 (atD t.ts b) to' i = if (fill1 c1 (atD t.ts b) to' i).1 ≠ 0 then fill1 c1 (atD t.ts b) to' i else fillGo (count - (i + 1)) (fill1 c1 (atD t.ts b) to' i).2 (atD t.ts b) to' ((i : Int) + 1) := (by rw [show count - i = (count - (i + 1)) + 1 by omega]; rfl)
    rw [h2] at hgo
    refine s_skip <| n_K <| s_seq <| s_block <| s_seq <| s_region0 fun ops => oM rfl <| oA rfl <| o_nil <| n_K <| s_seq <| s_region0 fun ops => oM rfl <| oM rfl ?_
    refine oM rfl ?_
    refine c_is rfl (dread_fn (c := c1) (t := t) (dk := dk) h1) sP rfl aQ ?_
    refine oM rfl <| oE rfl rfl <| oE rfl rfl ?_
    refine o_alloc rfl fun b12 => ?_
    first | refine o_store rfl rfl uD (vc_vb) (vbc_len) (spl_vb (by first | exact vbc_len | exact List.length_replicate ..)) ?_ | refine o_store rfl rfl uD rfl rfl rfl ?_
    refine oA rfl <| o_nil <| n_K <| s_seq <| s_seq <| s_region0 fun ops => oM rfl <| oR (rd_bin rfl rfl rfl) <| o_nil <| n_K ?_
    refine s_cond rfl (fun c29 => ?_) (fun c29 => ?_)
    · skip
      have hf1 : fill1 c1 (atD t.ts b) to' i = progC c1 to' i (mendP (readP c1 (atD t.ts b) i)) := (by unfold fill1; rw [if_pos (by simpa using c29)])
      refine s_draw [] [(8, [(0, false), (1, false), (2, false), (3, false), (4, false), (5, false), (6, false), (7, true)]), (9, [(8, true)]), (10, [(9, false)])] (by kernel_rfl) rfl fun ops w0 H0 y => ?_
      refine p_all <| xM rfl <| xN rfl <| xF rfl ?_
      refine xR (rd_ld rfl mM rfl) ?_
      refine xM rfl <| xM rfl ?_
      refine xR (rd_ldA rfl mM (by first | exact cut_vb | rfl)) ?_
      refine x_so ?_
      refine c_is rfl (mended_fn (p := readP c1 (atD t.ts b) i)) sP rfl aQ ?_
      refine o_nil ⟨rfl, ⟨_, sP⟩, ?_⟩
      refine x_nil <| p_none <| x_so ?_
      refine c_is rfl (program_a (c := c1) h1) sP rfl aQ ?_
      refine o_nil ⟨rfl, ⟨_, sP⟩, ?_⟩
      refine x_nil <| p_all <| xA rfl <| x_nil <| p_end <| n_K <| s_seq <| s_region0 fun ops => oM rfl <| oR (rd_bin rfl rfl rfl) <| o_nil <| n_K ?_
      refine s_cond rfl (fun c40 => ?_) (fun c40 => ?_)
      · skip
        have hres : fillC c (atD t.ts b) to' count more.list = fill1 c1 (atD t.ts b) to' i := (by have hne : (fill1 c1 (atD t.ts b) to' i).1 ≠ 0 := (by rw [hf1]; simpa using c40); rw [if_pos hne] at hgo; unfold fillC; rw [hgo, if_pos hne])
        rw [hf1] at hres
        refine s_seq <| s_region0 fun ops => oM rfl <| oA rfl <| o_nil <| n_K <| s_ret <| r_blk <| r_K <| r_K <| r_blk <| r_K ?_
        refine leaf_is (rets1 Tryz.results113 (rv_tmp rfl)) ?_ (by rw [hres]; exact sP)
        rw [hres]
      · skip
        have hz : (fill1 c1 (atD t.ts b) to' i).1 = 0 := (by rw [hf1]; simpa using c40)
        rw [if_neg (by rw [hz]; simp), hf1] at hgo
        refine s_skip <| n_blk <| n_K <| s_region0 fun ops => ?_
        refine oR (rd_add64 rfl rfl (by omega)) ?_
        refine oM rfl <| o_nil <| n_K ?_
        first | exact ⟨(i + 1, (progC c1 to' i (mendP (readP c1 (atD t.ts b) i))).2), ⟨by simp only; omega, (prog_aC _ _ _ _).trans h1, by simp only; exact hgo.symm⟩, by simp only; omega, lZ⟩ | exact ⟨(i + 1, c1), ⟨by simp only; omega, h1, by simp only; exact hgo.symm⟩, by simp only; omega, lZ⟩
    · skip
      have hf1 : fill1 c1 (atD t.ts b) to' i = (mayE c1 (atD t.ts b) i, c1) := (by unfold fill1; rw [if_neg (by simpa using c29)])
      refine s_skip <| n_K <| s_seq <| s_region0 fun ops => oM rfl <| oR (rd_bin rfl rfl rfl) <| o_nil <| n_K ?_
      refine s_cond rfl (fun c40 => ?_) (fun c40 => ?_)
      · skip
        have hres : fillC c (atD t.ts b) to' count more.list = fill1 c1 (atD t.ts b) to' i := (by have hne : (fill1 c1 (atD t.ts b) to' i).1 ≠ 0 := (by rw [hf1]; simpa using c40); rw [if_pos hne] at hgo; unfold fillC; rw [hgo, if_pos hne])
        rw [hf1] at hres
        refine s_seq <| s_region0 fun ops => oM rfl <| oA rfl <| o_nil <| n_K <| s_ret <| r_blk <| r_K <| r_K <| r_blk <| r_K ?_
        refine leaf_is (rets1 Tryz.results113 (rv_tmp rfl)) ?_ (by rw [hres]; exact sP)
        rw [hres]
      · skip
        have hz : (fill1 c1 (atD t.ts b) to' i).1 = 0 := (by rw [hf1]; simpa using c40)
        rw [if_neg (by rw [hz]; simp), hf1] at hgo
        refine s_skip <| n_blk <| n_K <| s_region0 fun ops => ?_
        refine oR (rd_add64 rfl rfl (by omega)) ?_
        refine oM rfl <| o_nil <| n_K ?_
        first | exact ⟨(i + 1, (progC c1 to' i (mendP (readP c1 (atD t.ts b) i))).2), ⟨by simp only; omega, (prog_aC _ _ _ _).trans h1, by simp only; exact hgo.symm⟩, by simp only; omega, lZ⟩ | exact ⟨(i + 1, c1), ⟨by simp only; omega, h1, by simp only; exact hgo.symm⟩, by simp only; omega, lZ⟩
  · simp only [decide_eq_true_eq, decide_eq_false_iff_not] at c19
    have hic : i = count := (by omega)
    subst hic
    have hz : fillGo i c (atD t.ts b) to' 0 = (0, c1) := (by rw [← h2, Nat.sub_self]; rfl)
    refine s_exit <| x_K <| x_K <| x_blk <| n_K <| s_seq <| s_seq <| s_region0 fun ops => oM rfl <| oR (rd_lenS rfl) <| oM rfl <| o_nil <| n_K <| s_block ?_
    refine s_loop2 [0, 2, 3, 43, 44] kQ (fun (st : Nat × Chip) => [(45, .int .i64 st.1)]) (fun (st : Nat × Chip) => (dk, true, C [ptr a, ptr t.b] tDk) :: (tabH a t ++ (chH st.2 ++ (more.hp tPg ++ [])))) (fun (st : Nat × Chip) => st.1 ≤ more.list.length ∧ st.2.aC = a ∧ fillM (more.list.drop st.1) st.2 to' ((i : Int) + st.1) = fillM more.list c1 to' i) (fun (st : Nat × Chip) => more.list.length - st.1) ((0, c1)) ⟨Nat.zero_le _, h1, by simp⟩ kP sP ?_
    rintro ⟨j, c2⟩ ⟨k0, k1, k2⟩
    simp only at k0 k1 k2
    refine s_seq <| s_region0 fun ops => oR (rd_bin rfl rfl rfl) <| o_nil <| n_K <| s_seq ?_
    refine s_cond rfl (fun c46 => ?_) (fun c46 => ?_)
    · simp only [decide_eq_true_eq, decide_eq_false_iff_not] at c46
      obtain ⟨p, hg⟩ : ∃ p, more.list[j]? = some p := ⟨_, List.getElem?_eq_getElem (by omega)⟩
      rw [dropP hg] at k2
      refine s_skip <| n_K <| s_seq <| s_block <| s_seq <| s_region0 fun ops => oM rfl ?_
      refine oR (rd_ixSl rfl rfl (by omega)) ?_
      refine oR (rd_ldSlA (o := 0) rfl pL hg cut_vb rfl) ?_
      refine o_alloc rfl fun b15 => ?_
      refine oA rfl ?_
      first | refine o_store rfl rfl uD (vc_vb) (vbc_len) (spl_vb (by first | exact vbc_len | exact List.length_replicate ..)) ?_ | refine o_store rfl rfl uD rfl rfl rfl ?_
      refine o_nil <| n_K <| s_seq ?_
      refine s_draw [] [(9, [(0, false), (1, false), (2, false), (3, false), (4, false), (5, false), (6, false), (7, false), (8, false)]), (10, [(9, true)]), (11, [(10, false)])] (by kernel_rfl) rfl fun ops w0 H0 y => ?_
      refine p_all <| xM rfl <| xN rfl <| xF rfl ?_
      refine xR (rd_ld rfl mM rfl) ?_
      refine xM rfl <| xM rfl <| xM rfl ?_
      refine xR (rd_add64 rfl rfl (by omega)) ?_
      refine xR (rd_ldA rfl mM (by first | exact cut_vb | rfl)) ?_
      refine x_nil <| p_none <| x_so ?_
      refine c_is rfl (program_a (c := c2) k1) sP rfl aQ ?_
      refine o_nil ⟨rfl, ⟨_, sP⟩, ?_⟩
      refine x_nil <| p_all <| xA rfl <| x_nil <| p_end <| n_K <| s_seq <| s_region0 fun ops => oM rfl <| oR (rd_bin rfl rfl rfl) <| o_nil <| n_K ?_
      refine s_cond rfl (fun c61 => ?_) (fun c61 => ?_)
      · skip
        have hres : fillC c (atD t.ts b) to' i more.list = progC c2 to' ((i : Int) + j) p := (by have hne : (progC c2 to' ((i : Int) + j) p).1 ≠ 0 := (by simpa using c61); unfold fillC; rw [hz, if_neg (by simp), ← k2]; exact if_pos hne)
        refine s_seq <| s_region0 fun ops => oM rfl <| oA rfl <| o_nil <| n_K <| s_ret <| r_blk <| r_K <| r_K <| r_blk <| r_K ?_
        refine leaf_is (rets1 Tryz.results113 (rv_tmp rfl)) ?_ (by rw [hres]; exact sP)
        rw [hres]
      · skip
        have hk : fillM (more.list.drop (j + 1)) (progC c2 to' ((i : Int) + j) p).2 to' ((i : Int) + j + 1) = fillM more.list c1 to' i := (by rw [← k2]; exact (if_neg (by simpa using c61)).symm)
        refine s_skip <| n_blk <| n_K <| s_region0 fun ops => ?_
        refine oR (rd_add64 rfl rfl (by omega)) ?_
        refine oM rfl <| o_nil <| n_K ?_
        exact ⟨(j + 1, (progC c2 to' ((i : Int) + j) p).2), ⟨by simp only; omega, (prog_aC _ _ _ _).trans k1, by simp only; rw [← hk]; congr 1⟩, (by simp only; omega), lZ⟩
    · simp only [decide_eq_true_eq, decide_eq_false_iff_not] at c46
      have hres : fillC c (atD t.ts b) to' i more.list = (0, c2) := (by unfold fillC; rw [hz, if_neg (by simp), ← k2, List.drop_of_length_le (by omega)]; rfl)
      refine s_exit <| x_K <| x_K <| x_blk <| n_K <| s_seq <| s_region0 fun ops => oA rfl <| o_nil <| n_K <| s_ret ?_
      refine leaf_is (rets1 Tryz.results113 (rv_tmp rfl)) ?_ (by rw [hres]; exact sP)
      rw [hres]
end
end Go.Proofs.YtkfcpjohblddmaaGreat
end
section
/- Walks of package disk: moving a block; writing, erasing. -/
namespace Go.Proofs.YtkfcpjohblddmaaGreat
open Go.K
set_option linter.unusedVariables false
set_option linter.unusedSimpArgs false
instance ent81 : Ent Tryz.prog 81 := ⟨fun _ _ => by kernel_rfl⟩
theorem fill1_bads (c : Chip) (src to' i : Int) : bads (fill1 c src to' i).2 = bads c := by
  unfold fill1
  split
  · exact prog_bads _ _ _ _
  · rfl
theorem fillGo_bads (src to' : Int) : ∀ (f : Nat) (c : Chip) (i : Int), bads (fillGo f c src to' i).2 = bads c ∧ (fillGo f c src to' i).2.aC = c.aC
  | 0, c, i => ⟨rfl, rfl⟩
  | f + 1, c, i => by
    unfold fillGo
    split
    · exact ⟨fill1_bads _ _ _ _, fill1_aC _ _ _ _⟩
    · obtain ⟨h1, h2⟩ := fillGo_bads src to' f (fill1 c src to' i).2 (i + 1)
      exact ⟨h1.trans (fill1_bads _ _ _ _), h2.trans (fill1_aC _ _ _ _)⟩
theorem fillM_bads (to' : Int) : ∀ (ps : List Pg) (c : Chip) (i : Int), bads (fillM ps c to' i).2 = bads c ∧ (fillM ps c to' i).2.aC = c.aC
  | [], c, i => ⟨rfl, rfl⟩
  | p :: ps, c, i => by
    unfold fillM
    split
    · exact ⟨prog_bads _ _ _ _, prog_aC _ _ _ _⟩
    · obtain ⟨h1, h2⟩ := fillM_bads to' ps (progC c to' i p).2 (i + 1)
      exact ⟨h1.trans (prog_bads _ _ _ _), h2.trans (prog_aC _ _ _ _)⟩
theorem fillC_bads (c : Chip) (src to' : Int) (count : Nat) (more : List Pg) : bads (fillC c src to' count more).2 = bads c ∧ (fillC c src to' count more).2.aC = c.aC := by
  obtain ⟨h1, h2⟩ := fillGo_bads src to' count c 0
  unfold fillC
  split
  · exact ⟨h1, h2⟩
  · obtain ⟨h3, h4⟩ := fillM_bads to' more (fillGo count c src to' 0).2 count
    exact ⟨h3.trans h1, h4.trans h2⟩
/-- A spare is tried: the error, the chip. -/
def tryC (c : Chip) (src to' : Int) (count : Nat) (more : List Pg) : Int × Chip := if (eraseC c to').1 = 0 then fillC (eraseC c to').2 src to' count more else eraseC c to'
theorem tryC_bads (c : Chip) (src to' : Int) (count : Nat) (more : List Pg) : bads (tryC c src to' count more).2 = bads c ∧ (tryC c src to' count more).2.aC = c.aC := by
  unfold tryC
  split
  · obtain ⟨h1, h2⟩ := fillC_bads (eraseC c to').2 src to' count more
    exact ⟨h1.trans (erase_bads _ _), h2.trans (erase_aC _ _)⟩
  · exact ⟨erase_bads _ _, erase_aC _ _⟩
/-- What moving a block comes to. -/
inductive MoveR (n : Nat) (block : Int) (count : Nat) (more : List Pg) : Chip → TS → Int × TS × Chip → Prop
  | none {c : Chip} {t : TS} : (spareV t n).2 = false → MoveR n block count more c t (34, t, c)
  | err {c : Chip} {t : TS} {e : Int} {c' : Chip} : (spareV t n).2 = true → tryC c (atD t block) (spareV t n).1 count more = (e, c') → e ≠ 0 → e ≠ 33 → MoveR n block count more c t (e, t, c')
  | swap {c : Chip} {t : TS} {c' : Chip} {r : Int × TS × Chip} : (spareV t n).2 = true → tryC c (atD t block) (spareV t n).1 count more = (0, c') → SwapD t c' block (spareV t n).1 r → MoveR n block count more c t r
  | bad {c : Chip} {t : TS} {c' : Chip} {e : Int} {t' : TS} {c'' : Chip} : (spareV t n).2 = true → tryC c (atD t block) (spareV t n).1 count more = (33, c') → LoseD t c' (spareV t n).1 (e, t', c'') → e ≠ 0 → MoveR n block count more c t (e, t', c'')
  | again {c : Chip} {t : TS} {c' : Chip} {t' : TS} {c'' : Chip} {r : Int × TS × Chip} : (spareV t n).2 = true → tryC c (atD t block) (spareV t n).1 count more = (33, c') → LoseD t c' (spareV t n).1 (0, t', c'') → MoveR n block count more c'' t' r → MoveR n block count more c t r
/-- A table of a chip of n blocks. -/
structure WT (n : Nat) (t : TS) : Prop where
  wf : WF n t.uses t.lost
  next : 0 ≤ t.next
  area : 0 ≤ t.area ∧ t.area ≤ 1
theorem keepC_zero {t : TS} {u l : List Int} {c : Chip} (h : (keepC t u l c).1 = 0) : (keepC t u l c).2.1.uses = u ∧ (keepC t u l c).2.1.lost = l := by
  unfold keepC at h ⊢
  simp only [] at h ⊢
  split at h
  · rename_i h1; exact absurd h h1
  · rename_i h1
    rw [if_neg h1]
    exact ⟨rfl, rfl⟩
theorem spareV_ok {t : TS} {n : Nat} (h : (spareV t n).2 = true) : spareB t n (spareV t n).1 = true := by
  unfold spareV at h ⊢
  cases h2 : spareU t n with
  | none => rw [h2] at h; cases h
  | some b =>
    unfold spareU at h2
    simpa using List.find?_some h2
theorem WT.lost {n : Nat} {t : TS} {c c' : Chip} {t' : TS} (h : WT n t) (hn : c.blocks.length = n) (hs : (spareV t n).2 = true) (hd : LoseD t c (spareV t n).1 (0, t', c')) : WT n t' ∧ t'.lost.length = t.lost.length + 1 ∧ bads c' = bads c ∧ c'.aC = c.aC := by
  have hb := spareV_ok hs
  obtain ⟨l, hp, he⟩ := hd.1 (by rw [hn]; exact hb)
  have h0 : (keepC t t.uses l c).1 = 0 := by rw [← he]
  have ht : t' = (keepC t t.uses l c).2.1 := by rw [← he]
  have hc : c' = (keepC t t.uses l c).2.2 := by rw [← he]
  obtain ⟨h1, h2⟩ := keepC_zero h0
  rw [← ht] at h1 h2
  have hk := keepC_t t t.uses l c h.next h.area
  rw [← ht] at hk
  refine ⟨⟨by rw [h1, h2]; exact h.wf.lose hb hp, ?_, ?_⟩, by rw [h2, hp.length_eq]; simp, by rw [hc]; exact keepC_bads _ _ _ _, by rw [hc]; exact keepC_aC _ _ _ _⟩
  · rcases hk with e | ⟨_, _, e, _⟩
    · rw [e]; exact h.next
    · exact e
  · rcases hk with e | ⟨_, _, _, e⟩
    · rw [e]; exact h.area
    · exact e
theorem WT.tab {n : Nat} {t : Tab} (h : WT n t.ts) : t.u.list.length ≤ 1000 ∧ t.l.list.length ≤ 4 ∧ 0 ≤ t.next ∧ (0 ≤ t.area ∧ t.area ≤ 1) := by
  have h1 := h.wf.n2
  have h2 : t.u.list.length + 6 = n := h.wf.len
  have h3 : t.l.list.length ≤ 4 := h.wf.lost4
  exact ⟨by omega, h3, h.next, h.area⟩
section
variable {c : Chip} {t : Tab} {a dk n : Nat}
theorem move_fn (ha : c.aC = a) (hn : c.blocks.length = n) (hw : WT n t.ts) {b : Int} {count : Nat} {more : Sl Pg} (hc : count ≤ 8) (hm : more.list.length ≤ 1000) :
    Does Tryz.prog 81 [ptr dk, .int .i64 b, .int .i64 (count : Nat), more.val] ((dk, true, C [ptr a, ptr t.b] tDk) :: (tabH a t ++ (chH c ++ (more.hp tPg ++ []))))
    (fun v H => ∃ (t' : Tab) (e : Int) (c' : Chip), t'.b = t.b ∧ v = .int .i64 e ∧ H = (dk, true, C [ptr a, ptr t'.b] tDk) :: (tabH a t' ++ (chH c' ++ (more.hp tPg ++ []))) ∧ c'.aC = a ∧ MoveR n b count more.list c t.ts (e, t'.ts, c')) := by
  refine fn_enter (n := 57) Tryz.func81 Tryz.ntmps81 rfl (Nat.le_of_ble_eq_true rfl) <| s_seq <| s_region0 fun ops => oA rfl <| o_nil <| n_K <| s_block ?_
  refine s_loop2 [0, 1, 2, 3] kQ (fun (st : Tab × Chip) => []) (fun (st : Tab × Chip) => (dk, true, C [ptr a, ptr st.1.b] tDk) :: (tabH a st.1 ++ (chH st.2 ++ (more.hp tPg ++ [])))) (fun (st : Tab × Chip) => st.1.b = t.b ∧ st.2.aC = a ∧ st.2.blocks.length = n ∧ WT n st.1.ts ∧ ∀ r, MoveR n b count more.list st.2 st.1.ts r → MoveR n b count more.list c t.ts r) (fun (st : Tab × Chip) => 5 - st.1.l.list.length) ((t, c)) ⟨rfl, ha, hn, hw, fun r h => h⟩ kP sP ?_
  rintro ⟨t1, c1⟩ ⟨h0, h1, h2, h3, h4⟩
  simp only at h0 h1 h2 h3 h4
  obtain ⟨w1, w2, w3, w4⟩ := h3.tab
  refine s_block <| s_seq <| s_region0 fun ops => oM rfl <| oN rfl <| oF rfl ?_
  refine oR (rd_ld rfl mM rfl) ?_
  refine c_is rfl ((spareM_fn (t := t1) (c := c1) h1 (by have := h3.wf.n2; omega)).to (by rw [h2]) rfl) sP rfl aQ ?_
  refine oM rfl <| oE rfl rfl <| oE rfl rfl <| oA rfl <| oA rfl <| o_nil <| n_K <| s_seq <| s_seq <| s_region0 fun ops => oM rfl <| oR (rd_not rfl) <| o_nil <| n_K ?_
  refine s_cond rfl (fun c21 => ?_) (fun c21 => ?_)
  · skip
    have hs : (spareV t1.ts n).2 = false := (by simpa using c21)
    refine s_seq <| s_region0 fun ops => oA rfl <| o_nil <| n_K <| s_ret <| r_K <| r_blk <| r_K <| r_blk ?_
    exact leaf_r (rets1 Tryz.results81 (rv_tmp rfl)) (by exact ⟨t1, 34, c1, h0, rfl, rfl, h1, h4 _ (.none hs)⟩) (by first | (rw [hb']; exact sP) | exact sP)
  · skip
    have hs : (spareV t1.ts n).2 = true := (by simpa using c21)
    refine s_skip <| n_K <| s_seq <| s_region0 fun ops => oM rfl <| oN rfl <| oF rfl ?_
    refine oR (rd_ld rfl mM rfl) ?_
    refine oM rfl ?_
    refine c_is rfl (erase_a (c := c1) h1) sP rfl aQ ?_
    refine oA rfl <| o_nil <| n_K <| s_seq <| s_seq <| s_region0 fun ops => oM rfl <| oR (rd_bin rfl rfl rfl) <| o_nil <| n_K ?_
    refine s_cond rfl (fun c29 => ?_) (fun c29 => ?_)
    · skip
      have htr : tryC c1 (atD t1.ts b) (spareV t1.ts n).1 count more.list = fillC (eraseC c1 (spareV t1.ts n).1).2 (atD t1.ts b) (spareV t1.ts n).1 count more.list := (by unfold tryC; rw [if_pos (by simpa using c29)])
      refine s_region0 fun ops => oM rfl <| oM rfl <| oM rfl <| oM rfl <| oM rfl ?_
      refine c_is rfl (fill_fn (c := (eraseC c1 (spareV t1.ts n).1).2) (t := t1) (dk := dk) (to' := (spareV t1.ts n).1) ((erase_aC _ _).trans h1) hc hm) sP rfl aQ ?_
      refine oA rfl <| o_nil <| n_K <| s_seq <| s_seq <| s_region0 fun ops => oM rfl <| o_nil <| n_K <| s_block <| s_seq <| s_region0 fun ops => oR (rd_bin rfl rfl rfl) <| oA rfl ?_
      refine o_nil <| n_K ?_
      refine s_cond rfl (fun c37 => ?_) (fun c37 => ?_)
      · skip
        try (exfalso; ((rw [c29] at c37; cases c37)); done)
        all_goals
          rw [← htr] at c37 ⊢
          obtain ⟨hTb, hTa⟩ := tryC_bads c1 (atD t1.ts b) (spareV t1.ts n).1 count more.list
          generalize hT : tryC c1 (atD t1.ts b) (spareV t1.ts n).1 count more.list = T at *
          have hTl : T.2.blocks.length = n := (bads_len hTb).trans h2
          have hTa' : T.2.aC = a := hTa.trans h1
          have hT0 : tryC c1 (atD t1.ts b) (spareV t1.ts n).1 count more.list = (0, T.2) := (by rw [hT]; exact Prod.ext (by simpa using c37) rfl)
          refine s_seq <| s_region0 fun ops => oM rfl <| oN rfl <| oF rfl ?_
          refine oR (rd_ld rfl mM rfl) ?_
          refine oM rfl <| oM rfl ?_
          refine c_ex rfl (swapD_fn (c := T.2) (t := t1) hTa' w1 (by omega) w3 w4) sP rfl fun v45 Y45 h45 => ?_
          obtain ⟨t', e, c', hb', rfl, rfl, ha', hd⟩ := h45
          refine so_ap aQ ?_
          refine oA rfl <| o_nil <| n_K <| s_ret <| r_blk <| r_K <| r_blk <| r_K <| r_blk ?_
          exact leaf_r (rets1 Tryz.results81 (rv_tmp rfl)) (by first | exact ⟨t', e, c', hb'.trans h0, rfl, rfl, ha', h4 _ (.swap hs hT0 hd)⟩ | exact ⟨t', e, c', hb'.trans h0, rfl, rfl, ha', h4 _ (.bad hs hT3 hd (by simpa using c55))⟩ | exact ⟨t1, T.1, T.2, h0, rfl, rfl, hTa', h4 _ (.err hs hT hTn hTn3)⟩) (by first | (rw [hb']; exact sP) | exact sP)
      · skip
        rw [← htr] at c37 ⊢
        obtain ⟨hTb, hTa⟩ := tryC_bads c1 (atD t1.ts b) (spareV t1.ts n).1 count more.list
        generalize hT : tryC c1 (atD t1.ts b) (spareV t1.ts n).1 count more.list = T at *
        have hTl : T.2.blocks.length = n := (bads_len hTb).trans h2
        have hTa' : T.2.aC = a := hTa.trans h1
        have hTn : T.1 ≠ 0 := (by simpa using c37)
        refine s_seq <| s_region0 fun ops => oR (rd_bin rfl rfl rfl) <| oA rfl <| o_nil <| n_K ?_
        refine s_cond rfl (fun c46 => ?_) (fun c46 => ?_)
        · skip
          have hT3 : tryC c1 (atD t1.ts b) (spareV t1.ts n).1 count more.list = (33, T.2) := (by rw [hT]; exact Prod.ext (by simpa using c46) rfl)
          refine s_region0 fun ops => oM rfl <| oN rfl <| oF rfl ?_
          refine oR (rd_ld rfl mM rfl) ?_
          refine oM rfl ?_
          refine c_ex rfl (loseD_fn (c := T.2) (t := t1) hTa' w1 (by omega) w3 w4) sP rfl fun v53 Y53 h53 => ?_
          obtain ⟨t', e, c', hb', rfl, rfl, ha', hd⟩ := h53
          refine so_ap aQ ?_
          refine oA rfl <| o_nil <| n_blk <| n_K <| s_seq <| s_region0 fun ops => oM rfl <| oR (rd_bin rfl rfl rfl) <| o_nil <| n_K ?_
          refine s_cond rfl (fun c55 => ?_) (fun c55 => ?_)
          · skip
            refine s_seq <| s_region0 fun ops => oM rfl <| oA rfl <| o_nil <| n_K <| s_ret <| r_blk <| r_K <| r_blk ?_
            exact leaf_r (rets1 Tryz.results81 (rv_tmp rfl)) (by first | exact ⟨t', e, c', hb'.trans h0, rfl, rfl, ha', h4 _ (.swap hs hT0 hd)⟩ | exact ⟨t', e, c', hb'.trans h0, rfl, rfl, ha', h4 _ (.bad hs hT3 hd (by simpa using c55))⟩ | exact ⟨t1, T.1, T.2, h0, rfl, rfl, hTa', h4 _ (.err hs hT hTn hTn3)⟩) (by first | (rw [hb']; exact sP) | exact sP)
          · skip
            try (exfalso; (rw [c37] at c55; cases c55); done)
            all_goals
              have he0 : e = 0 := (by simpa using c55)
              rw [he0] at hd
              obtain ⟨l1, l2, l3, l4⟩ := h3.lost hTl hs hd
              refine s_skip <| n_blk <| n_K ?_
              exact ⟨(t', c'), ⟨hb'.trans h0, ha', (bads_len l3).trans hTl, l1, fun r hr => h4 r (.again hs hT3 hd hr)⟩, (by have h5 : t'.l.list.length = t1.l.list.length + 1 := l2; simp only; omega), kP, kP, _, (by simp only; rw [hb']; exact sP)⟩
        · skip
          have hTn3 : T.1 ≠ 33 := (by simpa using c46)
          refine s_skip <| n_blk <| n_K <| s_seq <| s_region0 fun ops => oM rfl <| oR (rd_bin rfl rfl rfl) <| o_nil <| n_K ?_
          refine s_cond rfl (fun c55 => ?_) (fun c55 => ?_)
          · skip
            refine s_seq <| s_region0 fun ops => oM rfl <| oA rfl <| o_nil <| n_K <| s_ret <| r_blk <| r_K <| r_blk ?_
            exact leaf_r (rets1 Tryz.results81 (rv_tmp rfl)) (by first | exact ⟨t', e, c', hb'.trans h0, rfl, rfl, ha', h4 _ (.swap hs hT0 hd)⟩ | exact ⟨t', e, c', hb'.trans h0, rfl, rfl, ha', h4 _ (.bad hs hT3 hd (by simpa using c55))⟩ | exact ⟨t1, T.1, T.2, h0, rfl, rfl, hTa', h4 _ (.err hs hT hTn hTn3)⟩) (by first | (rw [hb']; exact sP) | exact sP)
          · skip
            try (exfalso; (rw [c37] at c55; cases c55); done)
            all_goals
              have he0 : e = 0 := (by simpa using c55)
              rw [he0] at hd
              obtain ⟨l1, l2, l3, l4⟩ := h3.lost hTl hs hd
              refine s_skip <| n_blk <| n_K ?_
              exact ⟨(t', c'), ⟨hb'.trans h0, ha', (bads_len l3).trans hTl, l1, fun r hr => h4 r (.again hs hT3 hd hr)⟩, (by have h5 : t'.l.list.length = t1.l.list.length + 1 := l2; simp only; omega), kP, kP, _, (by simp only; rw [hb']; exact sP)⟩
    · skip
      have htr : tryC c1 (atD t1.ts b) (spareV t1.ts n).1 count more.list = eraseC c1 (spareV t1.ts n).1 := (by unfold tryC; rw [if_neg (by simpa using c29)])
      refine s_skip <| n_K <| s_seq <| s_seq <| s_region0 fun ops => oM rfl <| o_nil <| n_K <| s_block <| s_seq <| s_region0 fun ops => oR (rd_bin rfl rfl rfl) <| oA rfl <| o_nil ?_
      refine n_K ?_
      refine s_cond rfl (fun c37 => ?_) (fun c37 => ?_)
      · skip
        try (exfalso; ((rw [c29] at c37; cases c37)); done)
        all_goals
          rw [← htr] at c37 ⊢
          obtain ⟨hTb, hTa⟩ := tryC_bads c1 (atD t1.ts b) (spareV t1.ts n).1 count more.list
          generalize hT : tryC c1 (atD t1.ts b) (spareV t1.ts n).1 count more.list = T at *
          have hTl : T.2.blocks.length = n := (bads_len hTb).trans h2
          have hTa' : T.2.aC = a := hTa.trans h1
          have hT0 : tryC c1 (atD t1.ts b) (spareV t1.ts n).1 count more.list = (0, T.2) := (by rw [hT]; exact Prod.ext (by simpa using c37) rfl)
          refine s_seq <| s_region0 fun ops => oM rfl <| oN rfl <| oF rfl ?_
          refine oR (rd_ld rfl mM rfl) ?_
          refine oM rfl <| oM rfl ?_
          refine c_ex rfl (swapD_fn (c := T.2) (t := t1) hTa' w1 (by omega) w3 w4) sP rfl fun v45 Y45 h45 => ?_
          obtain ⟨t', e, c', hb', rfl, rfl, ha', hd⟩ := h45
          refine so_ap aQ ?_
          refine oA rfl <| o_nil <| n_K <| s_ret <| r_blk <| r_K <| r_blk <| r_K <| r_blk ?_
          exact leaf_r (rets1 Tryz.results81 (rv_tmp rfl)) (by first | exact ⟨t', e, c', hb'.trans h0, rfl, rfl, ha', h4 _ (.swap hs hT0 hd)⟩ | exact ⟨t', e, c', hb'.trans h0, rfl, rfl, ha', h4 _ (.bad hs hT3 hd (by simpa using c55))⟩ | exact ⟨t1, T.1, T.2, h0, rfl, rfl, hTa', h4 _ (.err hs hT hTn hTn3)⟩) (by first | (rw [hb']; exact sP) | exact sP)
      · skip
        rw [← htr] at c37 ⊢
        obtain ⟨hTb, hTa⟩ := tryC_bads c1 (atD t1.ts b) (spareV t1.ts n).1 count more.list
        generalize hT : tryC c1 (atD t1.ts b) (spareV t1.ts n).1 count more.list = T at *
        have hTl : T.2.blocks.length = n := (bads_len hTb).trans h2
        have hTa' : T.2.aC = a := hTa.trans h1
        have hTn : T.1 ≠ 0 := (by simpa using c37)
        refine s_seq <| s_region0 fun ops => oR (rd_bin rfl rfl rfl) <| oA rfl <| o_nil <| n_K ?_
        refine s_cond rfl (fun c46 => ?_) (fun c46 => ?_)
        · skip
          have hT3 : tryC c1 (atD t1.ts b) (spareV t1.ts n).1 count more.list = (33, T.2) := (by rw [hT]; exact Prod.ext (by simpa using c46) rfl)
          refine s_region0 fun ops => oM rfl <| oN rfl <| oF rfl ?_
          refine oR (rd_ld rfl mM rfl) ?_
          refine oM rfl ?_
          refine c_ex rfl (loseD_fn (c := T.2) (t := t1) hTa' w1 (by omega) w3 w4) sP rfl fun v53 Y53 h53 => ?_
          obtain ⟨t', e, c', hb', rfl, rfl, ha', hd⟩ := h53
          refine so_ap aQ ?_
          refine oA rfl <| o_nil <| n_blk <| n_K <| s_seq <| s_region0 fun ops => oM rfl <| oR (rd_bin rfl rfl rfl) <| o_nil <| n_K ?_
          refine s_cond rfl (fun c55 => ?_) (fun c55 => ?_)
          · skip
            refine s_seq <| s_region0 fun ops => oM rfl <| oA rfl <| o_nil <| n_K <| s_ret <| r_blk <| r_K <| r_blk ?_
            exact leaf_r (rets1 Tryz.results81 (rv_tmp rfl)) (by first | exact ⟨t', e, c', hb'.trans h0, rfl, rfl, ha', h4 _ (.swap hs hT0 hd)⟩ | exact ⟨t', e, c', hb'.trans h0, rfl, rfl, ha', h4 _ (.bad hs hT3 hd (by simpa using c55))⟩ | exact ⟨t1, T.1, T.2, h0, rfl, rfl, hTa', h4 _ (.err hs hT hTn hTn3)⟩) (by first | (rw [hb']; exact sP) | exact sP)
          · skip
            try (exfalso; (rw [c37] at c55; cases c55); done)
            all_goals
              have he0 : e = 0 := (by simpa using c55)
              rw [he0] at hd
              obtain ⟨l1, l2, l3, l4⟩ := h3.lost hTl hs hd
              refine s_skip <| n_blk <| n_K ?_
              exact ⟨(t', c'), ⟨hb'.trans h0, ha', (bads_len l3).trans hTl, l1, fun r hr => h4 r (.again hs hT3 hd hr)⟩, (by have h5 : t'.l.list.length = t1.l.list.length + 1 := l2; simp only; omega), kP, kP, _, (by simp only; rw [hb']; exact sP)⟩
        · skip
          have hTn3 : T.1 ≠ 33 := (by simpa using c46)
          refine s_skip <| n_blk <| n_K <| s_seq <| s_region0 fun ops => oM rfl <| oR (rd_bin rfl rfl rfl) <| o_nil <| n_K ?_
          refine s_cond rfl (fun c55 => ?_) (fun c55 => ?_)
          · skip
            refine s_seq <| s_region0 fun ops => oM rfl <| oA rfl <| o_nil <| n_K <| s_ret <| r_blk <| r_K <| r_blk ?_
            exact leaf_r (rets1 Tryz.results81 (rv_tmp rfl)) (by first | exact ⟨t', e, c', hb'.trans h0, rfl, rfl, ha', h4 _ (.swap hs hT0 hd)⟩ | exact ⟨t', e, c', hb'.trans h0, rfl, rfl, ha', h4 _ (.bad hs hT3 hd (by simpa using c55))⟩ | exact ⟨t1, T.1, T.2, h0, rfl, rfl, hTa', h4 _ (.err hs hT hTn hTn3)⟩) (by first | (rw [hb']; exact sP) | exact sP)
          · skip
            try (exfalso; (rw [c37] at c55; cases c55); done)
            all_goals
              have he0 : e = 0 := (by simpa using c55)
              rw [he0] at hd
              obtain ⟨l1, l2, l3, l4⟩ := h3.lost hTl hs hd
              refine s_skip <| n_blk <| n_K ?_
              exact ⟨(t', c'), ⟨hb'.trans h0, ha', (bads_len l3).trans hTl, l1, fun r hr => h4 r (.again hs hT3 hd hr)⟩, (by have h5 : t'.l.list.length = t1.l.list.length + 1 := l2; simp only; omega), kP, kP, _, (by simp only; rw [hb']; exact sP)⟩
end
end Go.Proofs.YtkfcpjohblddmaaGreat
end
section
/- Walks of package disk: writing a page, erasing a block. -/
namespace Go.Proofs.YtkfcpjohblddmaaGreat
open Go.K
set_option linter.unusedVariables false
set_option linter.unusedSimpArgs false
instance ent49 : Ent Tryz.prog 49 := ⟨fun _ _ => by kernel_rfl⟩
instance ent51 : Ent Tryz.prog 51 := ⟨fun _ _ => by kernel_rfl⟩
set_option maxRecDepth 20000
theorem prog_33 {c : Chip} {i j : Int} {d : Pg} (h : (progC c i j d).1 = 33) : 0 ≤ j ∧ j < 8 := by
  by_cases hm : mayE c i j = 0
  · have := may_in hm; omega
  · rw [prog_may hm] at h
    simp only at h
    unfold mayE at h
    split at h
    · omega
    · split at h
      · omega
      · split at h <;> omega
theorem fill_page (p : Pg) : fillA (List.replicate 258 (Value.int .u8 0)).length (zrep 1 (List.replicate 258 (.int .u8 0))) [(0, .agg (vbc p).toArray)] = some (vbc p) := by
  have h1 : Nat.beq (Value.agg (vbc p).toArray).cells.toList.length 258 = true := by
    show Nat.beq (vbc p).length 258 = true
    rw [vbc_len]; rfl
  have h2 : splice (zrep 1 (List.replicate 258 (.int .u8 0))) (0 * 258) (Value.agg (vbc p).toArray).cells.toList = some (vbc p) := by
    show splice (List.replicate 258 (.int .u8 0) ++ []) 0 (vbc p) = some (vbc p)
    rw [List.append_nil]
    exact spl_vb (List.length_replicate ..)
  rw [List.length_replicate]
  unfold fillA
  rw [h1, cond_true, h2]
  rfl
/-- What a page's writing comes to. -/
def ProgD (n : Nat) (b k : Int) (p : Pg) (c : Chip) (t : TS) (r : Int × TS × Chip) : Prop :=
  ((progC c (atD t b) k p).1 = 33 → MoveR n b k.toNat [p] (progC c (atD t b) k p).2 t r) ∧ ((progC c (atD t b) k p).1 ≠ 33 → r = ((progC c (atD t b) k p).1, t, (progC c (atD t b) k p).2))
def EraseD (n : Nat) (b : Int) (c : Chip) (t : TS) (r : Int × TS × Chip) : Prop :=
  ((eraseC c (atD t b)).1 = 33 → MoveR n b 0 [] (eraseC c (atD t b)).2 t r) ∧ ((eraseC c (atD t b)).1 ≠ 33 → r = ((eraseC c (atD t b)).1, t, (eraseC c (atD t b)).2))
section
variable {c : Chip} {t : Tab} {a dk n : Nat}
theorem move1_fn (ha : c.aC = a) (hn : c.blocks.length = n) (hw : WT n t.ts) {b : Int} {count mb : Nat} {p : Pg} (hc : count ≤ 8) :
    Does Tryz.prog 81 [ptr dk, .int .i64 b, .int .i64 (count : Nat), .slice (some ⟨mb, 0, none⟩) 1 1] ((dk, true, C [ptr a, ptr t.b] tDk) :: (tabH a t ++ (chH c ++ [(mb, true, C (vbc p) tPg)])))
    (fun v H => ∃ (t' : Tab) (e : Int) (c' : Chip), t'.b = t.b ∧ v = .int .i64 e ∧ H = (dk, true, C [ptr a, ptr t'.b] tDk) :: (tabH a t' ++ (chH c' ++ [(mb, true, C (vbc p) tPg)])) ∧ c'.aC = a ∧ MoveR n b count [p] c t.ts (e, t'.ts, c')) := by
  have h := move_fn (dk := dk) (b := b) (more := (.own mb [p] 1 [] ⟨by simp, Nat.le_refl _, by simp⟩ : Sl Pg)) ha hn hw hc (by show 1 ≤ 1000; omega)
  have e : cells [p] ++ [] = vbc p := by simp [cells, Cel.cs]
  rw [Sl.hp_own, e] at h
  exact h
theorem move0_fn (ha : c.aC = a) (hn : c.blocks.length = n) (hw : WT n t.ts) {b : Int} :
    Does Tryz.prog 81 [ptr dk, .int .i64 b, .int .i64 0, .slice none 0 0] ((dk, true, C [ptr a, ptr t.b] tDk) :: (tabH a t ++ (chH c ++ [])))
    (fun v H => ∃ (t' : Tab) (e : Int) (c' : Chip), t'.b = t.b ∧ v = .int .i64 e ∧ H = (dk, true, C [ptr a, ptr t'.b] tDk) :: (tabH a t' ++ (chH c' ++ [])) ∧ c'.aC = a ∧ MoveR n b 0 [] c t.ts (e, t'.ts, c')) := by
  have h := move_fn (dk := dk) (b := b) (count := 0) (more := (.nil : Sl Pg)) ha hn hw (by omega) (by show 0 ≤ 1000; omega)
  rw [Sl.hp_nil] at h
  exact h
theorem dprogram_fn (ha : c.aC = a) (hn : c.blocks.length = n) (hw : WT n t.ts) {b k : Int} {p : Pg} :
    Does Tryz.prog 49 [ptr dk, .int .i64 b, .int .i64 k, .agg (vbc p).toArray] ((dk, true, C [ptr a, ptr t.b] tDk) :: (tabH a t ++ (chH c ++ [])))
    (fun v H => ∃ (t' : Tab) (e : Int) (c' : Chip), t'.b = t.b ∧ v = .int .i64 e ∧ H = (dk, true, C [ptr a, ptr t'.b] tDk) :: (tabH a t' ++ (chH c' ++ [])) ∧ c'.aC = a ∧ ProgD n b k p c t.ts (e, t'.ts, c')) := by
  refine fn_enter (n := 29) Tryz.func49 Tryz.ntmps49 rfl (Nat.le_of_ble_eq_true rfl) <| s_seq <| s_region0 fun ops => ?_
  refine o_boxA rfl rfl fun b7 => ?_
  refine oA rfl <| o_nil <| n_K <| s_seq ?_
  refine s_draw [] [(9, [(0, false), (1, false), (2, false), (3, false), (4, false), (5, false), (7, false), (8, false), (6, true)]), (10, [(9, true)]), (11, [(10, false)])] (by kernel_rfl) rfl fun ops w0 H0 y => ?_
  refine p_all <| xM rfl <| xN rfl <| xF rfl ?_
  refine xR (rd_ld rfl mM rfl) ?_
  refine xM rfl <| xM rfl <| xM rfl ?_
  refine xR (rd_ldA rfl mM (by first | exact cut_vb | rfl)) ?_
  refine x_so ?_
  refine c_is rfl (dat_fn (a := a) (t := t) (dk := dk)) sP rfl aQ ?_
  refine o_nil ⟨rfl, ⟨_, sP⟩, ?_⟩
  refine x_nil <| p_none <| x_so ?_
  refine c_is rfl (program_a ha) sP rfl aQ ?_
  refine o_nil ⟨rfl, ⟨_, sP⟩, ?_⟩
  refine x_nil <| p_all <| xA rfl <| x_nil <| p_end <| n_K <| s_seq <| s_seq <| s_region0 fun ops => oM rfl <| oR (rd_bin rfl rfl rfl) <| o_nil <| n_K ?_
  refine s_cond rfl (fun c21 => ?_) (fun c21 => ?_)
  · skip
    have h33 : (progC c (atD t.ts b) k p).1 = 33 := (by simpa using c21)
    obtain ⟨m, hm⟩ : ∃ m : Nat, k = m := ⟨k.toNat, by have := prog_33 h33; omega⟩
    subst hm
    have hm8 : m ≤ 8 := (by have := prog_33 h33; omega)
    refine s_region0 fun ops => oM rfl <| oM rfl <| oM rfl ?_
    refine oR (rd_ldA rfl mM (by first | exact cut_vb | rfl)) ?_
    refine o_bslice_k (cs := vbc p) (zs := List.replicate 258 (.int .u8 0)) rfl (fill_page p) rfl rfl fun b26 => ?_
    refine c_ex rfl (move1_fn (c := (progC c (atD t.ts b) m p).2) (t := t) (dk := dk) (b := b) (p := p) ((prog_aC _ _ _ _).trans ha) ((bads_len (prog_bads _ _ _ _)).trans hn) hw hm8) sP rfl fun v27 Y27 h27 => ?_
    obtain ⟨t', e, c', hb', rfl, rfl, ha', hd⟩ := h27
    refine so_ap aQ ?_
    refine oA rfl <| o_nil <| n_K <| s_seq <| s_region0 fun ops => oM rfl <| oA rfl <| o_nil <| n_K <| s_ret ?_
    exact leaf_r (rets1 Tryz.results49 (rv_tmp rfl)) (by exact ⟨t', e, c', hb', rfl, rfl, ha', fun _ => hd, fun h => absurd h33 h⟩) (by rw [hb']; exact sP)
  · skip
    have h33 : (progC c (atD t.ts b) k p).1 ≠ 33 := (by simpa using c21)
    refine s_skip <| n_K <| s_seq <| s_region0 fun ops => oM rfl <| oA rfl <| o_nil <| n_K <| s_ret ?_
    exact leaf_r (rets1 Tryz.results49 (rv_tmp rfl)) (by exact ⟨t, _, _, rfl, rfl, rfl, (prog_aC _ _ _ _).trans ha, fun h => absurd h h33, fun _ => rfl⟩) sP
theorem derase_fn (ha : c.aC = a) (hn : c.blocks.length = n) (hw : WT n t.ts) {b : Int} :
    Does Tryz.prog 51 [ptr dk, .int .i64 b] ((dk, true, C [ptr a, ptr t.b] tDk) :: (tabH a t ++ (chH c ++ [])))
    (fun v H => ∃ (t' : Tab) (e : Int) (c' : Chip), t'.b = t.b ∧ v = .int .i64 e ∧ H = (dk, true, C [ptr a, ptr t'.b] tDk) :: (tabH a t' ++ (chH c' ++ [])) ∧ c'.aC = a ∧ EraseD n b c t.ts (e, t'.ts, c')) := by
  refine fn_enter (n := 20) Tryz.func51 Tryz.ntmps51 rfl (Nat.le_of_ble_eq_true rfl) <| s_seq <| s_region0 fun ops => oA rfl <| o_nil <| n_K <| s_seq ?_
  refine s_draw [] [(7, [(0, false), (1, false), (2, false), (3, false), (4, false), (5, false), (6, true)]), (8, [(7, true)]), (9, [(8, false)])] (by kernel_rfl) rfl fun ops w0 H0 y => ?_
  refine p_all <| xM rfl <| xN rfl <| xF rfl ?_
  refine xR (rd_ld rfl mM rfl) ?_
  refine xM rfl <| xM rfl <| x_so ?_
  refine c_is rfl (dat_fn (a := a) (t := t) (dk := dk)) sP rfl aQ ?_
  refine o_nil ⟨rfl, ⟨_, sP⟩, ?_⟩
  refine x_nil <| p_none <| x_so ?_
  refine c_is rfl (erase_a ha) sP rfl aQ ?_
  refine o_nil ⟨rfl, ⟨_, sP⟩, ?_⟩
  refine x_nil <| p_all <| xA rfl <| x_nil <| p_end <| n_K <| s_seq <| s_seq <| s_region0 fun ops => oM rfl <| oR (rd_bin rfl rfl rfl) <| o_nil <| n_K ?_
  refine s_cond rfl (fun c15 => ?_) (fun c15 => ?_)
  · skip
    have h33 : (eraseC c (atD t.ts b)).1 = 33 := (by simpa using c15)
    refine s_region0 fun ops => oM rfl <| oM rfl ?_
    refine c_ex rfl (move0_fn (c := (eraseC c (atD t.ts b)).2) (t := t) (dk := dk) (b := b) ((erase_aC _ _).trans ha) ((bads_len (erase_bads _ _)).trans hn) hw) sP rfl fun v18 Y18 h18 => ?_
    obtain ⟨t', e, c', hb', rfl, rfl, ha', hd⟩ := h18
    refine so_ap aQ ?_
    refine oA rfl <| o_nil <| n_K <| s_seq <| s_region0 fun ops => oM rfl <| oA rfl <| o_nil <| n_K <| s_ret ?_
    exact leaf_r (rets1 Tryz.results51 (rv_tmp rfl)) (by exact ⟨t', e, c', hb', rfl, rfl, ha', fun _ => hd, fun h => absurd h33 h⟩) (by rw [hb']; exact sP)
  · skip
    have h33 : (eraseC c (atD t.ts b)).1 ≠ 33 := (by simpa using c15)
    refine s_skip <| n_K <| s_seq <| s_region0 fun ops => oM rfl <| oA rfl <| o_nil <| n_K <| s_ret ?_
    exact leaf_r (rets1 Tryz.results51 (rv_tmp rfl)) (by exact ⟨t, _, _, rfl, rfl, rfl, (erase_aC _ _).trans ha, fun h => absurd h h33, fun _ => rfl⟩) sP
end
end Go.Proofs.YtkfcpjohblddmaaGreat
end
section
/- Walks: acts that are to fail; disks made and opened. -/
namespace Go.Proofs.YtkfcpjohblddmaaGreat
open Go.K
set_option linter.unusedVariables false
set_option linter.unusedSimpArgs false
instance zer44 : Zer Tryz.prog 44 ([.pointer none, .pointer none]) := ⟨by kernel_rfl⟩
instance plc44 : Plc Tryz.prog 44 [(0, 1), (1, 1)] := ⟨⟨_, Tryz.underlying44, fun _ => by kernel_rfl⟩⟩
instance ent43 : Ent Tryz.prog 43 := ⟨fun _ _ => by kernel_rfl⟩
def failC (c : Chip) (pr : Bool) (s : Sl Int) : Chip := if pr = true then { c with pf := s, pc := 0 } else { c with wf := s, wc := 0 }
section
variable {c : Chip} {a : Nat}
theorem disk_ok {tb : Nat} : Does Tryz.prog 43 [ptr a, ptr tb, .int .i64 0] [] (fun v H => ∃ dk, v = .tuple #[ptr dk, .int .i64 0] ∧ H = [(dk, true, C [ptr a, ptr tb] tDk)]) := by
  refine fn_enter (n := 15) Tryz.func43 Tryz.ntmps43 rfl (Nat.le_of_ble_eq_true rfl) <| s_seq <| s_region0 fun ops => oA rfl <| oA rfl <| o_nil <| n_K <| s_seq <| s_seq <| s_region0 fun ops => oM rfl <| oR (rd_bin rfl rfl rfl) <| o_nil <| n_K ?_
  refine s_condF rfl ?_
  refine s_skip <| n_K <| s_seq <| s_region0 fun ops => oM rfl <| oM rfl <| oR (rd_build_s rfl rfl) ?_
  refine o_box rfl rfl fun b14 => ?_
  refine oA rfl <| oA rfl <| o_nil <| n_K <| s_ret ?_
  exact leaf_r (rets2 Tryz.results43 (rv_tmp rfl) (rv_tmp rfl)) (by exact ⟨_, rfl, rfl⟩) sP
end
end Go.Proofs.YtkfcpjohblddmaaGreat
end
section
/- Walks of the laws of disks: a record's page; a disk of a new chip. -/
namespace Go.Proofs.YtkfcpjohblddmaaGreat
open Go.K
set_option linter.unusedVariables false
set_option linter.unusedSimpArgs false
instance ent23 : Ent Tryz.prog 23 := ⟨fun _ _ => by kernel_rfl⟩
def kindL (b : By) : By := 1 + b % 200
theorem kindL_nat : ∀ b : By, (kindL b).toNat = 1 + b.toNat % 200 := all8 (by decide +kernel)
theorem kind_u8 : ∀ b : By, IntKind.u8.wrap (1 + ((b.toNat % 200 : Nat) : Int)) = ((kindL b).toNat : Int) := all8 (by decide +kernel)
/-- A law's page. -/
def bodyL (b : By) (k : Int) : List By := [b, byteI k, b ^^^ 85]
def pageL (b : By) (k : Int) : Pg := (writeF (kindL b) (bodyL b k)).1
theorem rd_rem8 {P : Program} {E : Env} {H : Hp} {t u : TypeId} {x y : Operand} {i m : Nat} (hx : ev E x = some (.int .u8 (i : Nat))) (hy : ev E y = some (.int .u8 (m : Nat))) (hm : m ≠ 0) : Rd P E H (.binOp .rem t x y u) (.int .u8 ((i % m : Nat) : Int)) := fun a w d ty pos af g h1 h2 => by
  have e1 := ev_ok h1 hx
  have e2 := ev_ok h1 hy
  have e3 : ¬ (m : Int) = 0 := by omega
  have e4 : (i : Int).tmod (m : Int) = ((i % m : Nat) : Int) := by
    rw [Int.tmod_eq_emod_of_nonneg (by omega), ← Int.natCast_emod]
  simp only [execOp, e1, e2, eqGuard, binOp, Op.intDiv, if_neg e3, e4]
  simp
theorem write3_fn {q b : Nat} {kind x y z : By} : Does Tryz.prog 24 [bv kind, .slice (some ⟨q, 0, none⟩) 1 1] [(q, true, C [.slice (some ⟨b, 0, none⟩) 3 3] tSB), (b, true, C [bv x, bv y, bv z] tU8)]
    (Is (.tuple #[.agg (vbc (writeF kind [x, y, z]).1).toArray, .int .i64 (writeF kind [x, y, z]).2]) [(q, true, C [.slice (some ⟨b, 0, none⟩) 3 3] tSB), (b, true, C [bv x, bv y, bv z] tU8)]) := by
  have h := write_one (b := q) (kind := kind) (s := .own b [x, y, z] 3 [] ⟨by simp, Nat.le_refl _, by simp⟩) (by show 3 ≤ 70000000000000; omega)
  rw [Sl.hp_own] at h
  exact h
theorem byte_i64 (k : Int) : IntKind.u8.wrap k = ((byteI k).toNat : Int) := wrap_u .u8 rfl k
/-- The law's page is a record's. -/
theorem pageL_right (b : By) (k : Int) : wrong (kindL b) (bodyL b k) = false := by
  unfold wrong
  rw [kindL_nat]
  simp [bodyL]
  omega
theorem pageL_eq (b : By) (k : Int) : pageL b k = pageW (kindL b) (bodyL b k) := by
  unfold pageL writeF
  rw [if_neg (by rw [pageL_right]; simp)]
/-- A chip's table is made: what stands elsewhere. -/
theorem formatG_fn {pp aC aB m : Nat} (hm : 16 ≤ m ∧ m ≤ 40) (hX : fmtX (badL m []) = false) : Does Tryz.prog 42 [ptr aC] (chH (newG (-1) 0 pp aC aB m []))
    (fun v H => ∃ (tb : Tab) (c' : Chip), v = .tuple #[ptr tb.b, .int .i64 0] ∧ H = tabH aC tb ++ (chH c' ++ []) ∧ c'.aC = aC ∧ c'.aP = pp ∧ JI c' tb.ts (fmtV (badL m []) ((m : Int) - 6) m) (badL m []) m 0 ∧ PgP c' (PlB m) ∧ ∀ i, 2 ≤ i → i < m → c'.blocks[i]? = some (newB false)) := by
  have hlen : (newG (-1) 0 pp aC aB m []).blocks.length = m := new_len
  refine (format_b (c := newG (-1) 0 pp aC aB m []) (a := aC) rfl (by rw [hlen]; omega)).mono fun v H h => ?_
  obtain ⟨t, c', h1, h2, h3, h4⟩ := new_JI (aP := pp) (aC := aC) (aB := aB) hm hX
  obtain ⟨c2, q1, q2⟩ := new_format (after := -1) (keep := 0) (aP := pp) (aC := aC) (aB := aB) (n := m) (bad := []) (by omega) (by omega) ((new_fmtX hm).trans hX)
  unfold FormatR at h
  rw [h1] at h
  rcases h with ⟨tb, rfl, rfl, h5, _⟩ | ⟨_, _, h6⟩
  · refine ⟨tb, c', rfl, rfl, h3, h4, by rw [h5]; exact h2, newPg hm hX h1 h2, fun i hi hl => ?_⟩
    rw [q1] at h1
    simp only [Prod.mk.injEq] at h1
    rw [← h1.2.2, q2, prg_other (by omega), new_block hl]
    rfl
  · exact absurd rfl h6
theorem dformat_fn {pp aC aB m : Nat} (hm : 16 ≤ m ∧ m ≤ 40) (hX : fmtX (badL m []) = false) : Does Tryz.prog 23 [ptr aC] (chH (newG (-1) 0 pp aC aB m []))
    (fun v H => ∃ (dk : Nat) (tb : Tab) (c' : Chip), v = .tuple #[ptr dk, .int .i64 0] ∧ H = (dk, true, C [ptr aC, ptr tb.b] tDk) :: (tabH aC tb ++ (chH c' ++ [])) ∧ c'.aC = aC ∧ c'.aP = pp ∧ JI c' tb.ts (fmtV (badL m []) ((m : Int) - 6) m) (badL m []) m 0 ∧ ∀ i, 2 ≤ i → i < m → c'.blocks[i]? = some (newB false)) := by
  refine fn_enter (n := 17) Tryz.func23 Tryz.ntmps23 rfl (Nat.le_of_ble_eq_true rfl) <| s_seq <| s_region0 fun ops => oA rfl <| oA rfl <| o_nil <| n_K <| s_seq <| s_region0 fun ops => oM rfl ?_
  refine c_ex rfl (formatG_fn (pp := pp) (aC := aC) (aB := aB) (m := m) hm hX) sP rfl fun v8 Y8 h8 => ?_
  obtain ⟨tb, c', rfl, rfl, a1, a2, a3, _, a4⟩ := h8
  refine so_ap aQ ?_
  refine oM rfl <| oE rfl rfl <| oE rfl rfl <| oA rfl <| oA rfl <| o_nil <| n_K <| s_seq <| s_region0 fun ops => oM rfl <| oM rfl <| oM rfl ?_
  refine c_ex rfl (disk_ok (a := aC) (tb := tb.b)) sP rfl fun v14 Y14 h14 => ?_
  obtain ⟨dk, rfl, rfl⟩ := h14
  refine so_ap aQ ?_
  refine oE rfl rfl <| oE rfl rfl <| oA rfl <| oA rfl <| o_nil <| n_K <| s_ret ?_
  exact leaf_r (rets2 Tryz.results23 (rv_tmp rfl) (rv_tmp rfl)) (by exact ⟨dk, tb, c', rfl, rfl, a1, a2, a3, a4⟩) sP
end Go.Proofs.YtkfcpjohblddmaaGreat
end
section
/- Plain laws of disks: mended pages; acts on a chip's other blocks. -/
namespace Go.Proofs.YtkfcpjohblddmaaGreat
open Go.K
set_option linter.unusedVariables false
set_option linter.unusedSimpArgs false
theorem mend_err {p : Pg} (h : (readF p).2.2.2 ≠ 0) : mendP p = p := by unfold mendP; rw [if_pos (.inl h)]
theorem mend_blank : mendP blankP = blankP := mend_err (by rw [readF_blank blankP_b]; decide)
theorem mend_torn {p : Pg} (h : p[257] = 255#8) : mendP p = p := mend_err (readF_torn h)
theorem mend_page {k : By} {b : List By} (hw : wrong k b = false) : mendP (pageW k b) = pageW k b := by
  unfold mendP
  rw [readF_page hw, if_pos (.inr rfl)]
theorem mend_flip {k : By} {b : List By} {i : Nat} (hw : wrong k b = false) (hi : i < 2064) : mendP (flipP (pageW k b) i) = pageW k b := by
  unfold mendP
  rw [readF_flip hw hi, if_neg (by simp)]
  simp only
  unfold writeF
  rw [if_neg (by rw [hw]; simp)]
theorem mend_pageL (b : By) (k : Int) : mendP (pageL b k) = pageL b k := by rw [pageL_eq]; exact mend_page (pageL_right b k)
theorem mend_flipL {b : By} {k : Int} {i : Nat} (hi : i < 2064) : mendP (flipP (pageL b k) i) = pageL b k := by rw [pageL_eq]; exact mend_flip (pageL_right b k) hi
/-! acts on a block that isn't the table's own -/
theorem Hold.far {c c' : Chip} {v : Nat} {u l : List Int} {a k : Nat} (h : Hold c v u l a) (hk : 2 ≤ k) (f : Fr k c c') : Hold c' v u l a := by
  have ho : ∀ i, i < 2 → c'.blocks[i]? = c.blocks[i]? := fun i hi => f.oth i (by omega)
  refine ⟨by rw [f.len]; exact h.ok, h.a2, fun i hi => by rw [ho i hi]; exact h.bs i hi, fun i hi b hb => ?_, ?_⟩
  · rw [ho i hi] at hb
    rw [f.len]
    exact h.le i hi b hb
  · rw [ho a h.a2, f.len]
    exact h.ex
theorem TI.far {c c' : Chip} {t : TS} {k : Nat} (h : TI c t) (hk : 2 ≤ k) (f : Fr k c c') : TI c' t := by
  obtain ⟨a, h1, h2, h3⟩ := h
  exact ⟨a, h1, h2.far hk f, by rw [f.oth a (by have := h2.a2; omega)]; exact h3⟩
/-- No block of a chip is bad, and pages from the next one on hold nothing. -/
def AllB (c : Chip) : Prop := ∀ (i : Nat) (b : Blk), c.blocks[i]? = some b → BI b ∧ b.bad = false
theorem AllB.far {c c' : Chip} {k : Nat} {b : Blk} (h : AllB c) (f : Fr k c c') (hb : c'.blocks[k]? = some b) (h1 : BI b) (h2 : b.bad = false) : AllB c' := fun i b' hb' => by
  by_cases e : i = k
  · subst e
    rw [hb] at hb'
    cases hb'
    exact ⟨h1, h2⟩
  · rw [f.oth i e] at hb'
    exact h i b' hb'
theorem AllB.keep {c c' : Chip} {v : Nat} {u l : List Int} {a : Nat} (h : AllB c) (f : Fr2 c c') (hh : Hold c' v u l a) : AllB c' := fun i b' hb' => by
  by_cases e : i < 2
  · obtain ⟨b2, h1, h2, h3⟩ := hh.bs i e
    rw [h1] at hb'
    cases hb'
    exact ⟨h2, h3⟩
  · rw [f.oth i (by omega)] at hb'
    exact h i b' hb'
/-- A program of a block: what it comes to. -/
theorem prog_data {c : Chip} {a j : Nat} {b : Blk} {d : Pg} {B : Int} (up : Up c) (hb : c.blocks[a]? = some b) (hj : j < 8) (hbad : b.bad = false) (hbi : BI b) (hn : b.next = j) (hc : Cnt c B) (hB : B < 8000000000000000000) :
    ∃ e m c', progC c a j d = (e, c') ∧ Fr a c c' ∧ Cnt c' (B + 1) ∧ c'.blocks[a]? = some (wrK b j (andP m blankP d)) ∧
      ((e = 30 ∧ c'.off = true ∧ ¬ c.after < 0) ∨ (e = 33 ∧ m = 129 ∧ Up c' ∧ FP c' + 1 ≤ FP c) ∨ (e = 0 ∧ m = 258 ∧ Up c')) := by
  obtain ⟨e, m, hp, hcase⟩ := prog_step up (d := d) hb hj hbad hbi hn
  obtain ⟨hfr, hcn, hfp⟩ := cp_fr (a := a) (b := wrK b j (andP m blankP d)) hc (by omega)
  have hoff := cp_off (a := a) (b := wrK b j (andP m blankP d)) up
  refine ⟨e, m, _, hp, hfr, hcn, setB_at hb, ?_⟩
  rcases hcase with ⟨h1, h2⟩ | ⟨h1, h2, h3, h4⟩ | ⟨h1, h2, h3, h4⟩
  · exact .inl ⟨h1, by rw [hoff]; exact h2, ends_pos h2⟩
  · exact .inr (.inl ⟨h1, h2, up.of hfr.dead hfr.out (by rw [hoff]; exact h3), hfp h4⟩)
  · exact .inr (.inr ⟨h1, h2, up.of hfr.dead hfr.out (by rw [hoff]; exact h3)⟩)
end Go.Proofs.YtkfcpjohblddmaaGreat
end
section
/- Plain laws of disks: what filling a block leaves. -/
namespace Go.Proofs.YtkfcpjohblddmaaGreat
open Go.K
set_option linter.unusedVariables false
set_option linter.unusedSimpArgs false
/-- What is left of a chip behind acts on one block, one of which may have failed, or been the last. -/
def Out (c c' : Chip) (e : Int) : Prop := (e = 30 ∧ c'.off = true ∧ ¬ c.after < 0) ∨ (e = 33 ∧ Up c' ∧ FP c' + 1 ≤ FP c) ∨ (e = 0 ∧ Up c')
theorem Out.step {k : Nat} {c c1 c2 : Chip} {e : Int} (f : Fr k c c1) (h : Out c1 c2 e) : Out c c2 e := by
  rcases h with ⟨h1, h2, h3⟩ | ⟨h1, h2, h3⟩ | ⟨h1, h2⟩
  · exact .inl ⟨h1, h2, fun hp => h3 (by rw [(f.pos hp).1]; exact hp)⟩
  · exact .inr (.inl ⟨h1, h2, by have := f.fp; omega⟩)
  · exact .inr (.inr ⟨h1, h2⟩)
theorem fillGo_spec {a to' : Nat} {bs : Blk} (hne : a ≠ to') : ∀ (f : Nat) (c : Chip) (i : Nat) (bt : Blk) (B : Int), i + f ≤ 8 → Up c → c.blocks[a]? = some bs → c.blocks[to']? = some bt → bt.bad = false → BI bt → bt.next = i → Cnt c B → B + f < 8000000000000000000 →
    ∃ e c', fillGo f c a to' i = (e, c') ∧ Fr to' c c' ∧ Cnt c' (B + f) ∧ Out c c' e ∧ ∃ b', c'.blocks[to']? = some b' ∧ BI b' ∧ b'.bad = false ∧
      (e = 0 → b'.next = ((i + f : Nat) : Int) ∧ (∀ (j : Nat) (h : j < 8), j < i → b'.pages[j] = bt.pages[j]) ∧ ∀ (j : Nat) (h : j < 8), i ≤ j → j < i + f → b'.pages[j] = mendP bs.pages[j])
  | 0, c, i, bt, B, hf, up, ha, hb, hbad, hbi, hn, hc, hB =>
    ⟨0, c, rfl, Fr.refl _ _, by simpa using hc, .inr (.inr ⟨rfl, up⟩), bt, hb, hbi, hbad, fun _ => ⟨hn, fun _ _ _ => rfl, fun j h h1 h2 => by omega⟩⟩
  | f + 1, c, i, bt, B, hf, up, ha, hb, hbad, hbi, hn, hc, hB => by
    have hi8 : i < 8 := by omega
    have hal : a < c.blocks.length := (List.getElem?_eq_some_iff.1 ha).1
    have hm : mayE c (a : Nat) (i : Nat) = 0 := mayU up hal hi8
    have hrd : readP c (a : Nat) (i : Nat) = bs.pages[i] := read_of hm ha hi8
    obtain ⟨e, m, c1, hp, hfr, hcn, hbk, hcase⟩ := prog_data (d := mendP bs.pages[i]) up hb hi8 hbad hbi hn hc (by omega)
    have hf1 : fill1 c (a : Nat) (to' : Nat) (i : Nat) = (e, c1) := by
      unfold fill1
      rw [if_pos hm, hrd, hp]
    have hbi' := wrK_bi (q := andP m blankP (mendP bs.pages[i])) hbi hi8 hn
    have hcn' : Cnt c1 (B + ((f + 1 : Nat) : Int)) := ⟨by have := hcn.p0; push_cast; omega, by have := hcn.w0; push_cast; omega⟩
    unfold fillGo
    rw [hf1]
    rcases hcase with ⟨rfl, h1, h2⟩ | ⟨rfl, h1, h2, h3⟩ | ⟨rfl, h1, h2⟩
    · rw [if_pos (by simp)]
      exact ⟨30, c1, rfl, hfr, hcn', .inl ⟨rfl, h1, h2⟩, _, hbk, hbi', hbad, fun h => by cases h⟩
    · rw [if_pos (by simp)]
      exact ⟨33, c1, rfl, hfr, hcn', .inr (.inl ⟨rfl, h2, h3⟩), _, hbk, hbi', hbad, fun h => by cases h⟩
    · rw [if_neg (by simp)]
      subst h1
      obtain ⟨e2, c2, k1, k2, k3, k4, b2, k5, k6, k7, k8⟩ := fillGo_spec hne f c1 (i + 1) (wrK bt i (andP 258 blankP (mendP bs.pages[i]))) (B + 1) (by omega) h2 (by rw [hfr.oth a hne]; exact ha) hbk hbad hbi' rfl hcn (by omega)
      refine ⟨e2, c2, ?_, hfr.trans k2, ⟨by have := k3.p0; push_cast; omega, by have := k3.w0; push_cast; omega⟩, k4.step hfr, b2, k5, k6, k7, fun h => ?_⟩
      · exact_mod_cast k1
      · obtain ⟨q1, q2, q3⟩ := k8 h
        refine ⟨by rw [q1]; push_cast; omega, fun j hj hlt => ?_, fun j hj hge hlt => ?_⟩
        · rw [q2 j hj (by omega), wrK_at hj, if_neg (by omega)]
        · by_cases e1 : j = i
          · subst e1
            rw [q2 j hj (by omega), wrK_at hj, if_pos rfl]
            exact and_full (Nat.le_refl _)
          · exact q3 j hj (by omega) (by omega)
end Go.Proofs.YtkfcpjohblddmaaGreat
end
section
/- Plain laws of disks: what trying a spare leaves. -/
namespace Go.Proofs.YtkfcpjohblddmaaGreat
open Go.K
set_option linter.unusedVariables false
set_option linter.unusedSimpArgs false
/-- As Out, with erases. -/
def OutW (c c' : Chip) (e : Int) : Prop := (e = 30 ∧ c'.off = true ∧ ¬ c.after < 0) ∨ (e = 33 ∧ Up c' ∧ FP c' + FW c' + 1 ≤ FP c + FW c) ∨ (e = 0 ∧ Up c')
theorem Out.w {k : Nat} {c c' : Chip} {e : Int} (f : Fr k c c') (h : Out c c' e) : OutW c c' e := by
  rcases h with h | ⟨h1, h2, h3⟩ | h
  · exact .inl h
  · exact .inr (.inl ⟨h1, h2, by have := f.fw; omega⟩)
  · exact .inr (.inr h)
theorem OutW.step {k : Nat} {c c1 c2 : Chip} {e : Int} (f : Fr k c c1) (h : OutW c1 c2 e) : OutW c c2 e := by
  rcases h with ⟨h1, h2, h3⟩ | ⟨h1, h2, h3⟩ | ⟨h1, h2⟩
  · exact .inl ⟨h1, h2, fun hp => h3 (by rw [(f.pos hp).1]; exact hp)⟩
  · exact .inr (.inl ⟨h1, h2, by have := f.fp; have := f.fw; omega⟩)
  · exact .inr (.inr ⟨h1, h2⟩)
/-- What stands in a block that was filled. -/
def Filled (bs b' : Blk) (count : Nat) (more : List Pg) : Prop :=
  b'.next = ((count + more.length : Nat) : Int) ∧ (∀ (j : Nat) (h : j < 8), j < count → b'.pages[j] = mendP bs.pages[j]) ∧ ∀ (p : Pg) (h : count < 8), more = [p] → b'.pages[count] = p
theorem fillC_spec {a to' : Nat} {bs bt : Blk} {c : Chip} {count : Nat} {more : List Pg} {B : Int} (hne : a ≠ to') (hl : more.length ≤ 1) (h8 : count + more.length ≤ 8) (up : Up c) (ha : c.blocks[a]? = some bs) (hb : c.blocks[to']? = some bt) (hbad : bt.bad = false) (hbi : BI bt) (hn : bt.next = 0) (hc : Cnt c B) (hB : B + 100 < 8000000000000000000) :
    ∃ e c', fillC c (a : Nat) (to' : Nat) count more = (e, c') ∧ Fr to' c c' ∧ Cnt c' (B + 9) ∧ Out c c' e ∧ ∃ b', c'.blocks[to']? = some b' ∧ BI b' ∧ b'.bad = false ∧ (e = 0 → Filled bs b' count more) := by
  obtain ⟨e, c1, h1, h2, h3, h4, b1, h5, h6, h7, h8'⟩ := fillGo_spec hne count c 0 bt B (by omega) up ha hb hbad hbi hn hc (by omega)
  have h1' : fillGo count c (a : Nat) (to' : Nat) 0 = (e, c1) := h1
  have hc1 : Cnt c1 (B + 9) := ⟨by have := h3.p0; omega, by have := h3.w0; omega⟩
  unfold fillC
  rw [h1']
  by_cases he : e = 0
  · subst he
    rw [if_neg (by simp)]
    obtain ⟨q1, q2, q3⟩ := h8' rfl
    have up1 : Up c1 := by
      rcases h4 with ⟨h, _⟩ | ⟨h, _⟩ | ⟨_, h⟩
      · cases h
      · cases h
      · exact h
    match more, hl, h8 with
    | [], _, _ =>
      exact ⟨0, c1, rfl, h2, hc1, h4, b1, h5, h6, h7, fun _ => ⟨by rw [q1]; simp, fun j h hlt => q3 j h (by omega) (by omega), fun p h hp => by cases hp⟩⟩
    | [p], _, h8 =>
      have hc8 : count < 8 := by simp at h8; omega
      obtain ⟨e2, m, c2, p1, p2, p3, p4, p5⟩ := prog_data (d := p) up1 h5 hc8 h7 h6 (by rw [q1]; simp) h3 (by omega)
      have hM : fillM [p] c1 (to' : Nat) (count : Nat) = (e2, c2) := by
        unfold fillM
        rw [p1]
        split
        · rfl
        · rename_i h
          have : e2 = 0 := by simpa using h
          rw [this]; rfl
      have hbi' := wrK_bi (q := andP m blankP p) h6 hc8 (by rw [q1]; simp)
      refine ⟨e2, c2, hM, h2.trans p2, ⟨by have := p3.p0; omega, by have := p3.w0; omega⟩, ?_, _, p4, hbi', h7, fun h => ?_⟩
      · refine Out.step h2 ?_
        rcases p5 with p5 | ⟨r1, r2, r3, r4⟩ | ⟨r1, r2, r3⟩
        · exact .inl p5
        · exact .inr (.inl ⟨r1, r3, r4⟩)
        · exact .inr (.inr ⟨r1, r3⟩)
      · have hm : m = 258 := by
          rcases p5 with ⟨r1, _⟩ | ⟨r1, _⟩ | ⟨_, r2, _⟩
          · omega
          · omega
          · exact r2
        subst hm
        refine ⟨by show (count : Int) + 1 = _; simp, fun j hj hlt => ?_, fun p' hp' heq => ?_⟩
        · rw [wrK_at hj, if_neg (by omega)]
          exact q3 j hj (by omega) (by omega)
        · cases heq
          rw [wrK_at hp', if_pos rfl]
          exact and_full (Nat.le_refl _)
  · rw [if_pos (by simpa using he)]
    exact ⟨e, c1, rfl, h2, hc1, h4, b1, h5, h6, h7, fun h => absurd h he⟩
/-- A spare is tried. -/
theorem tryC_spec {a to' : Nat} {bs bt : Blk} {c : Chip} {count : Nat} {more : List Pg} {B : Int} (hne : a ≠ to') (hl : more.length ≤ 1) (h8 : count + more.length ≤ 8) (up : Up c) (ha : c.blocks[a]? = some bs) (hb : c.blocks[to']? = some bt) (hbad : bt.bad = false) (hc : Cnt c B) (hB : B + 200 < 8000000000000000000) :
    ∃ e c', tryC c (a : Nat) (to' : Nat) count more = (e, c') ∧ Fr to' c c' ∧ Cnt c' (B + 10) ∧ OutW c c' e ∧ ∃ b', c'.blocks[to']? = some b' ∧ BI b' ∧ b'.bad = false ∧ (e = 0 → Filled bs b' count more) := by
  obtain ⟨e, c1, h1, h2, h3⟩ := erase_spec up hb hbad hc (by omega)
  obtain ⟨b1, k1, k2, k3, k4, k5⟩ := h2.blk
  unfold tryC
  rw [h1]
  rcases h2.how with ⟨rfl, q1, q2⟩ | ⟨rfl, q1, q2⟩ | ⟨rfl, q1⟩
  · rw [if_neg (by simp)]
    exact ⟨30, c1, rfl, h2.fr, ⟨by have := h3.p0; omega, by have := h3.w0; omega⟩, .inl ⟨rfl, q1, q2⟩, b1, k1, k2, k3.trans hbad, fun h => by cases h⟩
  · rw [if_neg (by simp)]
    exact ⟨33, c1, rfl, h2.fr, ⟨by have := h3.p0; omega, by have := h3.w0; omega⟩, .inr (.inl ⟨rfl, up.of h2.fr.dead h2.fr.out q1, by have := h2.fr.fp; omega⟩), b1, k1, k2, k3.trans hbad, fun h => by cases h⟩
  · rw [if_pos rfl]
    have up1 := up.of h2.fr.dead h2.fr.out q1
    obtain ⟨e2, c2, r1, r2, r3, r4, b2, r5, r6, r7, r8⟩ := fillC_spec (bs := bs) (count := count) (more := more) hne hl h8 up1 (by rw [h2.fr.oth a hne]; exact ha) k1 (k3.trans hbad) k2 (k5 rfl) h3 (by omega)
    exact ⟨e2, c2, r1, h2.fr.trans r2, ⟨by have := r3.p0; omega, by have := r3.w0; omega⟩, OutW.step h2.fr (r4.w r2), b2, r5, r6, r7, r8⟩
end Go.Proofs.YtkfcpjohblddmaaGreat
end
section
/- Plain laws of disks: the invariant; a plan is kept. -/
namespace Go.Proofs.YtkfcpjohblddmaaGreat
open Go.K
set_option linter.unusedVariables false
set_option linter.unusedSimpArgs false
/-- What is known of a disk: k is how much was done. -/
structure DI (c : Chip) (t : TS) (n k : Nat) : Prop where
  up : Up c
  ti : TI c t
  wf : WF n t.uses t.lost
  len : c.blocks.length = n
  bs : AllB c
  cnt : Cnt c (1000 * k + 1000)
  ver : t.version.toNat ≤ k + 1
theorem DI.wt {c : Chip} {t : TS} {n k : Nat} (h : DI c t n k) : WT n t := by
  obtain ⟨a, h1, h2, b, h3, h4, h5⟩ := h.ti
  have := h2.a2
  exact ⟨h.wf, h4, by omega⟩
theorem DI.mono {c : Chip} {t : TS} {n k k' : Nat} (h : DI c t n k) (hk : k ≤ k') : DI c t n k' :=
  ⟨h.up, h.ti, h.wf, h.len, h.bs, ⟨by have := h.cnt.p0; omega, by have := h.cnt.w0; omega⟩, by have := h.ver; omega⟩
/-- A plan is kept: it is the new one, or the power is gone, and it is one of both. -/
theorem DI.keep {c : Chip} {t : TS} {n k : Nat} {u lost : List Int} {e : Int} {t' : TS} {c' : Chip} (h : DI c t n k) (hk : k ≤ 1000000) (hfp : FP c ≤ 7) (hfw : FW c ≤ 3) (hw : WF n u lost) (hr : (e, t', c') = keepC t u lost c) :
    Fr2 c c' ∧ ((e = 0 ∧ DI c' t' n (k + 1) ∧ t'.uses = u ∧ t'.lost = lost) ∨
      (e = 30 ∧ c'.off = true ∧ ¬ c.after < 0 ∧ t' = t ∧ Cnt c' (1000 * ((k + 1 : Nat) : Int) + 1000) ∧ AllB c' ∧ ∃ v uu ll a, v ≤ k + 2 ∧ Hold c' v uu ll a ∧ WF n uu ll ∧ ((uu = t.uses ∧ ll = t.lost) ∨ (uu = u ∧ ll = lost)))) := by
  obtain ⟨e2, t2, c2, h1, h2, h3, h4⟩ := keep_hold (u := u) (l := lost) (B := 1000 * k + 1000) h.up h.ti (by have := h.ver; omega) (by rw [h.len]; exact hw.okP) hfp hfw h.cnt (by omega)
  rw [h1] at hr
  simp only [Prod.mk.injEq] at hr
  obtain ⟨rfl, rfl, rfl⟩ := hr
  have p := h3.p0
  have q := h3.w0
  have hc : Cnt c' (1000 * ((k + 1 : Nat) : Int) + 1000) := ⟨by push_cast; omega, by push_cast; omega⟩
  have hv := h.ver
  refine ⟨h2, ?_⟩
  rcases h4 with ⟨h5, h6, h7, h8, h9, h10⟩ | ⟨h5, h6, h7, h8, h9⟩
  · have h7k := h7
    obtain ⟨a, _, hh, _⟩ := h7k
    exact .inl ⟨h5, ⟨h6, h7, by rw [h8, h9]; exact hw, h2.len.trans h.len, h.bs.keep h2 hh, hc, by omega⟩, h8, h9⟩
  · refine .inr ⟨h5, h6, h7, h8, hc, ?_⟩
    rcases h9 with ⟨a, hh⟩ | ⟨a, hh⟩
    · exact ⟨h.bs.keep h2 hh, _, _, _, a, by omega, hh, h.wf, .inl ⟨rfl, rfl⟩⟩
    · exact ⟨h.bs.keep h2 hh, _, _, _, a, by omega, hh, hw, .inr ⟨rfl, rfl⟩⟩
/-- An act on a block that isn't the table's own. -/
theorem DI.far {c c' : Chip} {t : TS} {n k i : Nat} {b : Blk} (h : DI c t n k) (hi : 2 ≤ i) (f : Fr i c c') (up : Up c') (hb : c'.blocks[i]? = some b) (h1 : BI b) (h2 : b.bad = false) (hc : Cnt c' (1000 * k + 1000 + 10)) : DI c' t n (k + 1) :=
  ⟨up, h.ti.far hi f, h.wf, f.len.trans h.len, h.bs.far f hb h1 h2, ⟨by have := hc.p0; push_cast; omega, by have := hc.w0; push_cast; omega⟩, by have := h.ver; omega⟩
/-- Once the power is there again: the disk that is opened. -/
theorem open_disk {c : Chip} {n k v a : Nat} {u l : List Int} (up : Up c) (h : Hold c v u l a) (hw : WF n u l) (hl : c.blocks.length = n) (hb : AllB c) (hc : Cnt c (1000 * k + 1000)) (hv : v ≤ k + 1) : ∃ t, openC c = (0, t) ∧ DI c t n k ∧ t.uses = u ∧ t.lost = l := by
  obtain ⟨t, h1, h2, h3, h4, h5⟩ := open_hold up h
  exact ⟨t, h1, ⟨up, h2, by rw [h3, h4]; exact hw, hl, hb, hc, by omega⟩, h3, h4⟩
end Go.Proofs.YtkfcpjohblddmaaGreat
end
section
/- Plain laws of disks: what moving a block comes to. -/
namespace Go.Proofs.YtkfcpjohblddmaaGreat
open Go.K
set_option linter.unusedVariables false
set_option linter.unusedSimpArgs false
/-- The blocks in use stay. -/
def SameU (u : List Int) (c c' : Chip) : Prop := ∀ x ∈ u, c'.blocks[x.toNat]? = c.blocks[x.toNat]?
/-- What stays of a chip behind acts on any blocks. -/
structure FrA (c c' : Chip) : Prop where
  len : c'.blocks.length = c.blocks.length
  dead : c'.dead = c.dead
  out : c'.out = c.out
  aP : c'.aP = c.aP
  aC : c'.aC = c.aC
  aB : c'.aB = c.aB
  pf : c'.pf = c.pf
  wf : c'.wf = c.wf
  fp : FP c' ≤ FP c
  fw : FW c' ≤ FW c
  pos : c.after < 0 → c'.after = c.after ∧ c'.off = c.off
  keep : c'.keep = c.keep
theorem FrA.refl (c : Chip) : FrA c c := ⟨rfl, rfl, rfl, rfl, rfl, rfl, rfl, rfl, Nat.le_refl _, Nat.le_refl _, fun _ => ⟨rfl, rfl⟩, rfl⟩
theorem Fr.all {a : Nat} {c c' : Chip} (h : Fr a c c') : FrA c c' := ⟨h.len, h.dead, h.out, h.aP, h.aC, h.aB, h.pf, h.wf, h.fp, h.fw, h.pos, h.keep⟩
theorem Fr2.all {c c' : Chip} (h : Fr2 c c') : FrA c c' := ⟨h.len, h.dead, h.out, h.aP, h.aC, h.aB, h.pf, h.wf, h.fp, h.fw, h.pos, h.keep⟩
theorem FrA.trans {c c' c'' : Chip} (h : FrA c c') (k : FrA c' c'') : FrA c c'' :=
  ⟨k.len.trans h.len, k.dead.trans h.dead, k.out.trans h.out, k.aP.trans h.aP, k.aC.trans h.aC, k.aB.trans h.aB, k.pf.trans h.pf, k.wf.trans h.wf, Nat.le_trans k.fp h.fp, Nat.le_trans k.fw h.fw,
    fun hp => by
      obtain ⟨h1, h2⟩ := h.pos hp
      obtain ⟨h3, h4⟩ := k.pos (by omega)
      exact ⟨h3.trans h1, h4.trans h2⟩, k.keep.trans h.keep⟩
/-- What moving a block leaves: worn; moved; the power is gone. -/
def MoveOut (n k : Nat) (b : Int) (count : Nat) (more : List Pg) (bs : Blk) (c : Chip) (t : TS) (r : Int × TS × Chip) : Prop :=
  FrA c r.2.2 ∧ SameU t.uses c r.2.2 ∧
  ((r.1 = 34 ∧ DI r.2.2 r.2.1 n k ∧ r.2.1.uses = t.uses ∧ (spareV r.2.1 n).2 = false ∧ r.2.1.lost.length + FP r.2.2 + FW r.2.2 ≤ t.lost.length + FP c + FW c) ∨
   (r.1 = 0 ∧ DI r.2.2 r.2.1 n k ∧ r.2.1.lost.length + FP r.2.2 + FW r.2.2 ≤ t.lost.length + FP c + FW c + 1 ∧ t.lost.length + 1 ≤ r.2.1.lost.length ∧ ∃ (x : Nat) (b' : Blk), (x : Int) ∉ t.uses ∧ 2 ≤ x ∧ r.2.1.uses = t.uses.set b.toNat x ∧ r.2.2.blocks[x]? = some b' ∧ Filled bs b' count more) ∨
   (r.1 = 30 ∧ r.2.2.off = true ∧ ¬ c.after < 0 ∧ Cnt r.2.2 (1000 * k + 1000) ∧ AllB r.2.2 ∧ ∃ v uu ll a, v ≤ k + 1 ∧ ll.length + FP r.2.2 + FW r.2.2 ≤ t.lost.length + FP c + FW c + 1 ∧ Hold r.2.2 v uu ll a ∧ WF n uu ll ∧ (uu = t.uses ∨ ∃ (x : Nat) (b' : Blk), (x : Int) ∉ t.uses ∧ 2 ≤ x ∧ uu = t.uses.set b.toNat x ∧ r.2.2.blocks[x]? = some b' ∧ Filled bs b' count more)))
theorem SameU.trans {u : List Int} {c c' c'' : Chip} (h : SameU u c c') (k : SameU u c' c'') : SameU u c c'' := fun x hx => (k x hx).trans (h x hx)
theorem SameU.far {u : List Int} {c c' : Chip} {i : Nat} (f : Fr i c c') (h : ∀ x ∈ u, 0 ≤ x) (hi : (i : Int) ∉ u) : SameU u c c' := fun x hx => f.oth _ (fun e => hi (by have := h x hx; rw [← e, Int.toNat_of_nonneg this]; exact hx))
theorem SameU.two {u : List Int} {c c' : Chip} (f : Fr2 c c') (h : ∀ x ∈ u, 2 ≤ x) : SameU u c c' := fun x hx => f.oth _ (by have := h x hx; omega)
end Go.Proofs.YtkfcpjohblddmaaGreat
end
section
/- Plain laws of disks: what moving a block comes to, by induction. -/
namespace Go.Proofs.YtkfcpjohblddmaaGreat
open Go.K
set_option linter.unusedVariables false
set_option linter.unusedSimpArgs false
/-- A spare is tried, on a disk. -/
theorem DI.try {c : Chip} {t : TS} {n k a : Nat} {bs : Blk} {count : Nat} {more : List Pg} {b e : Int} {c' : Chip} (h : DI c t n k) (hk : k ≤ 1000000) (hl : more.length ≤ 1) (h8 : count + more.length ≤ 8) (hb : 0 ≤ b ∧ b < t.uses.length) (ha : at0 t.uses b = (a : Nat)) (hbs : c.blocks[a]? = some bs)
    (hs : (spareV t n).2 = true) (ht : tryC c (atD t b) (spareV t n).1 count more = (e, c')) :
    ∃ x : Nat, (spareV t n).1 = (x : Nat) ∧ 2 ≤ x ∧ (x : Int) ∉ t.uses ∧ Fr x c c' ∧ OutW c c' e ∧ SameU t.uses c c' ∧ Cnt c' (1000 * k + 1000 + 10) ∧ AllB c' ∧ ∃ b', c'.blocks[x]? = some b' ∧ BI b' ∧ b'.bad = false ∧ (e = 0 → Filled bs b' count more) := by
  obtain ⟨s1, s2, s3, s4⟩ := spare_n (spareV_ok hs)
  obtain ⟨x, hx⟩ : ∃ x : Nat, (spareV t n).1 = (x : Nat) := ⟨(spareV t n).1.toNat, by omega⟩
  rw [hx] at s1 s2 s3 s4 ht
  have hat : atD t b = (a : Nat) := by
    unfold atD
    have : atT t b = (at0 t.uses b, true) := by
      unfold atT
      rw [if_neg (by simp; omega)]
    rw [this, if_pos rfl]
    exact ha
  have hmem : (a : Int) ∈ t.uses := by rw [← ha]; exact at0_mem hb
  have hne : a ≠ x := fun e1 => s3 (by rw [← e1]; exact hmem)
  have hlen := h.len
  obtain ⟨bt, hbt⟩ : ∃ bt, c.blocks[x]? = some bt := ⟨_, List.getElem?_eq_getElem (by omega)⟩
  obtain ⟨hbi, hbad⟩ := h.bs x bt hbt
  obtain ⟨e2, c2, r1, r2, r3, r4, b', r5, r6, r7, r8⟩ := tryC_spec (bs := bs) (count := count) (more := more) (B := 1000 * k + 1000) hne hl h8 h.up hbs hbt hbad h.cnt (by omega)
  rw [hat, r1] at ht
  simp only [Prod.mk.injEq] at ht
  obtain ⟨rfl, rfl⟩ := ht
  exact ⟨x, hx, by omega, s3, r2, r4, SameU.far r2 (fun y hy => by have := h.wf.us y hy; omega) s3, r3, h.bs.far r2 r5 r6 r7, b', r5, r6, r7, r8⟩
end Go.Proofs.YtkfcpjohblddmaaGreat
end
section
/- Plain laws of disks: what moving a block comes to, the induction. -/
namespace Go.Proofs.YtkfcpjohblddmaaGreat
open Go.K
set_option linter.unusedVariables false
set_option linter.unusedSimpArgs false
theorem move_spec {n : Nat} {b : Int} {count : Nat} {more : List Pg} {c : Chip} {t : TS} {r : Int × TS × Chip} (hm : MoveR n b count more c t r) :
    ∀ (k a : Nat) (bs : Blk), DI c t n k → k + 2 * (FP c + FW c) ≤ 900000 → FP c + FW c ≤ 3 → more.length ≤ 1 → count + more.length ≤ 8 → 0 ≤ b ∧ b < t.uses.length → at0 t.uses b = (a : Nat) → c.blocks[a]? = some bs →
      MoveOut n (k + 4 * (FP c + FW c) + 4) b count more bs c t r := by
  induction hm with
  | none hs =>
    intro k a bs h hk hf hl h8 hb ha hbs
    exact ⟨.refl _, fun x hx => rfl, .inl ⟨rfl, h.mono (by omega), rfl, hs, by simp only; omega⟩⟩
  | @err c t e c' hs ht he he3 =>
    intro k a bs h hk hf hl h8 hb ha hbs
    obtain ⟨x, _, hx2, hxu, f, ho, hS, hc, hA, _⟩ := h.try (by omega) hl h8 hb ha hbs hs ht
    obtain ⟨a0, _, hh, _⟩ := h.ti
    rcases ho with ⟨h1, h2, h3⟩ | ⟨h1, _⟩ | ⟨h1, _⟩
    · exact ⟨f.all, hS, .inr (.inr ⟨h1, h2, h3, ⟨by have := hc.p0; simp only; push_cast; omega, by have := hc.w0; simp only; push_cast; omega⟩, hA, _, _, _, a0, by have := h.ver; omega, (by have := f.fp; have := f.fw; simp only; omega), hh.far hx2 f, h.wf, .inl rfl⟩)⟩
    · exact absurd h1 he3
    · exact absurd h1 he
  | @swap c t c' r hs ht hsw =>
    intro k a bs h hk hf hl h8 hb ha hbs
    obtain ⟨x, hx, hx2, hxu, f, ho, hS, hc, hA, b', hb', hbi, hbad, hfl⟩ := h.try (by omega) hl h8 hb ha hbs hs ht
    have upc : Up c' := by
      rcases ho with ⟨h1, _⟩ | ⟨h1, _⟩ | ⟨_, h1⟩
      · cases h1
      · cases h1
      · exact h1
    have hD := h.far hx2 f upc hb' hbi hbad hc
    have hsp := spareV_ok hs
    rw [hx] at hsp hsw
    have hat : (atT t b).2 = true := by
      unfold atT
      rw [if_neg (by simp; omega)]
    obtain ⟨lost, hp, hr⟩ := hsw.1 (by rw [hat, hD.len, hsp]; rfl)
    have hw := h.wf.swap hb hsp hp
    obtain ⟨e, t', c''⟩ := r
    have fp := f.fp
    have fw := f.fw
    obtain ⟨f2, hk2⟩ := hD.keep (by omega) (by omega) (by omega) hw hr
    have hb2 : c''.blocks[x]? = some b' := by rw [f2.oth x hx2]; exact hb'
    have hS2 := hS.trans (SameU.two f2 (fun y hy => (h.wf.us y hy).1))
    have fp2 := f2.fp
    have fw2 := f2.fw
    rcases hk2 with ⟨h1, h2, h3, h4⟩ | ⟨h1, h2, h3, h4, h5, h6, v, uu, ll, a0, h7, h9, h10, h11⟩
    · refine ⟨f.all.trans f2.all, hS2, .inr (.inl ⟨h1, h2.mono (by omega), ?_, ?_, x, b', hxu, hx2, h3, hb2, hfl rfl⟩)⟩
      · simp only
        rw [h4, hp.length_eq]
        simp
        omega
      · simp only
        rw [h4, hp.length_eq]
        simp
    · refine ⟨f.all.trans f2.all, hS2, .inr (.inr ⟨h1, h2, fun hp => h3 (by rw [(f.pos hp).1]; exact hp), ⟨by have := h5.p0; simp only; push_cast at this ⊢; omega, by have := h5.w0; simp only; push_cast at this ⊢; omega⟩, h6, v, uu, ll, a0, by omega, (by have := f2.fp; have := f2.fw; have := f.fp; have := f.fw; have := hp.length_eq; simp only [List.length_append, List.length_singleton] at this ⊢; rcases h11 with ⟨_, e⟩ | ⟨_, e⟩ <;> rw [e] <;> omega), h9, h10, ?_⟩)⟩
      rcases h11 with ⟨h12, _⟩ | ⟨h12, _⟩
      · exact .inl h12
      · exact .inr ⟨x, b', hxu, hx2, h12, hb2, hfl rfl⟩
  | @bad c t c' e t' c'' hs ht hlo he =>
    intro k a bs h hk hf hl h8 hb ha hbs
    obtain ⟨x, hx, hx2, hxu, f, ho, hS, hc, hA, b', hb', hbi, hbad, hfl⟩ := h.try (by omega) hl h8 hb ha hbs hs ht
    have upc : Up c' := by
      rcases ho with ⟨h1, _⟩ | ⟨_, h1, _⟩ | ⟨h1, _⟩
      · cases h1
      · exact h1
      · cases h1
    have hD := h.far hx2 f upc hb' hbi hbad hc
    have hsp := spareV_ok hs
    obtain ⟨lost, hp, hr⟩ := hlo.1 (by rw [hD.len]; exact hsp)
    have hw := h.wf.lose hsp hp
    have fp := f.fp
    have fw := f.fw
    obtain ⟨f2, hk2⟩ := hD.keep (by omega) (by omega) (by omega) hw hr
    have hS2 := hS.trans (SameU.two f2 (fun y hy => (h.wf.us y hy).1))
    rcases hk2 with ⟨h1, _⟩ | ⟨h1, h2, h3, h4, h5, h6, v, uu, ll, a0, h7, h9, h10, h11⟩
    · exact absurd h1 he
    · refine ⟨f.all.trans f2.all, hS2, .inr (.inr ⟨h1, h2, fun hp => h3 (by rw [(f.pos hp).1]; exact hp), ⟨by have := h5.p0; simp only; push_cast at this ⊢; omega, by have := h5.w0; simp only; push_cast at this ⊢; omega⟩, h6, v, uu, ll, a0, by omega, (by have := f2.fp; have := f2.fw; have := f.fp; have := f.fw; have := hp.length_eq; simp only [List.length_append, List.length_singleton] at this ⊢; rcases h11 with ⟨_, e⟩ | ⟨_, e⟩ <;> rw [e] <;> omega), h9, h10, ?_⟩)⟩
      rcases h11 with ⟨h12, _⟩ | ⟨h12, _⟩
      · exact .inl h12
      · exact .inl h12
  | @again c t c' t' c'' r hs ht hlo _ ih =>
    intro k a bs h hk hf hl h8 hb ha hbs
    obtain ⟨x, hx, hx2, hxu, f, ho, hS, hc, hA, b', hb', hbi, hbad, hfl⟩ := h.try (by omega) hl h8 hb ha hbs hs ht
    have upc : Up c' ∧ FP c' + FW c' + 1 ≤ FP c + FW c := by
      rcases ho with ⟨h1, _⟩ | ⟨_, h1⟩ | ⟨h1, _⟩
      · cases h1
      · exact h1
      · cases h1
    have hD := h.far hx2 f upc.1 hb' hbi hbad hc
    have hsp := spareV_ok hs
    obtain ⟨lost, hp, hr⟩ := hlo.1 (by rw [hD.len]; exact hsp)
    have hw := h.wf.lose hsp hp
    have hf1 := upc.2
    obtain ⟨f2, hk2⟩ := hD.keep (by omega) (by omega) (by omega) hw hr
    have hS2 := hS.trans (SameU.two f2 (fun y hy => (h.wf.us y hy).1))
    have fp2 := f2.fp
    have fw2 := f2.fw
    have hmem : (a : Int) ∈ t.uses := by rw [← ha]; exact at0_mem hb
    rcases hk2 with ⟨_, h2, h3, h4⟩ | ⟨h1, _⟩
    · have hbs2 : c''.blocks[a]? = some bs := by
        have := hS2 _ hmem
        rw [Int.toNat_natCast] at this
        rw [this]; exact hbs
      have hll : t'.lost.length = t.lost.length + 1 := by rw [h4, hp.length_eq]; simp
      obtain ⟨g0, g1, g2⟩ := ih (k + 2) a bs h2 (by omega) (by omega) hl h8 (by rw [h3]; exact hb) (by rw [h3]; exact ha) hbs2
      rw [h3] at g1 g2
      refine ⟨(f.all.trans f2.all).trans g0, hS2.trans g1, ?_⟩
      rcases g2 with ⟨q1, q2, q3, q4, q5⟩ | ⟨q1, q2, q3, q3', q4⟩ | ⟨q1, q2, q3, q4, q5, v, uu, ll, a0, q6, q6', q7⟩
      · exact .inl ⟨q1, q2.mono (by omega), q3, q4, by omega⟩
      · exact .inr (.inl ⟨q1, q2.mono (by omega), by omega, by omega, q4⟩)
      · exact .inr (.inr ⟨q1, q2, fun hp => q3 (by rw [(f2.pos (by rw [(f.pos hp).1]; exact hp)).1, (f.pos hp).1]; exact hp), ⟨by have := q4.p0; omega, by have := q4.w0; omega⟩, q5, v, uu, ll, a0, by omega, by omega, q7⟩)
    · cases h1
end Go.Proofs.YtkfcpjohblddmaaGreat
end
section
/- Plain laws of disks: a page is written. -/
namespace Go.Proofs.YtkfcpjohblddmaaGreat
open Go.K
set_option linter.unusedVariables false
set_option linter.unusedSimpArgs false
theorem atD_in {t : TS} {b : Int} {a : Nat} (hb : 0 ≤ b ∧ b < t.uses.length) (ha : at0 t.uses b = (a : Nat)) : atD t b = (a : Nat) := by
  unfold atD
  have : atT t b = (at0 t.uses b, true) := by
    unfold atT
    rw [if_neg (by simp; omega)]
  rw [this, if_pos rfl]
  exact ha
/-- The next page of a block is written. -/
theorem prog_disk {c : Chip} {t : TS} {n k a j : Nat} {b : Int} {bs : Blk} {p : Pg} {r : Int × TS × Chip} (h : DI c t n k) (hk : k ≤ 800000) (hf : FP c + FW c ≤ 3) (hb : 0 ≤ b ∧ b < t.uses.length) (ha : at0 t.uses b = (a : Nat)) (hbs : c.blocks[a]? = some bs) (hj : j < 8) (hn : bs.next = j) (hr : ProgD n b j p c t r) :
    ∃ m c1, Fr a c c1 ∧ c1.blocks[a]? = some (wrK bs j (andP m blankP p)) ∧ AllB c1 ∧
      ((c1.off = true ∧ ¬ c.after < 0 ∧ r = (30, t, c1) ∧ Cnt c1 (1000 * ((k + 1 : Nat) : Int) + 1000)) ∨
       (m = 129 ∧ (progC c (atD t b) j p).1 = 33 ∧ DI c1 t n (k + 1) ∧ FP c1 + 1 ≤ FP c ∧ MoveOut n (k + 1 + 4 * (FP c1 + FW c1) + 4) b j [p] (wrK bs j (andP 129 blankP p)) c1 t r) ∨
       (m = 258 ∧ progC c (atD t b) j p = (0, c1) ∧ DI c1 t n (k + 1) ∧ r = (0, t, c1))) := by
  obtain ⟨hbi, hbad⟩ := h.bs a bs hbs
  have hat := atD_in hb ha
  have ha2 : 2 ≤ a := by have := h.wf.us _ (at0_mem hb); rw [ha] at this; omega
  obtain ⟨e, m, c1, p1, f, hc, hblk, hcase⟩ := prog_data (d := p) (B := 1000 * k + 1000) h.up hbs hj hbad hbi hn h.cnt (by omega)
  have hbi' := wrK_bi (q := andP m blankP p) hbi hj hn
  have hA := h.bs.far f hblk hbi' hbad
  obtain ⟨r1, r2⟩ := hr
  rw [hat, p1] at r1 r2
  have hc1 : Cnt c1 (1000 * k + 1000 + 10) := ⟨by have := hc.p0; omega, by have := hc.w0; omega⟩
  refine ⟨m, c1, f, hblk, hA, ?_⟩
  rcases hcase with ⟨rfl, h1, h2⟩ | ⟨rfl, rfl, h2, h3⟩ | ⟨rfl, rfl, h2⟩
  · exact .inl ⟨h1, h2, r2 (show ¬ (30 : Int) = 33 by decide), ⟨by have := hc.p0; push_cast; omega, by have := hc.w0; push_cast; omega⟩⟩
  · have hD := h.far ha2 f h2 hblk hbi' hbad hc1
    have fw := f.fw
    have hM : MoveR n b j [p] c1 t r := by
      have := r1 rfl
      rwa [Int.toNat_natCast] at this
    exact .inr (.inl ⟨rfl, by rw [hat, p1], hD, h3, move_spec hM (k + 1) a _ hD (by omega) (by omega) (by simp) (by simp; omega) hb ha hblk⟩)
  · exact .inr (.inr ⟨rfl, by rw [hat, p1], h.far ha2 f h2 hblk hbi' hbad hc1, r2 (show ¬ (0 : Int) = 33 by decide)⟩)
end Go.Proofs.YtkfcpjohblddmaaGreat
end
section
/- Plain laws of disks: a block is erased. -/
namespace Go.Proofs.YtkfcpjohblddmaaGreat
open Go.K
set_option linter.unusedVariables false
set_option linter.unusedSimpArgs false
/-- A block is erased. -/
theorem erase_disk {c : Chip} {t : TS} {n k a : Nat} {b : Int} {bs : Blk} {r : Int × TS × Chip} (h : DI c t n k) (hk : k ≤ 800000) (hf : FP c + FW c ≤ 3) (hb : 0 ≤ b ∧ b < t.uses.length) (ha : at0 t.uses b = (a : Nat)) (hbs : c.blocks[a]? = some bs) (hr : EraseD n b c t r) :
    ∃ b1 c1, Fr a c c1 ∧ c1.blocks[a]? = some b1 ∧ BI b1 ∧ AllB c1 ∧ (∀ (j : Nat) (h : j < 8), b1.pages[j] = blankP ∨ b1.pages[j] = bs.pages[j]) ∧
      ((c1.off = true ∧ ¬ c.after < 0 ∧ r = (30, t, c1) ∧ Cnt c1 (1000 * ((k + 1 : Nat) : Int) + 1000)) ∨
       (DI c1 t n (k + 1) ∧ FW c1 + 1 ≤ FW c ∧ MoveOut n (k + 1 + 4 * (FP c1 + FW c1) + 4) b 0 [] b1 c1 t r) ∨
       (DI c1 t n (k + 1) ∧ b1.next = 0 ∧ r = (0, t, c1))) := by
  obtain ⟨hbi, hbad⟩ := h.bs a bs hbs
  have hat := atD_in hb ha
  have ha2 : 2 ≤ a := by have := h.wf.us _ (at0_mem hb); rw [ha] at this; omega
  obtain ⟨e, c1, p1, p2, hc⟩ := erase_spec (B := 1000 * k + 1000) h.up hbs hbad h.cnt (by omega)
  obtain ⟨b1, k1, k2, k3, k4, k5⟩ := p2.blk
  have hA := h.bs.far p2.fr k1 k2 (k3.trans hbad)
  obtain ⟨r1, r2⟩ := hr
  rw [hat, p1] at r1 r2
  have hc1 : Cnt c1 (1000 * k + 1000 + 10) := ⟨by have := hc.p0; omega, by have := hc.w0; omega⟩
  refine ⟨b1, c1, p2.fr, k1, k2, hA, k4, ?_⟩
  rcases p2.how with ⟨rfl, h1, h2⟩ | ⟨rfl, h1, h2⟩ | ⟨rfl, h1⟩
  · exact .inl ⟨h1, h2, r2 (show ¬ (30 : Int) = 33 by decide), ⟨by have := hc.p0; push_cast; omega, by have := hc.w0; push_cast; omega⟩⟩
  · have hD := h.far ha2 p2.fr (h.up.of p2.fr.dead p2.fr.out h1) k1 k2 (k3.trans hbad) hc1
    have fp := p2.fr.fp
    have hM : MoveR n b 0 [] c1 t r := r1 rfl
    exact .inr (.inl ⟨hD, h2, move_spec hM (k + 1) a _ hD (by omega) (by omega) (by simp) (by simp) hb ha k1⟩)
  · exact .inr (.inr ⟨h.far ha2 p2.fr (h.up.of p2.fr.dead p2.fr.out h1) k1 k2 (k3.trans hbad) hc1, k5 rfl, r2 (show ¬ (0 : Int) = 33 by decide)⟩)
end Go.Proofs.YtkfcpjohblddmaaGreat
end
section
/- Plain laws of disks: a page is read. -/
namespace Go.Proofs.YtkfcpjohblddmaaGreat
open Go.K
set_option linter.unusedVariables false
set_option linter.unusedSimpArgs false
theorem atD_out {t : TS} {b : Int} (hb : ¬ (0 ≤ b ∧ b < t.uses.length)) : atD t b = -1 := by
  unfold atD
  have : atT t b = (0, false) := by
    unfold atT
    rw [if_pos (by simp; omega)]
  rw [this, if_neg (by simp)]
theorem may_bad {c : Chip} (up : Up c) {i j : Int} (h : ¬ (0 ≤ i ∧ i < c.blocks.length) ∨ ¬ (0 ≤ j ∧ j < 8)) : mayE c i j = 1 := by
  unfold mayE thereB
  rw [up.off, up.dead, up.out, if_neg (by simp), if_neg (by simp), if_pos]
  simp
  omega
theorem read_disk {c : Chip} {t : TS} {n k a j : Nat} {b : Int} {bs : Blk} (h : DI c t n k) (hb : 0 ≤ b ∧ b < t.uses.length) (ha : at0 t.uses b = (a : Nat)) (hbs : c.blocks[a]? = some bs) (hj : j < 8) : mayE c (atD t b) j = 0 ∧ readP c (atD t b) j = bs.pages[j] := by
  have hi : a < c.blocks.length := (List.getElem?_eq_some_iff.1 hbs).1
  rw [atD_in hb ha]
  have hm := mayU h.up hi hj
  exact ⟨hm, read_of hm hbs hj⟩
theorem read_bad {c : Chip} {t : TS} {n k : Nat} {b j : Int} (h : DI c t n k) (hx : ¬ (0 ≤ b ∧ b < t.uses.length) ∨ ¬ (0 ≤ j ∧ j < 8)) : mayE c (atD t b) j = 1 := by
  rcases hx with hx | hx
  · rw [atD_out hx]; exact may_bad h.up (.inl (by omega))
  · exact may_bad h.up (.inr hx)
end Go.Proofs.YtkfcpjohblddmaaGreat
end
section
/- Plain laws of disks: where a spare stands; what fails, told exactly. -/
namespace Go.Proofs.YtkfcpjohblddmaaGreat
open Go.K
set_option linter.unusedVariables false
set_option linter.unusedSimpArgs false
/-- Without a spare four blocks are lost. -/
theorem no_spare {n : Nat} {t : TS} (h : WF n t.uses t.lost) (hs : (spareV t n).2 = false) : 4 ≤ t.lost.length := by
  have hall : ∀ x : Int, 2 ≤ x → x < n → x ∈ t.uses ++ t.lost := fun x h1 h2 => by
    have hsp : spareB t n x = false := by
      unfold spareV at hs
      cases hu : spareU t n with
      | some b => rw [hu] at hs; cases hs
      | none =>
        unfold spareU at hu
        have := List.find?_eq_none.1 hu x.toNat (List.mem_range.2 (by omega))
        rw [Int.toNat_of_nonneg (by omega)] at this
        simpa using this
    unfold spareB at hsp
    rw [List.mem_append]
    cases h3 : hasI t.uses x with
    | true => exact .inl (has_mem.1 h3)
    | false =>
      cases h4 : hasI t.lost x with
      | true => exact .inr (has_mem.1 h4)
      | false =>
        rw [h3, h4] at hsp
        simp at hsp
        omega
  have h1 := h.n1
  have := nodup_le (l := (List.range (n - 2)).map fun i => ((i : Nat) : Int) + 2) (m := t.uses ++ t.lost) (by
    rw [List.nodup_iff_pairwise_ne, List.pairwise_map]
    exact (List.nodup_iff_pairwise_ne.1 List.nodup_range).imp fun hne e => hne (by omega)) (fun x hx => by
      obtain ⟨i, hi, rfl⟩ := List.mem_map.1 hx
      have := List.mem_range.1 hi
      exact hall _ (by omega) (by omega))
  have h2 := h.len
  simp at this
  omega
end Go.Proofs.YtkfcpjohblddmaaGreat
end
section
/- Plain laws of disks: which program fails, told exactly. -/
namespace Go.Proofs.YtkfcpjohblddmaaGreat
open Go.K
set_option linter.unusedVariables false
set_option linter.unusedSimpArgs false
theorem prog_exact {c : Chip} {a j : Nat} {b : Blk} {d : Pg} {B : Int} (up : Up c) (hp : c.after < 0) (hb : c.blocks[a]? = some b) (hj : j < 8) (hbad : b.bad = false) (hbi : BI b) (hn : b.next = j) (hc : Cnt c B) (hB : B < 8000000000000000000) :
    (progC c a j d).1 = (if hasI c.pf.list c.pc = true then 33 else 0) ∧ (progC c a j d).2.pc = c.pc + 1 ∧ (progC c a j d).2.wc = c.wc ∧ (progC c a j d).2.pf = c.pf ∧ (progC c a j d).2.wf = c.wf ∧ (progC c a j d).2.after < 0 := by
  obtain ⟨e, m, h1, h2⟩ := prog_step up (d := d) hb hj hbad hbi hn
  have hf := failP_eq hc (by omega)
  have hpc : (setB (cp c) a (wrK b j (andP m blankP d))).pc = c.pc + 1 := by
    show w64 (c.pc + 1) = c.pc + 1
    have := hc.p0
    exact w64_in (by omega)
  obtain ⟨hfr, _, _⟩ := cp_fr (a := a) (b := wrK b j (andP m blankP d)) hc (by omega)
  rw [h1]
  refine ⟨?_, hpc, rfl, rfl, rfl, by rw [(hfr.pos hp).1]; exact hp⟩
  rcases h2 with ⟨_, h3⟩ | ⟨h3, _, _, h4⟩ | ⟨h3, _, _, h4⟩
  · exact absurd hp (ends_pos h3)
  · rw [hf] at h4; rw [if_pos h4]; exact h3
  · rw [hf] at h4; rw [if_neg (by rw [h4]; simp)]; exact h3
end Go.Proofs.YtkfcpjohblddmaaGreat
end
