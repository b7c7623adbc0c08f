/- What the laws of disks stand on: contracts of the program's functions, and plain lemmas; the conditions are the statement's own: part 4. -/
import Derived.Test.YtdfidkhbldedlaaGreatJ2
import Derived.Test.YtdfidkhbldedlaaGreatJ3
section
/- Plain laws: what programs and erases leave; a page is put. -/
namespace Go.Proofs.YtdfidkhbldedlaaGreat
open Go.K
set_option linter.unusedVariables false
set_option linter.unusedSimpArgs false

/-- A chip that answers. -/
structure Up (c : Chip) : Prop where
  off : c.off = false
  dead : c.dead = false
  out : c.out = false
/-- How many acts that are to come may fail. -/
def FP (c : Chip) : Nat := (c.pf.list.filter fun x => decide (c.pc ≤ x)).length
def FW (c : Chip) : Nat := (c.wf.list.filter fun x => decide (c.wc ≤ x)).length
theorem filter_step (l : List Int) (k : Int) : (l.filter fun x => decide (k + 1 ≤ x)).length + (if hasI l k = true then 1 else 0) ≤ (l.filter fun x => decide (k ≤ x)).length := by
  have h1 : ∀ l : List Int, (l.filter fun x => decide (k + 1 ≤ x)).length ≤ (l.filter fun x => decide (k ≤ x)).length := fun l => by
    induction l with
    | nil => simp
    | cons x l ih =>
      rw [List.filter_cons, List.filter_cons]
      by_cases h : k + 1 ≤ x
      · rw [if_pos (by simpa using h), if_pos (by simp; omega)]; simpa using ih
      · rw [if_neg (by simpa using h)]
        split
        · simp; omega
        · exact ih
  have h2 : ∀ l : List Int, k ∈ l → (l.filter fun x => decide (k + 1 ≤ x)).length + 1 ≤ (l.filter fun x => decide (k ≤ x)).length := fun l => by
    induction l with
    | nil => simp
    | cons x l ih =>
      intro hm
      rw [List.filter_cons, List.filter_cons]
      by_cases e : x = k
      · subst e
        rw [if_neg (by simp; omega), if_pos (by simp)]
        have := h1 l
        simp; omega
      · have hk := ih (by
          cases hm with
          | head => exact absurd rfl e
          | tail _ h => exact h)
        by_cases h : k + 1 ≤ x
        · rw [if_pos (by simpa using h), if_pos (by simp; omega)]; simp; omega
        · rw [if_neg (by simpa using h), if_neg (by simp; omega)]; exact hk
  split
  · rename_i h
    have hm : k ∈ l := by
      have : hasI l k = l.any (· == k) := idxF_any l (· == k)
      rw [this, List.any_eq_true] at h
      obtain ⟨y, h3, h4⟩ := h
      have : y = k := by simpa using h4
      subst this; exact h3
    exact h2 l hm
  · exact h1 l
/-- Counts are small. -/
structure Cnt (c : Chip) (B : Int) : Prop where
  p0 : 0 ≤ c.pc ∧ c.pc ≤ B
  w0 : 0 ≤ c.wc ∧ c.wc ≤ B
theorem failP_eq {c : Chip} {B : Int} (h : Cnt c B) (hB : B < 9000000000000000000) : failP c = hasI c.pf.list c.pc := by
  unfold failP
  have := h.p0
  rw [w64_in (x := c.pc + 1) (by omega), w64_in (by omega)]
  congr 1; omega
theorem failW_eq {c : Chip} {B : Int} (h : Cnt c B) (hB : B < 9000000000000000000) : failW c = hasI c.wf.list c.wc := by
  unfold failW
  have := h.w0
  rw [w64_in (x := c.wc + 1) (by omega), w64_in (by omega)]
  congr 1; omega
/-- A block's pages from its next one on hold nothing. -/
structure BI (b : Blk) : Prop where
  nx : 0 ≤ b.next ∧ b.next ≤ 8
  bl : ∀ (j : Nat) (h : j < 8), b.next ≤ j → b.pages[j] = blankP
/-- What stays of a chip behind acts on one block. -/
structure Fr (a : Nat) (c c' : Chip) : Prop where
  oth : ∀ k, k ≠ a → c'.blocks[k]? = c.blocks[k]?
  len : c'.blocks.length = c.blocks.length
  dead : c'.dead = c.dead
  out : c'.out = c.out
  aP : c'.aP = c.aP
  aC : c'.aC = c.aC
  aB : c'.aB = c.aB
  pf : c'.pf = c.pf
  wf : c'.wf = c.wf
  fp : FP c' ≤ FP c
  fw : FW c' ≤ FW c
  pos : c.after < 0 → c'.after = c.after ∧ c'.off = c.off
  keep : c'.keep = c.keep
theorem Fr.refl (a : Nat) (c : Chip) : Fr a c c := ⟨fun _ _ => rfl, rfl, rfl, rfl, rfl, rfl, rfl, rfl, rfl, Nat.le_refl _, Nat.le_refl _, fun _ => ⟨rfl, rfl⟩, rfl⟩
theorem Fr.trans {a : Nat} {c c' c'' : Chip} (h : Fr a c c') (k : Fr a c' c'') : Fr a c c'' :=
  ⟨fun i hi => (k.oth i hi).trans (h.oth i hi), k.len.trans h.len, k.dead.trans h.dead, k.out.trans h.out, k.aP.trans h.aP, k.aC.trans h.aC, k.aB.trans h.aB, k.pf.trans h.pf, k.wf.trans h.wf, Nat.le_trans k.fp h.fp, Nat.le_trans k.fw h.fw,
    fun hp => by
      obtain ⟨h1, h2⟩ := h.pos hp
      obtain ⟨h3, h4⟩ := k.pos (by omega)
      exact ⟨h3.trans h1, h4.trans h2⟩, k.keep.trans h.keep⟩
theorem mayU {c : Chip} (h : Up c) {i j : Nat} (hi : i < c.blocks.length) (hj : j < 8) : mayE c i j = 0 := may_ok h.off h.dead h.out (by omega) (by omega)
def wrK (b : Blk) (k : Nat) (q : Pg) : Blk := ⟨b.pages.setIfInBounds k q, (k : Int) + 1, b.bad⟩
def cp (c : Chip) : Chip := endsC (actP (cnt c))
theorem wrC_eq {c : Chip} {i j m : Nat} {d : Pg} {b : Blk} (hn : b.next = j) (hj : j < 8) (hp : b.pages[j] = blankP) : wrC c (i : Nat) (j : Nat) d b m (by simpa using hj) = setB (cp c) i (wrK b j (andP m blankP d)) := by
  have e1 : w64 (b.next + 1) = (j : Int) + 1 := by rw [hn]; exact wrap64_in (by omega)
  have e : wrB { b with next := w64 (b.next + 1) } ((j : Nat) : Int).toNat m d (by simpa using hj) = wrK b j (andP m blankP d) := by
    show setPg { b with next := w64 (b.next + 1) } j (andP m b.pages[j] d) = _
    rw [e1, hp]
    unfold setPg wrK
    rfl
  unfold wrC
  rw [e]
  rfl
/-- A page is programmed. -/
theorem prog_step {c : Chip} (up : Up c) {a j : Nat} {b : Blk} {d : Pg} (hb : c.blocks[a]? = some b) (hj : j < 8) (hbad : b.bad = false) (hbi : BI b) (hn : b.next = j) :
    ∃ e m, progC c a j d = (e, setB (cp c) a (wrK b j (andP m blankP d))) ∧ ((e = 30 ∧ endsB c = true) ∨ (e = 33 ∧ m = 129 ∧ endsB c = false ∧ failP c = true) ∨ (e = 0 ∧ m = 258 ∧ endsB c = false ∧ failP c = false)) := by
  have hi : a < c.blocks.length := (List.getElem?_eq_some_iff.1 hb).1
  have hm : mayE c a j = 0 := mayU up hi hj
  have hp := hbi.bl j hj (by omega)
  have hb' : c.blocks[((a : Nat) : Int).toNat]? = some b := by simpa using hb
  cases he : endsB c with
  | true =>
    refine ⟨30, clampN c.keep 258, ?_, .inl ⟨rfl, rfl⟩⟩
    rw [prog_down hm (by simpa using hj) hb' hn.symm he]
    exact congrArg (Prod.mk 30) (wrC_eq hn hj hp)
  | false =>
    cases hf : failP c with
    | true =>
      refine ⟨33, 129, ?_, .inr (.inl ⟨rfl, rfl, rfl, rfl⟩)⟩
      rw [prog_fail hm (by simpa using hj) hb' hn.symm he (by rw [hf]; rfl)]
      exact congrArg (Prod.mk 33) (wrC_eq hn hj hp)
    | false =>
      refine ⟨0, 258, ?_, .inr (.inr ⟨rfl, rfl, rfl, rfl⟩)⟩
      rw [prog_ok hm (by simpa using hj) hb' hn.symm he (by rw [hf, hbad]; rfl)]
      exact congrArg (Prod.mk 0) (wrC_eq hn hj hp)
theorem prog_skip {c : Chip} (up : Up c) {a j : Nat} {b : Blk} {d : Pg} (hb : c.blocks[a]? = some b) (hj : j < 8) (hn : b.next ≠ j) : progC c a j d = (32, c) := by
  have hi : a < c.blocks.length := (List.getElem?_eq_some_iff.1 hb).1
  exact prog_order (mayU up hi hj) (by simpa using hb) (fun e => hn e.symm)
theorem wrK_bi {b : Blk} {j : Nat} {q : Pg} (h : BI b) (hj : j < 8) (hn : b.next = j) : BI (wrK b j q) := by
  refine ⟨by simp only [wrK]; omega, fun i hi hle => ?_⟩
  simp only [wrK] at hle ⊢
  rw [Vector.getElem_setIfInBounds, if_neg (by omega)]
  exact h.bl i hi (by omega)
theorem wrK_at {b : Blk} {j i : Nat} {q : Pg} (hi : i < 8) : (wrK b j q).pages[i] = if j = i then q else b.pages[i] := by
  simp only [wrK]
  rw [Vector.getElem_setIfInBounds]
theorem setB_at {c : Chip} {a : Nat} {b b' : Blk} (hb : c.blocks[a]? = some b') : (setB (cp c) a b).blocks[a]? = some b := by
  have := (List.getElem?_eq_some_iff.1 hb).1
  show (c.blocks.set a b)[a]? = _
  simp [this]
theorem cp_fr {c : Chip} {a : Nat} {b : Blk} {B : Int} (hc : Cnt c B) (hB : B < 9000000000000000000) : Fr a c (setB (cp c) a b) ∧ Cnt (setB (cp c) a b) (B + 1) ∧ (failP c = true → FP (setB (cp c) a b) + 1 ≤ FP c) := by
  have hp := hc.p0
  have hw := hc.w0
  have e : (setB (cp c) a b).pc = c.pc + 1 := by
    show w64 (c.pc + 1) = c.pc + 1
    exact w64_in (by omega)
  have hfs := filter_step c.pf.list c.pc
  have hFP : FP (setB (cp c) a b) + (if hasI c.pf.list c.pc = true then 1 else 0) ≤ FP c := by
    unfold FP
    rw [e]
    exact hfs
  refine ⟨⟨fun k hk => ?_, ?_, rfl, rfl, rfl, rfl, rfl, rfl, rfl, ?_, Nat.le_refl _, fun h => ?_, rfl⟩, ⟨by rw [e]; omega, by show 0 ≤ c.wc ∧ c.wc ≤ B + 1; omega⟩, fun h => ?_⟩
  · exact List.getElem?_set_ne (fun e => hk e.symm)
  · show (c.blocks.set a b).length = _
    simp
  · omega
  · exact ⟨if_pos h, if_pos h⟩
  · rw [failP_eq hc hB] at h
    rw [if_pos h] at hFP
    exact hFP
theorem cp_off {c : Chip} {a : Nat} {b : Blk} (up : Up c) : (setB (cp c) a b).off = endsB c := by
  show (if c.after < 0 then c.off else decide (c.after = 0)) = _
  unfold endsB
  split
  · exact up.off
  · rfl
theorem ends_pos {c : Chip} (h : endsB c = true) : ¬ c.after < 0 := by
  intro h2
  unfold endsB at h
  rw [if_pos h2] at h
  cases h
/-- What a put leaves. -/
structure PutR (c : Chip) (a : Nat) (b : Blk) (q : Pg) (i' e : Int) (c' : Chip) : Prop where
  fr : Fr a c c'
  blk : ∃ b', c'.blocks[a]? = some b' ∧ BI b' ∧ b'.bad = false ∧ b.next ≤ b'.next ∧
    (∀ (j : Nat) (h : j < 8), (j : Int) < b.next → b'.pages[j] = b.pages[j]) ∧
    (∀ (j : Nat) (h : j < 8), b.next ≤ j → b'.pages[j] = blankP ∨ ∃ m, b'.pages[j] = andP m blankP q ∧ (m < 258 ∨ e = 0 ∨ e = 30)) ∧
    (e = 0 → ∃ (j : Nat) (h : j < 8), b.next ≤ j ∧ i' = (j : Int) + 1 ∧ b'.next = (j : Int) + 1 ∧ b'.pages[j] = q)
  pure : FP c = 0 → c.after < 0 → ∀ b', c'.blocks[a]? = some b' → ∀ (j : Nat) (h : j < 8), b.next ≤ j → b'.pages[j] = blankP ∨ b'.pages[j] = q
  how : (e = 30 ∧ c'.off = true ∧ ¬ c.after < 0) ∨ (e = 0 ∧ c'.off = false) ∨ (e = 34 ∧ c'.off = false ∧ i' = 8 ∧ FP c' + (8 - b.next).toNat ≤ FP c)
theorem stands_ok {c : Chip} {a j : Nat} {b : Blk} {q : Pg} (up : Up c) (hb : c.blocks[a]? = some b) (hj : j < 8) (hp : b.pages[j] = q) : standsE c a j q = 0 := by
  have hi : a < c.blocks.length := (List.getElem?_eq_some_iff.1 hb).1
  have hm := mayU up hi hj
  unfold standsE
  rw [read_of hm hb hj, hp]
  simp [hm]
theorem put_spec {a : Nat} {q : Pg} : ∀ (f : Nat) (c : Chip) (i : Nat) (b : Blk) (B : Int), i + f = 8 → Up c → c.blocks[a]? = some b → b.bad = false → BI b → (i : Int) ≤ b.next → Cnt c B → B + f < 8000000000000000000 →
    ∃ i' e c', putGo f c a i q = (i', e, c') ∧ PutR c a b q i' e c' ∧ Cnt c' (B + f)
  | 0, c, i, b, B, hf, up, hb, hbad, hbi, hle, hc, hB => by
    have := hbi.nx
    refine ⟨8, 34, c, rfl, ⟨Fr.refl a c, ⟨b, hb, hbi, hbad, Int.le_refl _, fun _ _ _ => rfl, fun j h h2 => by omega, fun h => by cases h⟩, fun _ _ b' hb' j h h2 => (by rw [hb] at hb'; cases hb'; exact .inl (hbi.bl j h h2)), .inr (.inr ⟨rfl, up.off, rfl, by omega⟩)⟩, by simpa using hc⟩
  | f + 1, c, i, b, B, hf, up, hb, hbad, hbi, hle, hc, hB => by
    have hj : i < 8 := by omega
    by_cases hn : b.next = i
    · obtain ⟨e, m, hp, hcase⟩ := prog_step up (d := q) hb hj hbad hbi hn
      obtain ⟨hfr, hcn, hfp⟩ := cp_fr (a := a) (b := wrK b i (andP m blankP q)) hc (by omega)
      have hoff := cp_off (a := a) (b := wrK b i (andP m blankP q)) up
      have hbk := setB_at (b := wrK b i (andP m blankP q)) hb
      have hbi' := wrK_bi (q := andP m blankP q) hbi hj hn
      generalize hcc : setB (cp c) a (wrK b i (andP m blankP q)) = c1 at *
      have hpg : ∀ (P : Prop), (m < 258 ∨ P) → ∀ (j : Nat) (h : j < 8), b.next ≤ j → (wrK b i (andP m blankP q)).pages[j] = blankP ∨ ∃ m', (wrK b i (andP m blankP q)).pages[j] = andP m' blankP q ∧ (m' < 258 ∨ P) := fun P hP j h h2 => by
        rw [wrK_at h]
        split
        · exact .inr ⟨m, rfl, hP⟩
        · exact .inl (hbi.bl j h h2)
      have hlo : ∀ (j : Nat) (h : j < 8), (j : Int) < b.next → (wrK b i (andP m blankP q)).pages[j] = b.pages[j] := fun j h h2 => by
        rw [wrK_at h, if_neg (by omega)]
      rcases hcase with ⟨rfl, he⟩ | ⟨rfl, rfl, he, hfl⟩ | ⟨rfl, rfl, he, hfl⟩
      · have hs : stepE c a i q = 30 := by unfold stepE; rw [hp, if_neg (show ¬ (30 : Int) = 0 by decide)]
        refine ⟨(i : Int) + 1, 30, c1, ?_, ⟨hfr, ⟨_, hbk, hbi', hbad, by simp only [wrK]; omega, hlo, hpg _ (.inr (.inr rfl)), fun h => by cases h⟩, fun _ ha => absurd ha (ends_pos he), .inl ⟨rfl, by rw [hoff, he], ends_pos he⟩⟩, ⟨by have := hcn.p0; omega, by have := hcn.w0; omega⟩⟩
        unfold putGo
        rw [if_pos (by rw [hs]; decide), hs, hp]
      · have hs : stepE c a i q = 33 := by unfold stepE; rw [hp, if_neg (show ¬ (33 : Int) = 0 by decide)]
        have up' : Up c1 := ⟨by rw [hoff, he], hfr.dead.trans up.dead, hfr.out.trans up.out⟩
        obtain ⟨i', e, c', h1, h2, h3⟩ := put_spec (a := a) (q := q) f c1 (i + 1) (wrK b i (andP 129 blankP q)) (B + 1) (by omega) up' hbk hbad hbi' (by show ((i + 1 : Nat) : Int) ≤ (i : Int) + 1; omega) hcn (by omega)
        have hnx : (wrK b i (andP 129 blankP q)).next = (i : Int) + 1 := rfl
        obtain ⟨b', k1, k2, k3, k4, k5, k6, k7⟩ := h2.blk
        rw [hnx] at k4 k5 k6 k7
        refine ⟨i', e, c', ?_, ⟨hfr.trans h2.fr, ⟨b', k1, k2, k3, by omega, fun j h hlt => by rw [k5 j h (show (j : Int) < (i : Int) + 1 by omega)]; exact hlo j h hlt, fun j h hge => ?_, fun h => ?_⟩, fun h0 _ => (by have := hfp hfl; omega), ?_⟩, ⟨by have := h3.p0; omega, by have := h3.w0; omega⟩⟩
        · unfold putGo
          rw [if_neg (by rw [hs]; decide), hp]
          exact_mod_cast h1
        · by_cases e1 : j = i
          · subst e1
            refine .inr ⟨129, ?_, .inl (by omega)⟩
            rw [k5 j h (show (j : Int) < (j : Int) + 1 by omega), wrK_at h, if_pos rfl]
          · exact k6 j h (by omega)
        · obtain ⟨j, hj8, q1, q2, q3, q4⟩ := k7 h
          exact ⟨j, hj8, by omega, q2, q3, q4⟩
        · rcases h2.how with ⟨q1, q2, q3⟩ | ⟨q1, q2⟩ | ⟨q1, q2, q3, q4⟩
          · refine .inl ⟨q1, q2, fun h => q3 ?_⟩
            rw [(hfr.pos h).1]; exact h
          · exact .inr (.inl ⟨q1, q2⟩)
          · refine .inr (.inr ⟨q1, q2, q3, ?_⟩)
            have := hfp hfl
            rw [hnx] at q4
            omega
      · have up' : Up c1 := ⟨by rw [hoff, he], hfr.dead.trans up.dead, hfr.out.trans up.out⟩
        have hq : (wrK b i (andP 258 blankP q)).pages[i] = q := by rw [wrK_at hj, if_pos rfl]; exact and_full (Nat.le_refl _)
        have hs : stepE c a i q = 0 := by unfold stepE; rw [hp, if_pos rfl]; exact stands_ok up' hbk hj hq
        refine ⟨(i : Int) + 1, 0, c1, ?_, ⟨hfr, ⟨_, hbk, hbi', hbad, by simp only [wrK]; omega, hlo, hpg _ (.inr (.inl rfl)), fun _ => ⟨i, hj, by omega, rfl, rfl, hq⟩⟩, fun _ _ b' hb' j h h2 => (by rw [hbk] at hb'; cases hb'; rw [wrK_at h]; split; exact .inr (and_full (Nat.le_refl _)); exact .inl (hbi.bl j h h2)), .inr (.inl ⟨rfl, up'.off⟩)⟩, ⟨by have := hcn.p0; omega, by have := hcn.w0; omega⟩⟩
        unfold putGo
        rw [if_pos (by rw [hs]; decide), hs, hp]
    · have hp := prog_skip up (d := q) hb hj hn
      have hs : stepE c a i q = 32 := by unfold stepE; rw [hp, if_neg (show ¬ (32 : Int) = 0 by decide)]
      obtain ⟨i', e, c', h1, h2, h3⟩ := put_spec (a := a) (q := q) f c (i + 1) b B (by omega) up hb hbad hbi (by omega) hc (by omega)
      refine ⟨i', e, c', ?_, h2, ⟨by have := h3.p0; omega, by have := h3.w0; omega⟩⟩
      unfold putGo
      rw [if_neg (by rw [hs]; decide), hp]
      exact_mod_cast h1
end Go.Proofs.YtdfidkhbldedlaaGreat
end
section
/- Plain laws: a plan is kept, whatever goes wrong. -/
namespace Go.Proofs.YtdfidkhbldedlaaGreat
open Go.K
set_option linter.unusedVariables false
set_option linter.unusedSimpArgs false

def ce (c : Chip) : Chip := endsC (actW (cnt c))
structure EraseR (c : Chip) (a : Nat) (b : Blk) (e : Int) (c' : Chip) : Prop where
  fr : Fr a c c'
  blk : ∃ b', c'.blocks[a]? = some b' ∧ BI b' ∧ b'.bad = b.bad ∧ (∀ (j : Nat) (h : j < 8), b'.pages[j] = blankP ∨ b'.pages[j] = b.pages[j]) ∧ (e = 0 → b'.next = 0)
  how : (e = 30 ∧ c'.off = true ∧ ¬ c.after < 0) ∨ (e = 33 ∧ c'.off = false ∧ FW c' + 1 ≤ FW c) ∨ (e = 0 ∧ c'.off = false)
theorem ce_fr {c : Chip} {a : Nat} {b : Blk} {B : Int} (hc : Cnt c B) (hB : B < 9000000000000000000) : Fr a c (setB (ce c) a b) ∧ Cnt (setB (ce c) a b) (B + 1) ∧ (failW c = true → FW (setB (ce c) a b) + 1 ≤ FW c) := by
  have hp := hc.p0
  have hw := hc.w0
  have e : (setB (ce c) a b).wc = c.wc + 1 := by
    show w64 (c.wc + 1) = c.wc + 1
    exact w64_in (by omega)
  have hfs := filter_step c.wf.list c.wc
  have hFW : FW (setB (ce c) a b) + (if hasI c.wf.list c.wc = true then 1 else 0) ≤ FW c := by
    unfold FW
    rw [e]
    exact hfs
  refine ⟨⟨fun k hk => ?_, ?_, rfl, rfl, rfl, rfl, rfl, rfl, rfl, Nat.le_refl _, ?_, fun h => ?_, rfl⟩, ⟨by show 0 ≤ c.pc ∧ c.pc ≤ B + 1; omega, by rw [e]; omega⟩, fun h => ?_⟩
  · exact List.getElem?_set_ne (fun e => hk e.symm)
  · show (c.blocks.set a b).length = _
    simp
  · omega
  · exact ⟨if_pos h, if_pos h⟩
  · rw [failW_eq hc hB] at h
    rw [if_pos h] at hFW
    exact hFW
theorem ce_off {c : Chip} {a : Nat} {b : Blk} (up : Up c) : (setB (ce c) a b).off = endsB c := by
  show (if c.after < 0 then c.off else decide (c.after = 0)) = _
  unfold endsB
  split
  · exact up.off
  · rfl
theorem setBe_at {c : Chip} {a : Nat} {b b' : Blk} (hb : c.blocks[a]? = some b') : (setB (ce c) a b).blocks[a]? = some b := by
  have := (List.getElem?_eq_some_iff.1 hb).1
  show (c.blocks.set a b)[a]? = _
  simp [this]
theorem wipe_at {b : Blk} {m j : Nat} (h : j < 8) : (wipeB b m).pages[j] = if j < m then blankP else b.pages[j] := by simp [wipeB]
/-- A block is erased. -/
theorem erase_spec {c : Chip} {a : Nat} {b : Blk} {B : Int} (up : Up c) (hb : c.blocks[a]? = some b) (hbad : b.bad = false) (hc : Cnt c B) (hB : B < 8000000000000000000) : ∃ e c', eraseC c a = (e, c') ∧ EraseR c a b e c' ∧ Cnt c' (B + 1) := by
  have hi : a < c.blocks.length := (List.getElem?_eq_some_iff.1 hb).1
  have hm : mayE c a 0 = 0 := mayU (j := 0) up hi (by omega)
  have hb' : c.blocks[((a : Nat) : Int).toNat]? = some b := by simpa using hb
  cases he : endsB c with
  | true =>
    refine ⟨30, _, erase_down hm hb' he, ?_⟩
    rw [Int.toNat_natCast]
    obtain ⟨h1, h2, _⟩ := ce_fr (a := a) (b := wipeB { b with next := 8 } (clampN c.keep 8)) hc (by omega)
    exact ⟨⟨h1, ⟨_, setBe_at hb, ⟨⟨by simp [wipeB], by simp [wipeB]⟩, fun j h h2 => (by simp only [wipeB] at h2; omega)⟩, rfl, fun j h => by rw [wipe_at h]; split; exact .inl rfl; exact .inr rfl, fun h => by cases h⟩, .inl ⟨rfl, (ce_off up).trans he, ends_pos he⟩⟩, h2⟩
  | false =>
    cases hf : failW c with
    | true =>
      refine ⟨33, _, erase_fail hm hb' he (by rw [hf]; rfl), ?_⟩
      rw [Int.toNat_natCast]
      obtain ⟨h1, h2, h3⟩ := ce_fr (a := a) (b := { b with next := 8 }) hc (by omega)
      exact ⟨⟨h1, ⟨_, setBe_at hb, ⟨⟨by simp, by simp⟩, fun j h h2 => (by simp only at h2; omega)⟩, rfl, fun j h => .inr rfl, fun h => by cases h⟩, .inr (.inl ⟨rfl, (ce_off up).trans he, h3 hf⟩)⟩, h2⟩
    | false =>
      refine ⟨0, _, erase_ok hm hb' he (by rw [hf, hbad]; rfl), ?_⟩
      rw [Int.toNat_natCast]
      obtain ⟨h1, h2, h3⟩ := ce_fr (a := a) (b := { wipeB { b with next := 8 } 8 with next := 0 }) hc (by omega)
      have hpg : ∀ (j : Nat) (h : j < 8), ({ wipeB { b with next := 8 } 8 with next := 0 } : Blk).pages[j] = blankP := fun j h => by
        show (wipeB { b with next := 8 } 8).pages[j] = blankP
        rw [wipe_at h, if_pos h]
      exact ⟨⟨h1, ⟨_, setBe_at hb, ⟨⟨by simp, by simp⟩, fun j h _ => hpg j h⟩, rfl, fun j h => .inl (hpg j h), fun _ => rfl⟩, .inr (.inr ⟨rfl, (ce_off up).trans he⟩)⟩, h2⟩

/-- The newest plan that a chip holds, and an area in which it stands. -/
structure Hold (c : Chip) (v : Nat) (u l : List Int) (a : Nat) : Prop where
  ok : OkP c.blocks.length u l
  a2 : a < 2
  bs : ∀ k < 2, ∃ b, c.blocks[k]? = some b ∧ BI b ∧ b.bad = false
  le : ∀ k < 2, ∀ b, c.blocks[k]? = some b → ∀ (j : Nat) (h : j < 8) (w : Nat) (u' l' : List Int), RP c.blocks.length b.pages[j] = some (w, u', l') → w ≤ v ∧ (w = v → u' = u ∧ l' = l)
  ex : ∃ b, c.blocks[a]? = some b ∧ ∃ (j : Nat) (h : j < 8), RP c.blocks.length b.pages[j] = some (v, u, l)
theorem blankP_b : blankB blankP = true := blankP_blank
theorem rp_blank {n : Nat} : RP n blankP = none := rp_bl blankP_b
theorem Hold.put {c c' : Chip} {v : Nat} {u l u' l' : List Int} {a k : Nat} {V : Wd} {b : Blk} {i' e : Int} (h : Hold c v u l a) (hk : k < 2) (hb : c.blocks[k]? = some b) (hV : V.toNat = v + 1) (ok : OkP c.blocks.length u' l')
    (r : PutR c k b (planP V c.blocks.length u' l') i' e c') : (e = 0 → Hold c' (v + 1) u' l' k) ∧ (e = 30 → Hold c' v u l a ∨ Hold c' (v + 1) u' l' k) ∧ (e = 34 → Hold c' v u l a) := by
  obtain ⟨b', k1, k2, k3, k4, k5, k6, k7⟩ := r.blk
  have hq := rp_plan (v := V) ok
  rw [hV] at hq
  generalize planP V c.blocks.length u' l' = q at *
  obtain ⟨b0, hb0, hbi, _⟩ := h.bs k hk
  rw [hb] at hb0
  cases hb0
  have hbs : ∀ i < 2, ∃ b, c'.blocks[i]? = some b ∧ BI b ∧ b.bad = false := fun i hi => by
    by_cases e1 : i = k
    · subst e1; exact ⟨b', k1, k2, k3⟩
    · rw [r.fr.oth i e1]; exact h.bs i hi
  have hpg : ∀ (j : Nat) (hj : j < 8), (RP c.blocks.length b'.pages[j] = none ∨ ∃ (hlt : (j : Int) < b.next), b'.pages[j] = b.pages[j]) ∨ (b'.pages[j] = q ∧ (e = 0 ∨ e = 30)) := fun j hj => by
    rcases (show (j : Int) < b.next ∨ b.next ≤ j by omega) with h1 | h1
    · exact .inl (.inr ⟨h1, k5 j hj h1⟩)
    · rcases k6 j hj h1 with h2 | ⟨m, h2, h3⟩
      · exact .inl (.inl (by rw [h2]; exact rp_blank))
      · rcases Nat.lt_or_ge m 258 with hm | hm
        · exact .inl (.inl (by rw [h2]; exact and_torn hm))
        · rw [and_full hm] at h2
          exact .inr ⟨h2, by rcases h3 with h3 | h3; omega; exact h3⟩
  have hnew : (∃ (j : Nat) (hj : j < 8), b'.pages[j] = q) → Hold c' (v + 1) u' l' k := fun ⟨j0, hj0, h0⟩ => by
    refine ⟨by rw [r.fr.len]; exact ok, hk, hbs, fun i hi b2 hb2 j hj w u2 l2 hw => ?_, ⟨b', k1, j0, hj0, by rw [r.fr.len, h0]; exact hq⟩⟩
    rw [r.fr.len] at hw
    by_cases e1 : i = k
    · subst e1
      rw [k1] at hb2
      cases hb2
      rcases hpg j hj with (h1 | ⟨h1, h2⟩) | ⟨h1, _⟩
      · rw [h1] at hw; cases hw
      · rw [h2] at hw
        have := (h.le i hi b hb j hj w u2 l2 hw).1
        exact ⟨by omega, fun e2 => by omega⟩
      · rw [h1, hq] at hw
        simp only [Option.some.injEq, Prod.mk.injEq] at hw
        obtain ⟨h3, h4, h5⟩ := hw
        exact ⟨by omega, fun _ => ⟨h4.symm, h5.symm⟩⟩
    · rw [r.fr.oth i e1] at hb2
      have := (h.le i hi b2 hb2 j hj w u2 l2 hw).1
      exact ⟨by omega, fun e2 => by omega⟩
  have hold : (∀ (j : Nat) (hj : j < 8), RP c.blocks.length b'.pages[j] = none ∨ ∃ (hlt : (j : Int) < b.next), b'.pages[j] = b.pages[j]) → Hold c' v u l a := fun hall => by
    refine ⟨by rw [r.fr.len]; exact h.ok, h.a2, hbs, fun i hi b2 hb2 j hj w u2 l2 hw => ?_, ?_⟩
    · rw [r.fr.len] at hw
      by_cases e1 : i = k
      · subst e1
        rw [k1] at hb2
        cases hb2
        rcases hall j hj with h1 | ⟨h1, h2⟩
        · rw [h1] at hw; cases hw
        · rw [h2] at hw
          exact h.le i hi b hb j hj w u2 l2 hw
      · rw [r.fr.oth i e1] at hb2
        exact h.le i hi b2 hb2 j hj w u2 l2 hw
    · obtain ⟨b2, hb2, j, hj, hr⟩ := h.ex
      rw [r.fr.len]
      by_cases e1 : a = k
      · subst e1
        rw [hb] at hb2
        cases hb2
        have hlt : (j : Int) < b.next := by
          rcases (show (j : Int) < b.next ∨ b.next ≤ j by omega) with h1 | h1
          · exact h1
          · rw [hbi.bl j hj h1, rp_blank] at hr; cases hr
        exact ⟨b', k1, j, hj, by rw [k5 j hj hlt]; exact hr⟩
      · exact ⟨b2, by rw [r.fr.oth a e1]; exact hb2, j, hj, hr⟩
  have hdec : (∃ (j : Nat) (hj : j < 8), b'.pages[j] = q) ∨ (∀ (j : Nat) (hj : j < 8), RP c.blocks.length b'.pages[j] = none ∨ ∃ (hlt : (j : Int) < b.next), b'.pages[j] = b.pages[j]) := by
    by_cases hx : ∃ (j : Nat) (hj : j < 8), b'.pages[j] = q
    · exact .inl hx
    · refine .inr fun j hj => ?_
      rcases hpg j hj with h1 | ⟨h1, _⟩
      · exact h1
      · exact absurd ⟨j, hj, h1⟩ hx
  refine ⟨fun e0 => ?_, fun e0 => ?_, fun e0 => ?_⟩
  · obtain ⟨j, hj, _, _, _, h1⟩ := k7 e0
    exact hnew ⟨j, hj, h1⟩
  · rcases hdec with h1 | h1
    · exact .inr (hnew h1)
    · exact .inl (hold h1)
  · refine hold fun j hj => ?_
    rcases hpg j hj with h1 | ⟨_, h1⟩
    · exact h1
    · omega
theorem Hold.erase {c c' : Chip} {v : Nat} {u l : List Int} {a k : Nat} {b : Blk} {e : Int} (h : Hold c v u l a) (hk : k ≠ a) (hb : c.blocks[k]? = some b) (hbad : b.bad = false) (r : EraseR c k b e c') : Hold c' v u l a := by
  obtain ⟨b', k1, k2, k3, k4, k5⟩ := r.blk
  refine ⟨by rw [r.fr.len]; exact h.ok, h.a2, fun i hi => ?_, fun i hi b2 hb2 j hj w u2 l2 hw => ?_, ?_⟩
  · by_cases e1 : i = k
    · subst e1; exact ⟨b', k1, k2, k3.trans hbad⟩
    · rw [r.fr.oth i e1]; exact h.bs i hi
  · rw [r.fr.len] at hw
    by_cases e1 : i = k
    · subst e1
      rw [k1] at hb2
      cases hb2
      rcases k4 j hj with h1 | h1
      · rw [h1, rp_blank] at hw; cases hw
      · rw [h1] at hw; exact h.le i hi b hb j hj w u2 l2 hw
    · rw [r.fr.oth i e1] at hb2
      exact h.le i hi b2 hb2 j hj w u2 l2 hw
  · obtain ⟨b2, hb2, j, hj, hr⟩ := h.ex
    rw [r.fr.len]
    exact ⟨b2, by rw [r.fr.oth a (fun e1 => hk e1.symm)]; exact hb2, j, hj, hr⟩
/-- A table that is the chip's. -/
def TI (c : Chip) (t : TS) : Prop := ∃ a : Nat, t.area = a ∧ Hold c t.version.toNat t.uses t.lost a ∧ ∃ b, c.blocks[a]? = some b ∧ 0 ≤ t.next ∧ t.next ≤ b.next
/-- What acts on the table's own blocks leave. -/
structure Fr2 (c c' : Chip) : Prop where
  oth : ∀ k, 2 ≤ k → c'.blocks[k]? = c.blocks[k]?
  len : c'.blocks.length = c.blocks.length
  dead : c'.dead = c.dead
  out : c'.out = c.out
  aP : c'.aP = c.aP
  aC : c'.aC = c.aC
  aB : c'.aB = c.aB
  pf : c'.pf = c.pf
  wf : c'.wf = c.wf
  fp : FP c' ≤ FP c
  fw : FW c' ≤ FW c
  pos : c.after < 0 → c'.after = c.after ∧ c'.off = c.off
  keep : c'.keep = c.keep
theorem Fr2.refl (c : Chip) : Fr2 c c := ⟨fun _ _ => rfl, rfl, rfl, rfl, rfl, rfl, rfl, rfl, rfl, Nat.le_refl _, Nat.le_refl _, fun _ => ⟨rfl, rfl⟩, rfl⟩
theorem Fr.two {a : Nat} {c c' : Chip} (h : Fr a c c') (ha : a < 2) : Fr2 c c' := ⟨fun k hk => h.oth k (by omega), h.len, h.dead, h.out, h.aP, h.aC, h.aB, h.pf, h.wf, h.fp, h.fw, h.pos, h.keep⟩
theorem Fr2.trans {c c' c'' : Chip} (h : Fr2 c c') (k : Fr2 c' c'') : Fr2 c c'' :=
  ⟨fun i hi => (k.oth i hi).trans (h.oth i hi), k.len.trans h.len, k.dead.trans h.dead, k.out.trans h.out, k.aP.trans h.aP, k.aC.trans h.aC, k.aB.trans h.aB, k.pf.trans h.pf, k.wf.trans h.wf, Nat.le_trans k.fp h.fp, Nat.le_trans k.fw h.fw,
    fun hp => by
      obtain ⟨h1, h2⟩ := h.pos hp
      obtain ⟨h3, h4⟩ := k.pos (by omega)
      exact ⟨h3.trans h1, h4.trans h2⟩, k.keep.trans h.keep⟩
/-- What a loop of keeping comes to. -/
def KOut (c : Chip) (v : Nat) (u l u' l' : List Int) (a : Nat) (s : KS) : Prop :=
  (s.e = 0 ∧ s.c.off = false ∧ ∃ k, s.area = (k : Nat) ∧ Hold s.c (v + 1) u' l' k ∧ ∃ b, s.c.blocks[k]? = some b ∧ 0 ≤ s.next ∧ s.next ≤ b.next) ∨
  (s.e = 30 ∧ s.c.off = true ∧ ¬ c.after < 0 ∧ (Hold s.c v u l a ∨ ∃ k, Hold s.c (v + 1) u' l' k))
theorem Up.of {c c' : Chip} (h : Up c) (hd : c'.dead = c.dead) (ho : c'.out = c.out) (hf : c'.off = false) : Up c' := ⟨hf, hd.trans h.dead, ho.trans h.out⟩
theorem putC_eq {c : Chip} {a : Int} {i : Nat} {q : Pg} : putC c a i q = putGo (8 - i) c a i q := by
  unfold putC
  congr 1
  omega
theorem loop_spec {v : Nat} {u l u' l' : List Int} {a n : Nat} {V : Wd} (ha : a < 2) (hV : V.toNat = v + 1) (ok : OkP n u' l') :
    ∀ (f : Nat) (s : KS) (B : Int), s.e = 34 → s.c.blocks.length = n → Hold s.c v u l a → Up s.c → FP s.c ≤ 7 → FW s.c < f → Cnt s.c B → B + 100 * f < 8000000000000000000 →
      KOut s.c v u l u' l' a (keepGo f (a : Nat) (planP V n u' l') s) ∧ Fr2 s.c (keepGo f (a : Nat) (planP V n u' l') s).c ∧ Cnt (keepGo f (a : Nat) (planP V n u' l') s).c (B + 9 * f)
  | 0, s, B, he, hn, h, up, hfp, hfw, hc, hB => by omega
  | f + 1, s, B, he, hn, h, up, hfp, hfw, hc, hB => by
    obtain ⟨b, hb, hbi, hbad⟩ := h.bs (1 - a) (by omega)
    obtain ⟨e, c1, h1, h2, h3⟩ := erase_spec up hb hbad hc (by omega)
    have hra : (1 : Int) - (a : Nat) = ((1 - a : Nat) : Int) := by omega
    have hold1 := h.erase (k := 1 - a) (by omega) hb hbad h2
    unfold keepGo
    rw [if_pos he]
    unfold keep1
    simp only []
    rw [hra, h1]
    simp only []
    rcases h2.how with ⟨rfl, q1, q2⟩ | ⟨rfl, q1, q2⟩ | ⟨rfl, q1⟩
    · rw [if_neg (by decide), if_neg (by decide)]
      have hk : keepGo f (a : Nat) (planP V n u' l') ⟨((1 - a : Nat) : Int), s.next, 30, c1⟩ = ⟨((1 - a : Nat) : Int), s.next, 30, c1⟩ := by
        cases f with
        | zero => rfl
        | succ f => unfold keepGo; rw [if_neg (show ¬ (30 : Int) = 34 by decide)]
      rw [hk]
      exact ⟨.inr ⟨rfl, q1, q2, .inl hold1⟩, h2.fr.two (by omega), ⟨by have := h3.p0; simp only; omega, by have := h3.w0; simp only; omega⟩⟩
    · rw [if_neg (by decide), if_pos rfl]
      have up1 := up.of h2.fr.dead h2.fr.out q1
      obtain ⟨r1, r2, r3⟩ := loop_spec ha hV ok f ⟨((1 - a : Nat) : Int), s.next, s.e, c1⟩ (B + 1) he (h2.fr.len.trans hn) hold1 up1 (by have := h2.fr.fp; simp only; omega) (by simp only; omega) h3 (by omega)
      refine ⟨?_, (h2.fr.two (by omega)).trans r2, ⟨by have := r3.p0; omega, by have := r3.w0; omega⟩⟩
      rcases r1 with r1 | ⟨r1, r4, r5, r6⟩
      · exact .inl r1
      · exact .inr ⟨r1, r4, fun hp => r5 (by show c1.after < 0; rw [(h2.fr.pos hp).1]; exact hp), r6⟩
    · rw [if_pos rfl]
      have up1 := up.of h2.fr.dead h2.fr.out q1
      obtain ⟨b1, k1, k2, k3, k4, k5⟩ := h2.blk
      have hp0 : putC c1 ((1 - a : Nat) : Int) 0 (planP V n u' l') = putGo 8 c1 ((1 - a : Nat) : Int) ((0 : Nat) : Int) (planP V n u' l') := putC_eq (i := 0)
      obtain ⟨i', e, c2, p1, p2, p3⟩ := put_spec (a := 1 - a) (q := planP V n u' l') 8 c1 0 b1 (B + 1) (by omega) up1 k1 (k3.trans hbad) k2 (by rw [k5 rfl]; exact Int.le_refl _) h3 (by omega)
      rw [hp0, p1]
      simp only []
      have hlen1 : c1.blocks.length = n := h2.fr.len.trans hn
      have hp := hold1.put (k := 1 - a) (V := V) (u' := u') (l' := l') (by omega) k1 hV (by rw [hlen1]; exact ok) (by rw [hlen1]; exact p2)
      have hkk : e ≠ 34 → keepGo f (a : Nat) (planP V n u' l') ⟨((1 - a : Nat) : Int), i', e, c2⟩ = ⟨((1 - a : Nat) : Int), i', e, c2⟩ := fun hne => by
        cases f with
        | zero => rfl
        | succ f => unfold keepGo; rw [if_neg hne]
      have hfr := (h2.fr.two (by omega)).trans (p2.fr.two (by omega))
      rcases p2.how with ⟨rfl, q2, q3⟩ | ⟨rfl, q2⟩ | ⟨rfl, q2, q3, q4⟩
      · rw [hkk (by decide)]
        refine ⟨.inr ⟨rfl, q2, fun hpo => q3 (by rw [(h2.fr.pos hpo).1]; exact hpo), ?_⟩, hfr, ⟨by have := p3.p0; simp only; omega, by have := p3.w0; simp only; omega⟩⟩
        rcases hp.2.1 rfl with h5 | h5
        · exact .inl h5
        · exact .inr ⟨_, h5⟩
      · rw [hkk (by decide)]
        obtain ⟨b2, m1, m2, m3, m4, m5, m6, m7⟩ := p2.blk
        obtain ⟨j, hj, _, n2, n3, _⟩ := m7 rfl
        exact ⟨.inl ⟨rfl, q2, 1 - a, rfl, hp.1 rfl, b2, m1, by simp only; omega, by simp only; omega⟩, hfr, ⟨by have := p3.p0; simp only; omega, by have := p3.w0; simp only; omega⟩⟩
      · have h9 := k5 rfl
        have h10 := h2.fr.fp
        rw [h9] at q4
        have : (8 - (0 : Int)).toNat = 8 := rfl
        omega
/-- A plan is kept. -/
theorem keep_hold {c : Chip} {t : TS} {u l : List Int} {B : Int} (up : Up c) (h : TI c t) (hv : t.version.toNat + 1 < 18446744073709551616) (ok : OkP c.blocks.length u l) (hfp : FP c ≤ 7) (hfw : FW c ≤ 3) (hc : Cnt c B) (hB : B + 1000 < 8000000000000000000) :
    ∃ e t' c', keepC t u l c = (e, t', c') ∧ Fr2 c c' ∧ Cnt c' (B + 100) ∧
      ((e = 0 ∧ Up c' ∧ TI c' t' ∧ t'.uses = u ∧ t'.lost = l ∧ t'.version.toNat = t.version.toNat + 1) ∨
       (e = 30 ∧ c'.off = true ∧ ¬ c.after < 0 ∧ t' = t ∧ ((∃ a, Hold c' t.version.toNat t.uses t.lost a) ∨ ∃ a, Hold c' (t.version.toNat + 1) u l a))) := by
  obtain ⟨a, ha, hh, b, hb, hn0, hn1⟩ := h
  have hV : (t.version + 1).toNat = t.version.toNat + 1 := by
    rw [BitVec.toNat_add]
    show (t.version.toNat + 1) % 2 ^ 64 = _
    exact Nat.mod_eq_of_lt hv
  obtain ⟨b0, hb0, hbi, hbad⟩ := hh.bs a hh.a2
  rw [hb] at hb0
  cases hb0
  have hnx := hbi.nx
  obtain ⟨i, hi⟩ : ∃ i : Nat, t.next = i := ⟨t.next.toNat, by omega⟩
  obtain ⟨i', e, c1, p1, p2, p3⟩ := put_spec (a := a) (q := planP (t.version + 1) c.blocks.length u l) (8 - i) c i b B (by omega) up hb hbad hbi (by omega) hc (by omega)
  have hp0 : putC c t.area t.next (planP (t.version + 1) c.blocks.length u l) = (i', e, c1) := by rw [ha, hi, putC_eq]; exact p1
  have hp := hh.put (k := a) (V := t.version + 1) (u' := u) (l' := l) hh.a2 hb hV ok p2
  have hS : keepS t u l c = keepGo 4 (a : Nat) (planP (t.version + 1) c.blocks.length u l) ⟨(a : Nat), i', e, c1⟩ := by
    unfold keepS
    simp only []
    rw [hp0, ha]
  have key : KOut c t.version.toNat t.uses t.lost u l a (keepS t u l c) ∧ Fr2 c (keepS t u l c).c ∧ Cnt (keepS t u l c).c (B + 100) := by
    rw [hS]
    have hfr := p2.fr.two hh.a2
    have hkk : e ≠ 34 → keepGo 4 (a : Nat) (planP (t.version + 1) c.blocks.length u l) ⟨(a : Nat), i', e, c1⟩ = ⟨(a : Nat), i', e, c1⟩ := fun hne => by
      unfold keepGo; rw [if_neg hne]
    rcases p2.how with ⟨rfl, q2, q3⟩ | ⟨rfl, q2⟩ | ⟨rfl, q2, q3, q4⟩
    · rw [hkk (by decide)]
      refine ⟨.inr ⟨rfl, q2, q3, ?_⟩, hfr, ⟨by have := p3.p0; simp only; omega, by have := p3.w0; simp only; omega⟩⟩
      rcases hp.2.1 rfl with h5 | h5
      · exact .inl h5
      · exact .inr ⟨_, h5⟩
    · rw [hkk (by decide)]
      obtain ⟨b2, m1, m2, m3, m4, m5, m6, m7⟩ := p2.blk
      obtain ⟨j, hj, _, n2, n3, _⟩ := m7 rfl
      exact ⟨.inl ⟨rfl, q2, a, rfl, hp.1 rfl, b2, m1, by simp only; omega, by simp only; omega⟩, hfr, ⟨by have := p3.p0; simp only; omega, by have := p3.w0; simp only; omega⟩⟩
    · have h10 := p2.fr.fp
      have h11 := p2.fr.fw
      have hlen : c1.blocks.length = c.blocks.length := p2.fr.len
      obtain ⟨r1, r2, r3⟩ := loop_spec (n := c.blocks.length) (V := t.version + 1) (u := t.uses) (l := t.lost) hh.a2 hV ok 4 ⟨(a : Nat), i', 34, c1⟩ (B + 8) rfl hlen (hp.2.2 rfl) (up.of p2.fr.dead p2.fr.out q2) (by simp only; omega) (by simp only; omega) ⟨by have := p3.p0; simp only; omega, by have := p3.w0; simp only; omega⟩ (by omega)
      refine ⟨?_, hfr.trans r2, ⟨by have := r3.p0; omega, by have := r3.w0; omega⟩⟩
      rcases r1 with r1 | ⟨r1, r4, r5, r6⟩
      · exact .inl r1
      · exact .inr ⟨r1, r4, fun hpo => r5 (by show c1.after < 0; rw [(p2.fr.pos hpo).1]; exact hpo), r6⟩
  obtain ⟨k1, k2, k3⟩ := key
  generalize hs : keepS t u l c = s at *
  rcases k1 with ⟨e0, h1, k, h2, h3, b2, h4, h5, h6⟩ | ⟨e0, h1, h2, h3⟩
  · refine ⟨0, ⟨u, l, t.version + 1, s.area, s.next, s.next - 1⟩, s.c, ?_, k2, k3, .inl ⟨rfl, up.of k2.dead k2.out h1, ⟨k, h2, ?_, b2, h4, h5, h6⟩, rfl, rfl, hV⟩⟩
    · unfold keepC
      simp only [hs]
      rw [if_neg (by rw [e0]; decide)]
    · show Hold s.c (t.version + 1).toNat u l k
      rw [hV]; exact h3
  · refine ⟨30, t, s.c, ?_, k2, k3, .inr ⟨rfl, h1, h2, rfl, ?_⟩⟩
    · unfold keepC
      simp only [hs]
      rw [if_pos (by rw [e0]; decide), e0]
    · rcases h3 with h3 | h3
      · exact .inl ⟨a, h3⟩
      · exact .inr h3
/-- A chip is opened. -/
theorem open_hold {c : Chip} {v a : Nat} {u l : List Int} (up : Up c) (h : Hold c v u l a) : ∃ t, openC c = (0, t) ∧ TI c t ∧ t.uses = u ∧ t.lost = l ∧ t.version.toNat = v := by
  have hlen : 2 ≤ c.blocks.length := by have := h.ok.n1; omega
  have hm : mayE c 0 0 = 0 := mayU (i := 0) (j := 0) up (by omega) (by omega)
  have hrd : ∀ k < 2, ∀ b, c.blocks[k]? = some b → ∀ (j : Nat) (hj : j < 8), readP c (k : Nat) (j : Nat) = b.pages[j] := fun k hk b hb j hj => read_of (mayU up (by omega) hj) hb hj
  obtain ⟨b, hb, j, hj, hr⟩ := h.ex
  obtain ⟨t, ho, hi⟩ := openC_some hm h.a2 hj (by rw [hrd a h.a2 b hb j hj]; exact hr)
  refine ⟨t, ho, ?_⟩
  obtain ⟨k, hk⟩ : ∃ k : Nat, t.area = k := ⟨t.area.toNat, by have := hi.area; omega⟩
  have hk2 : k < 2 := by have := hi.area; omega
  obtain ⟨b2, hb2, hbi2, _⟩ := h.bs k hk2
  obtain ⟨⟨r1, r2⟩, r3⟩ := hi.rc
  obtain ⟨j2, hj2⟩ : ∃ j : Nat, t.at' = j := ⟨t.at'.toNat, by omega⟩
  have hj28 : j2 < 8 := by omega
  rw [hk, hj2, hrd k hk2 b2 hb2 j2 hj28] at r3
  have h1 := h.le k hk2 b2 hb2 j2 hj28 _ _ _ r3
  have h2 := hi.le a h.a2 j hj v u l (by rw [hrd a h.a2 b hb j hj]; exact hr)
  have hv : t.version.toNat = v := by omega
  obtain ⟨h3, h4⟩ := h1.2 hv
  refine ⟨⟨k, hk, ?_, b2, hb2, hi.l0.1, ?_⟩, h3, h4, hv⟩
  · rw [hv, h3, h4]
    refine ⟨h.ok, hk2, h.bs, h.le, ⟨b2, hb2, j2, hj28, ?_⟩⟩
    rw [r3, hv, h3, h4]
  · rcases (show t.next ≤ b2.next ∨ b2.next < t.next by omega) with h5 | h5
    · exact h5
    · exfalso
      have hnx := hbi2.nx
      have hl := hi.l0
      have hnb := hi.nb (by omega)
      obtain ⟨i, hi2⟩ : ∃ i : Nat, t.next - 1 = i := ⟨(t.next - 1).toNat, by omega⟩
      rw [hk, hi2, hrd k hk2 b2 hb2 i (by omega), hbi2.bl i (by omega) (by omega), blankP_b] at hnb
      cases hnb
end Go.Proofs.YtdfidkhbldedlaaGreat
end
section
/- Walks of the reference of tables. -/
namespace Go.Proofs.YtdfidkhbldedlaaGreat
open Go.K
set_option linter.unusedVariables false
set_option linter.unusedSimpArgs false
instance und36 : Und Tryz.prog 36 (.slice 4) := ⟨Tryz.underlying36⟩
instance agg36 : Agg Tryz.prog 36 false := ⟨⟨_, Tryz.underlying36, rfl⟩⟩
instance siz36 : Siz Tryz.prog 36 1 := ⟨by kernel_rfl⟩
instance agg108 : Agg Tryz.prog 108 true := ⟨⟨_, Tryz.underlying108, rfl⟩⟩
instance siz108 : Siz Tryz.prog 108 2 := ⟨by kernel_rfl⟩
instance fld108_0 : Fld Tryz.prog 108 0 0 := ⟨⟨_, _, 0, Tryz.underlying108, rfl, by kernel_rfl, rfl⟩⟩
instance fld108_1 : Fld Tryz.prog 108 1 1 := ⟨⟨_, _, 0, Tryz.underlying108, rfl, by kernel_rfl, rfl⟩⟩
instance ent52 : Ent Tryz.prog 52 := ⟨fun _ _ => by kernel_rfl⟩
instance ent57 : Ent Tryz.prog 57 := ⟨fun _ _ => by kernel_rfl⟩
instance ent79 : Ent Tryz.prog 79 := ⟨fun _ _ => by kernel_rfl⟩
abbrev tB : TypeId := 4
abbrev tRf : TypeId := 108
instance : Cel Bool := ⟨1, fun b => [.bool b], fun _ => rfl, fun _ => rfl⟩
/-- The document's table, and where it lies. -/
structure RTab where
  b : Nat
  u : Sl Int
  l : Sl Bool
abbrev refC (r : RTab) : List Value := [r.u.val, r.l.val]
@[irreducible] def refH (r : RTab) : Hp := (r.b, true, C (refC r) tRf) :: (r.u.hp tI ++ (r.l.hp tB ++ []))
theorem refH_eq (r : RTab) : refH r = (r.b, true, C (refC r) tRf) :: (r.u.hp tI ++ (r.l.hp tB ++ [])) := by unfold refH; rfl
def atB (l : List Bool) (i : Int) : Bool := l.getD i.toNat false
theorem atB_get {l : List Bool} {i : Int} (h0 : 0 ≤ i) (h1 : i < l.length) : l[i.toNat]? = some (atB l i) := by
  have : i.toNat < l.length := by omega
  simp [atB, List.getD_eq_getElem?_getD, this]
/-- Is a block a spare? -/
def spareR (u : List Int) (l : List Bool) (b : Int) : Bool := !((decide (b < 2) || decide ((l.length : Int) ≤ b)) || atB l b) && !hasI u b
theorem has_at {l : List Int} {x i : Int} (h0 : 0 ≤ i) (h1 : i < l.length) (h : at0 l i = x) : hasI l x = true := by
  apply has_mem.2
  have : i.toNat < l.length := by omega
  rw [← h]
  have e : at0 l i = l[i.toNat] := by simp [at0, List.getD_eq_getElem?_getD, this]
  rw [e]
  exact List.getElem_mem this
theorem has_no {l : List Int} {x : Int} (h : ∀ k : Int, 0 ≤ k → k < l.length → at0 l k ≠ x) : hasI l x = false := by
  cases hh : hasI l x with
  | false => rfl
  | true =>
    obtain ⟨i, hi, e⟩ := List.getElem_of_mem (has_mem.1 hh)
    refine absurd ?_ (h i (by omega) (by omega))
    simp [at0, List.getD_eq_getElem?_getD, hi, e]
section
variable {r : RTab}
theorem rspare_fn {b : Int} : Does Tryz.prog 79 [ptr r.b, .int .i64 b] (refH r) (Is (.bool (spareR r.u.list r.l.list b)) (refH r)) := by
  rw [refH_eq]
  refine fn_enter (n := 44) Tryz.func79 Tryz.ntmps79 rfl (Nat.le_of_ble_eq_true rfl) <| s_seq <| s_region0 fun ops => oA rfl <| o_nil <| n_K <| s_seq <| s_seq ?_
  refine s_region [(2, 8), (11, 17)] rfl fun ops y => ?_
  refine oM rfl <| oR (rd_bin rfl rfl rfl) <| oM rfl ?_
  refine' o_or (j := 2) (k := 7) y rfl rfl rfl rfl rfl rfl rfl (fun hg8 => ?_) ?_
  rotate_left
  · try (simp at hg8; show _)
    refine o_g y rfl rfl ?_
    refine oM rfl ?_
    refine o_g y rfl rfl ?_
    refine oM rfl ?_
    refine o_g y rfl rfl ?_
    refine oN rfl ?_
    refine o_g y rfl rfl ?_
    refine oF rfl ?_
    refine o_g y rfl rfl ?_
    refine oR (rd_ld rfl mM rfl) ?_
    refine o_g y rfl rfl ?_
    refine oR (rd_lenS rfl) ?_
    refine o_g y rfl rfl ?_
    refine oR (rd_bin rfl rfl rfl) ?_
    exact o_nil ⟨rfl, rfl, ⟨_, sP⟩⟩
  refine oM rfl ?_
  refine' o_or (j := 11) (k := 7) y rfl rfl rfl rfl rfl rfl rfl (fun hg17 => ?_) ?_
  rotate_left
  · try (simp at hg17; show _)
    refine o_g y rfl rfl ?_
    refine oM rfl ?_
    refine o_g y rfl rfl ?_
    refine oN rfl ?_
    refine o_g y rfl rfl ?_
    refine oF rfl ?_
    refine o_g y rfl rfl ?_
    refine oR (rd_ld rfl mM rfl) ?_
    refine o_g y rfl rfl ?_
    refine oM rfl ?_
    refine o_g y rfl rfl ?_
    refine oR (rd_ixSl rfl rfl (by omega)) ?_
    refine o_g y rfl rfl ?_
    refine oR (rd_ldSl (o := 0) rfl pL (atB_get (by omega) (by omega)) rfl rfl) ?_
    exact o_nil ⟨rfl, rfl, ⟨_, sP⟩⟩
  refine o_nil <| n_K ?_
  refine s_cond rfl (fun c25 => ?_) (fun c25 => ?_)
  · skip
    have hres : spareR r.u.list r.l.list b = false := (by unfold spareR; rw [c25]; rfl)
    refine s_seq <| s_region0 fun ops => oA rfl <| o_nil <| n_K <| s_ret <| r_K ?_
    refine leaf_is (rets1 Tryz.results79 (rv_tmp rfl)) ?_ sP
    rw [hres]
  · skip
    refine s_skip <| n_K <| s_seq <| s_seq <| s_region0 fun ops => oA rfl <| o_nil <| n_K <| s_block ?_
    have hsm := r.u.small
    refine s_loop2E [0, 1] kQ (fun (i : Int) => [(5, .int .i64 i)]) (fun (i : Int) => 0 ≤ i ∧ i ≤ r.u.list.length ∧ ∀ k : Int, 0 ≤ k → k < i → at0 r.u.list k ≠ b) (fun (i : Int) => ((r.u.list.length : Int) - i).toNat) ((0 : Int)) ⟨by omega, by omega, by intro k h0 h1; omega⟩ kP ?_
    rintro i ⟨h0, h1, h2⟩
    refine s_seq <| s_seq <| s_region0 fun ops => oM rfl <| oM rfl <| oN rfl <| oF rfl ?_
    refine oR (rd_ld rfl mM rfl) ?_
    refine oR (rd_lenS rfl) <| oR (rd_bin rfl rfl rfl) <| o_nil <| n_K ?_
    refine s_cond rfl (fun c32 => ?_) (fun c32 => ?_)
    · try simp at c32
      refine s_skip <| n_K <| s_seq <| s_block <| s_seq <| s_region0 fun ops => oM rfl <| oN rfl <| oF rfl ?_
      refine oR (rd_ld rfl mM rfl) ?_
      refine oM rfl ?_
      refine oR (rd_ixSl rfl rfl ⟨h0, c32⟩) ?_
      refine oR (rd_ldSl (o := 0) rfl pL (at0_get h0 c32) rfl rfl) ?_
      refine oM rfl <| oR (rd_bin rfl rfl rfl) <| o_nil <| n_K ?_
      refine s_cond rfl (fun c43 => ?_) (fun c43 => ?_)
      · simp at c43
        have hres : spareR r.u.list r.l.list b = false := (by unfold spareR; rw [has_at h0 c32 c43]; simp)
        refine s_seq <| s_region0 fun ops => oA rfl <| o_nil <| n_K <| s_ret <| r_blk <| r_K <| r_K <| r_blk <| r_K ?_
        refine leaf_is (rets1 Tryz.results79 (rv_tmp rfl)) ?_ sP
        rw [hres]
      · simp at c43
        refine s_skip <| n_blk <| n_K <| s_region0 fun ops => oM rfl ?_
        refine oR (rd_add64 rfl rfl (by omega)) ?_
        refine oA rfl <| o_nil <| n_K ?_
        exact ⟨i + 1, ⟨by omega, by omega, step_all h2 c43⟩, (by omega), lZ⟩
    · try simp at c32
      have hres : spareR r.u.list r.l.list b = true := (by unfold spareR; rw [c25, has_no (fun k k0 k1 => h2 k k0 (by omega))]; rfl)
      refine s_exit <| x_K <| x_K <| x_blk <| n_K <| s_seq <| s_region0 fun ops => oA rfl <| o_nil <| n_K <| s_ret ?_
      refine leaf_is (rets1 Tryz.results79 (rv_tmp rfl)) ?_ sP
      rw [hres]
def firstR (u : List Int) (l : List Bool) : Int := match (List.range l.length).find? fun (b : Nat) => spareR u l b with | some b => (b : Int) | none => -1
theorem first_found {u : List Int} {l : List Bool} {i : Nat} (hi : i < l.length) (hn : ∀ k < i, spareR u l k = false) (h : spareR u l i = true) : firstR u l = i := by
  unfold firstR
  have : (List.range l.length).find? (fun (b : Nat) => spareR u l b) = some i := by
    rw [List.find?_range_eq_some]
    exact ⟨h, List.mem_range.2 hi, fun j hj => by rw [hn j hj]; rfl⟩
  rw [this]
theorem first_none {u : List Int} {l : List Bool} (hn : ∀ k < l.length, spareR u l k = false) : firstR u l = -1 := by
  unfold firstR
  have : (List.range l.length).find? (fun (b : Nat) => spareR u l b) = none := by
    rw [List.find?_eq_none]
    intro x hx
    rw [hn x (List.mem_range.1 hx)]; simp
  rw [this]
theorem rspareO_fn {b : Int} : Does Tryz.prog 79 [ptr r.b, .int .i64 b] ((r.b, true, C (refC r) tRf) :: (r.u.hp tI ++ (r.l.hp tB ++ []))) (Is (.bool (spareR r.u.list r.l.list b)) ((r.b, true, C (refC r) tRf) :: (r.u.hp tI ++ (r.l.hp tB ++ [])))) := by
  have h := rspare_fn (r := r) (b := b)
  rw [refH_eq] at h; exact h
theorem rfirst_fn : Does Tryz.prog 52 [ptr r.b] (refH r) (Is (.int .i64 (firstR r.u.list r.l.list)) (refH r)) := by
  rw [refH_eq]
  refine fn_enter (n := 17) Tryz.func52 Tryz.ntmps52 rfl (Nat.le_of_ble_eq_true rfl) <| s_seq <| s_region0 fun ops => oA rfl <| o_nil <| n_K <| s_seq <| s_seq <| s_region0 fun ops => oA rfl <| o_nil <| n_K <| s_block ?_
  have hsm := r.l.small
  refine s_loop2E [0] kQ (fun (i : Nat) => [(3, .int .i64 i)]) (fun (i : Nat) => i ≤ r.l.list.length ∧ ∀ k < i, spareR r.u.list r.l.list k = false) (fun (i : Nat) => r.l.list.length - i) ((0 : Nat)) ⟨Nat.zero_le _, fun k hk => by omega⟩ kP ?_
  rintro i ⟨h0, h1⟩
  refine s_seq <| s_seq <| s_region0 fun ops => oM rfl <| oM rfl <| oN rfl <| oF rfl ?_
  refine oR (rd_ld rfl mM rfl) ?_
  refine oR (rd_lenS rfl) <| oR (rd_bin rfl rfl rfl) <| o_nil <| n_K ?_
  refine s_cond rfl (fun c10 => ?_) (fun c10 => ?_)
  · simp only [decide_eq_true_eq, decide_eq_false_iff_not] at c10
    refine s_skip <| n_K <| s_seq <| s_block <| s_seq <| s_region0 fun ops => oM rfl <| oM rfl ?_
    refine c_is rfl (rspareO_fn (r := r)) sP rfl aQ ?_
    refine o_nil <| n_K ?_
    refine s_cond rfl (fun c15 => ?_) (fun c15 => ?_)
    · skip
      have hres := first_found (by omega) h1 c15
      refine s_seq <| s_region0 fun ops => oM rfl <| oA rfl <| o_nil <| n_K <| s_ret <| r_blk <| r_K <| r_K <| r_blk <| r_K ?_
      refine leaf_is (rets1 Tryz.results52 (rv_tmp rfl)) ?_ sP
      rw [hres]
    · skip
      refine s_skip <| n_blk <| n_K <| s_region0 fun ops => oM rfl ?_
      refine oR (rd_add64 rfl rfl (by omega)) ?_
      refine oA rfl <| o_nil <| n_K ?_
      exact ⟨i + 1, ⟨by omega, fun k hk => by rcases Nat.lt_or_ge k i with h | h; exact h1 k h; rw [show k = i by omega]; exact c15⟩, (by omega), lZ⟩
  · simp only [decide_eq_true_eq, decide_eq_false_iff_not] at c10
    have hres := first_none (u := r.u.list) (l := r.l.list) (fun k hk => h1 k (by omega))
    refine s_exit <| x_K <| x_K <| x_blk <| n_K <| s_seq <| s_region0 fun ops => oA rfl <| o_nil <| n_K <| s_ret ?_
    refine leaf_is (rets1 Tryz.results52 (rv_tmp rfl)) ?_ sP
    rw [hres]
theorem rcount_fn : Does Tryz.prog 57 [ptr r.b] (refH r) (Is (.int .i64 (r.l.list.countP id)) (refH r)) := by
  rw [refH_eq]
  refine fn_enter (n := 24) Tryz.func57 Tryz.ntmps57 rfl (Nat.le_of_ble_eq_true rfl) <| s_seq <| s_region0 fun ops => oA rfl <| o_nil <| n_K <| s_seq <| s_region0 fun ops => oA rfl <| o_nil <| n_K <| s_seq <| s_seq <| s_region0 fun ops => ?_
  refine oA rfl <| o_nil <| n_K <| s_block ?_
  have hsm := r.l.small
  refine s_loop2E [0] kQ (fun (i : Nat) => [(4, .int .i64 i), (3, .int .i64 ((r.l.list.take i).countP id))]) (fun (i : Nat) => i ≤ r.l.list.length) (fun (i : Nat) => r.l.list.length - i) ((0 : Nat)) (Nat.zero_le _) kP ?_
  rintro i h0
  have hcl : (r.l.list.take i).countP id ≤ i := Nat.le_trans List.countP_le_length (by rw [List.length_take]; omega)
  refine s_seq <| s_seq <| s_region0 fun ops => oM rfl <| oM rfl <| oN rfl <| oF rfl ?_
  refine oR (rd_ld rfl mM rfl) ?_
  refine oR (rd_lenS rfl) <| oR (rd_bin rfl rfl rfl) <| o_nil <| n_K ?_
  refine s_cond rfl (fun c11 => ?_) (fun c11 => ?_)
  · simp only [decide_eq_true_eq, decide_eq_false_iff_not] at c11
    have hs : (r.l.list.take (i + 1)).countP id = (r.l.list.take i).countP id + (if atB r.l.list i = true then 1 else 0) := (by rw [List.take_add_one, List.countP_append, ← Int.toNat_natCast i, atB_get (i := (i : Int)) (by omega) (by omega)]; simp [List.countP_cons])
    refine s_skip <| n_K <| s_seq <| s_block <| s_seq <| s_region0 fun ops => oM rfl <| oN rfl <| oF rfl ?_
    refine oR (rd_ld rfl mM rfl) ?_
    refine oM rfl ?_
    refine oR (rd_ixSl rfl rfl (by omega)) ?_
    refine oR (rd_ldSl (o := 0) rfl pL (atB_get (i := (i : Int)) (by omega) (by omega)) rfl rfl) ?_
    refine o_nil <| n_K ?_
    refine s_cond rfl (fun c20 => ?_) (fun c20 => ?_)
    · skip
      have hs1 : ((r.l.list.take (i + 1)).countP id : Int) = ((r.l.list.take i).countP id : Int) + 1 := (by rw [hs, if_pos c20]; rfl)
      refine s_region0 fun ops => oM rfl ?_
      refine oR (rd_add64 rfl rfl (by omega)) ?_
      refine oA rfl <| o_nil <| n_blk <| n_K <| s_region0 fun ops => oM rfl ?_
      refine oR (rd_add64 rfl rfl (by omega)) ?_
      refine oA rfl <| o_nil <| n_K ?_
      exact ⟨i + 1, (by omega), (by omega), (by rw [hs1]; exact kP), kP, _, sP⟩
    · skip
      have hs1 : ((r.l.list.take (i + 1)).countP id : Int) = ((r.l.list.take i).countP id : Int) := (by rw [hs, if_neg (by rw [c20]; exact Bool.false_ne_true)]; rfl)
      refine s_skip <| n_blk <| n_K <| s_region0 fun ops => oM rfl ?_
      refine oR (rd_add64 rfl rfl (by omega)) ?_
      refine oA rfl <| o_nil <| n_K ?_
      exact ⟨i + 1, (by omega), (by omega), (by rw [hs1]; exact kP), kP, _, sP⟩
  · simp only [decide_eq_true_eq, decide_eq_false_iff_not] at c11
    rw [List.take_of_length_le (by omega)]
    refine s_exit <| x_K <| x_K <| x_blk <| n_K <| s_seq <| s_region0 fun ops => oM rfl <| oA rfl <| o_nil <| n_K <| s_ret ?_
    refine leaf_is (rets1 Tryz.results57 (rv_tmp rfl)) ?_ sP
    rfl
end
end Go.Proofs.YtdfidkhbldedlaaGreat
end
section
/- Walks of the reference of tables, second part: new tables. -/
namespace Go.Proofs.YtdfidkhbldedlaaGreat
open Go.K
set_option linter.unusedVariables false
set_option linter.unusedSimpArgs false
instance zer4 : Zer Tryz.prog 4 ([.bool false]) := ⟨by kernel_rfl⟩
instance zer108 : Zer Tryz.prog 108 ([.slice none 0 0, .slice none 0 0]) := ⟨by kernel_rfl⟩
instance plc108 : Plc Tryz.prog 108 [(0, 1), (1, 1)] := ⟨⟨_, Tryz.underlying108, fun _ => by kernel_rfl⟩⟩
instance byt4 : Byt Tryz.prog 4 1 := ⟨by kernel_rfl⟩
instance ent16 : Ent Tryz.prog 16 := ⟨fun _ _ => by kernel_rfl⟩
instance ent17 : Ent Tryz.prog 17 := ⟨fun _ _ => by kernel_rfl⟩
instance ent51 : Ent Tryz.prog 51 := ⟨fun _ _ => by kernel_rfl⟩
instance ent53 : Ent Tryz.prog 53 := ⟨fun _ _ => by kernel_rfl⟩
instance ent54 : Ent Tryz.prog 54 := ⟨fun _ _ => by kernel_rfl⟩
theorem refH_mk {b : Nat} {u : Sl Int} {l : Sl Bool} {vu vl : Value} (hu : u.val = vu) (hl : l.val = vl) : refH ⟨b, u, l⟩ = (b, true, C [vu, vl] tRf) :: (u.hp tI ++ (l.hp tB ++ [])) := by
  subst hu hl; exact refH_eq _
/-- Which blocks are bad. -/
def badL (n : Nat) (l : List Int) : List Bool := (List.range n).map fun i => hasI l (i : Nat)
theorem badL_len (n : Nat) (l : List Int) : (badL n l).length = n := by simp [badL]
theorem zrep_false (n : Nat) : zrep n [Value.bool false] = cells (badL n []) := by
  unfold badL
  induction n with
  | zero => rfl
  | succ n ih =>
    have e : ∀ m : Nat, (List.range m).map (fun i => hasI [] ((i : Nat) : Int)) = List.replicate m false := fun m => by
      apply List.ext_getElem
      · simp
      · intro i h1 h2; simp [has_nil]
    rw [e] at ih ⊢
    rw [List.replicate_succ, zrep, ih]
    rfl
theorem has_snoc (l : List Int) (x y : Int) : hasI (l ++ [x]) y = (hasI l y || decide (x = y)) := by
  have e : ∀ l : List Int, hasI l y = l.any (· == y) := fun l => idxF_any l (· == y)
  rw [e, e, List.any_append]
  simp [BEq.beq]
theorem badL_step {n : Nat} {l : List Int} {x : Int} (h : 0 ≤ x ∧ x < n) : badL n (l ++ [x]) = (badL n l).set x.toNat true := by
  apply List.ext_getElem
  · simp [badL]
  · intro i h1 h2
    rw [List.getElem_set]
    have : (badL n (l ++ [x]))[i] = hasI (l ++ [x]) (i : Nat) := by simp [badL]
    rw [this, has_snoc]
    split
    · rename_i e; simp; right; omega
    · rename_i e
      have : ¬ x = (i : Int) := by omega
      simp [badL, this]
theorem bads_fn {n : Int} {s : Sl Int} (hn : 0 ≤ n ∧ n ≤ 1000) (hs : ∀ x ∈ s.list, 0 ≤ x ∧ x < n) : Does Tryz.prog 17 [.int .i64 n, s.val] (s.hp tI) (fun v H => ∃ r : Sl Bool, v = r.val ∧ H = r.hp tB ++ (s.hp tI ++ []) ∧ r.list = badL n.toNat s.list ∧ r.isOwn = true) := by
  refine fn_enter (n := 21) Tryz.func17 Tryz.ntmps17 rfl (Nat.le_of_ble_eq_true rfl) <| s_seq <| s_region0 fun ops => oA rfl <| o_nil <| n_K <| s_seq <| s_region0 fun ops => oM rfl ?_
  refine o_make rfl rfl (by omega) rfl fun b9 => ?_
  refine oA rfl <| o_nil <| n_K <| s_seq <| s_seq <| s_region0 fun ops => oM rfl <| oR (rd_lenS rfl) <| oM rfl <| o_nil <| n_K <| s_block ?_
  refine sc_eq (G := (Sl.own b9 (badL n.toNat []) n.toNat [] ⟨by rw [badL_len]; simp, by rw [badL_len]; exact Nat.le_refl _, by rw [badL_len]; omega⟩ : Sl Bool).hp tB ++ (s.hp tI ++ [])) (by rw [Sl.hp_own, zrep_false]; simp) ?_
  have hsm := s.small
  refine s_loop2 [10, 11] kQ (fun (st : Nat × Sl Bool) => [(12, .int .i64 st.1), (5, st.2.val)]) (fun (st : Nat × Sl Bool) => st.2.hp tB ++ (s.hp tI ++ [])) (fun (st : Nat × Sl Bool) => st.1 ≤ s.list.length ∧ st.2.list = badL n.toNat (s.list.take st.1) ∧ st.2.isOwn = true) (fun (st : Nat × Sl Bool) => s.list.length - st.1) ((0, .own b9 (badL n.toNat []) n.toNat [] ⟨by rw [badL_len]; simp, by rw [badL_len]; exact Nat.le_refl _, by rw [badL_len]; omega⟩)) ⟨Nat.zero_le _, rfl, rfl⟩ (by have e : (Sl.own b9 (badL n.toNat []) n.toNat [] ⟨by rw [badL_len]; simp, by rw [badL_len]; exact Nat.le_refl _, by rw [badL_len]; omega⟩ : Sl Bool).val = .slice (some ⟨b9, 0, none⟩) n.toNat n.toNat := (by show Value.slice (some ⟨b9, 0, none⟩) (badL n.toNat []).length n.toNat = _; rw [badL_len]); rw [e]; exact kP) sP ?_
  rintro ⟨i, q⟩ ⟨h0, h1, h2⟩
  simp only at h0 h1 h2
  have hql : q.list.length = n.toNat := by rw [h1, badL_len]
  refine s_seq <| s_region0 fun ops => oR (rd_bin rfl rfl rfl) <| o_nil <| n_K <| s_seq ?_
  refine s_cond rfl (fun c13 => ?_) (fun c13 => ?_)
  · simp only [decide_eq_true_eq, decide_eq_false_iff_not] at c13
    obtain ⟨y, hg⟩ : ∃ y, s.list[i]? = some y := ⟨_, List.getElem?_eq_getElem (by omega)⟩
    have hy := hs y (List.mem_of_getElem? hg)
    refine s_skip <| n_K <| s_seq <| s_block <| s_seq <| s_region0 fun ops => ?_
    refine oR (rd_ixSl rfl rfl (by omega)) ?_
    refine oR (rd_ldSl (o := 0) rfl pL hg rfl rfl) ?_
    refine oA rfl <| o_nil <| n_K <| s_region0 fun ops => oM rfl <| oM rfl ?_
    refine oR (rd_ixSl rfl rfl ⟨hy.1, by show y < (q.list.length : Int); omega⟩) ?_
    obtain ⟨q', hq'⟩ : ∃ q', q' = q.set y.toNat true := ⟨_, rfl⟩; refine o_storeSl (s := q) (o := 0) (z' := true) rfl rfl uL h2 (atB_get hy.1 (by omega)) rfl rfl rfl (by rw [off_own h2]; exact Nat.zero_add _) ?_; rw [← hq']; have hv' : q'.val = q.val := (by rw [hq', Sl.set_val])
    refine o_nil <| n_blk <| n_K <| s_region0 fun ops => ?_
    refine oR (rd_add64 rfl rfl (by omega)) ?_
    refine oM rfl <| o_nil <| n_K ?_
    exact ⟨(i + 1, q'), ⟨by simp only; omega, by rw [hq', Sl.set_list _ _ _ h2, h1, List.take_add_one, hg]; exact (badL_step (by omega)).symm, by rw [hq']; exact Sl.set_isOwn _ _ _ h2⟩, (by simp only; omega), (by rw [hv']; exact kP), kP, _, sP⟩
  · simp only [decide_eq_true_eq, decide_eq_false_iff_not] at c13
    refine s_exit <| x_K <| x_K <| x_blk <| n_K <| s_seq <| s_region0 fun ops => oM rfl <| oA rfl <| o_nil <| n_K <| s_ret ?_
    exact leaf_r (rets1 Tryz.results17 (rv_tmp rfl)) (by exact ⟨q, rfl, rfl, by rw [h1, List.take_of_length_le (by omega)], h2⟩) sP
/-- The blocks for use, of those ahead of i. -/
def fmtV (l : List Bool) (size : Int) : Nat → List Int
  | 0 => []
  | i + 1 => if atB l (i : Nat) = true then fmtV l size i else if (decide (2 ≤ (i : Int)) && decide (((fmtV l size i).length : Int) < size)) = true then fmtV l size i ++ [(i : Int)] else fmtV l size i
theorem fmtV_full {l : List Bool} {size : Int} {i : Nat} (h : ¬ ((fmtV l size i).length : Int) < size) : ∀ k, fmtV l size (i + k) = fmtV l size i
  | 0 => rfl
  | k + 1 => by
    have ih := fmtV_full h k
    have e : fmtV l size (i + (k + 1)) = if atB l ((i + k : Nat) : Int) = true then fmtV l size (i + k) else if (decide (2 ≤ ((i + k : Nat) : Int)) && decide (((fmtV l size (i + k)).length : Int) < size)) = true then fmtV l size (i + k) ++ [((i + k : Nat) : Int)] else fmtV l size (i + k) := rfl
    rw [e, ih]
    split
    · rfl
    · rw [if_neg (by simp only [Bool.and_eq_true, decide_eq_true_eq]; omega)]
theorem fmtV_two (l : List Bool) (size : Int) : fmtV l size 2 = [] := by
  have e1 : fmtV l size 1 = [] := by
    show (if _ then _ else _) = _
    split
    · rfl
    · rw [if_neg (by simp)]; rfl
  show (if _ then _ else _) = _
  rw [e1]
  split
  · rfl
  · rw [if_neg (by simp)]
theorem fmtV_len (l : List Bool) (size : Int) : ∀ i, (fmtV l size i).length ≤ i
  | 0 => Nat.le_refl _
  | i + 1 => by
    have ih := fmtV_len l size i
    show (if _ then _ else _ : List Int).length ≤ _
    split
    · omega
    · split
      · simp; omega
      · omega
def fmtX (l : List Bool) : Bool := (atB l 0 || atB l 1) || decide (((fmtV l ((l.length : Int) - 6) l.length).length : Int) < (l.length : Int) - 6)
theorem rformat_fn {s : Sl Bool} (hn : 2 ≤ s.list.length ∧ s.list.length ≤ 1000) : Does Tryz.prog 16 [s.val] (s.hp tB)
    (fun v H => (fmtX s.list = false ∧ ∃ r : RTab, v = ptr r.b ∧ H = refH r ++ (s.hp tB ++ []) ∧ r.u.list = fmtV s.list ((s.list.length : Int) - 6) s.list.length ∧ r.l.list = s.list ∧ r.u.isOwn = true ∧ r.l.isOwn = true) ∨ (fmtX s.list = true ∧ v = .pointer none ∧ H = s.hp tB ++ [])) := by
  refine fn_enter (n := 62) Tryz.func16 Tryz.ntmps16 rfl (Nat.le_of_ble_eq_true rfl) <| s_seq <| s_region0 fun ops => oA rfl <| o_nil <| n_K <| s_seq <| s_region0 fun ops => ?_
  refine o_bslice_k rfl rfl rfl rfl fun b5 => ?_
  refine oM rfl ?_
  refine o_append_sl (s := (.emp ⟨b5, 0, none⟩ : Sl Bool)) (new := s.list) (m := s.list.length) rfl rfl (by rw [Sl.hp_emp]; exact PickL.here (L := [])) rfl (src_sl pL) rfl rfl rfl rfl (by show (2 * (0 + s.list.length) + 1024) * _ ≤ 281474976710656; omega) rfl fun s7 hs7 ho7 => ?_
  refine oR (rd_build_s rfl rfl) ?_
  refine o_box rfl rfl fun b9 => ?_
  refine oA rfl <| o_nil <| n_K <| s_seq <| s_seq <| s_region0 fun ops => oA rfl <| o_nil <| n_K <| s_block ?_
  refine sc_eq (nil_hp (α := Int) (T := tI)) ?_
  have hl7 : s7.list = s.list := hs7
  refine s_loop2 [0, 3] kQ (fun (st : Nat × Sl Int) => [(4, .int .i64 st.1)]) (fun (st : Nat × Sl Int) => (b9, true, C [st.2.val, s7.val] tRf) :: (st.2.hp tI ++ (s7.hp tB ++ (s.hp tB ++ [])))) (fun (st : Nat × Sl Int) => 2 ≤ st.1 ∧ st.1 ≤ s.list.length ∧ st.2.list = fmtV s.list ((s.list.length : Int) - 6) st.1 ∧ st.2.isOwn = true) (fun (st : Nat × Sl Int) => s.list.length - st.1) ((2, .nil)) ⟨Nat.le_refl _, hn.1, (fmtV_two _ _).symm, rfl⟩ kP sP ?_
  rintro ⟨i, u⟩ ⟨h0, h1, h2, h3⟩
  simp only at h0 h1 h2 h3
  have hul : u.list.length ≤ i := by rw [h2]; exact fmtV_len _ _ _
  refine s_seq <| s_seq ?_
  refine s_region [(4, 14)] rfl fun ops y => ?_
  refine oM rfl <| oM rfl <| oR (rd_lenS rfl) <| oR (rd_bin rfl rfl rfl) <| oM rfl ?_
  refine' o_and (j := 4) (k := 9) y rfl rfl rfl rfl rfl rfl rfl (fun hg14 => ?_) ?_
  rotate_left
  · try (simp at hg14; show _)
    refine o_g y rfl rfl ?_
    refine oM rfl ?_
    refine o_g y rfl rfl ?_
    refine oN rfl ?_
    refine o_g y rfl rfl ?_
    refine oF rfl ?_
    refine o_g y rfl rfl ?_
    refine oR (rd_ld rfl mM rfl) ?_
    refine o_g y rfl rfl ?_
    refine oR (rd_lenS rfl) ?_
    refine o_g y rfl rfl ?_
    refine oM rfl ?_
    refine o_g y rfl rfl ?_
    refine oR (rd_lenS rfl) ?_
    refine o_g y rfl rfl ?_
    refine oR (rd_sub64 rfl rfl (by omega)) ?_
    refine o_g y rfl rfl ?_
    refine oR (rd_bin rfl rfl rfl) ?_
    exact o_nil ⟨rfl, rfl, ⟨_, sP⟩⟩
  refine o_nil <| n_K ?_
  refine s_cond rfl (fun c24 => ?_) (fun c24 => ?_)
  · skip
    have hc : (i : Int) < s.list.length ∧ (u.list.length : Int) < (s.list.length : Int) - 6 := (by simpa using c24)
    refine s_skip <| n_K <| s_seq <| s_block <| s_seq <| s_region0 fun ops => oM rfl <| oM rfl ?_
    refine oR (rd_ixSl rfl rfl (by omega)) ?_
    refine oR (rd_ldSl (o := 0) rfl pL (atB_get (i := (i : Int)) (by omega) (by omega)) rfl rfl) ?_
    refine oR (rd_not rfl) <| o_nil <| n_K ?_
    refine s_cond rfl (fun c31 => ?_) (fun c31 => ?_)
    · skip
      have hf : fmtV s.list ((s.list.length : Int) - 6) (i + 1) = u.list ++ [(i : Int)] := (by show (if atB s.list (i : Nat) = true then _ else _) = _; rw [if_neg (by intro e; rw [e] at c31; cases c31), ← h2, if_pos (by simp; omega)])
      refine s_region0 fun ops => oM rfl <| oM rfl <| oN rfl <| oF rfl ?_
      refine oR (rd_ld rfl mM rfl) ?_
      refine oM rfl ?_
      refine o_bslice_k rfl rfl rfl rfl fun b38 => ?_
      refine o_append_sl (s := u) (new := [(i : Int)]) (m := 1) rfl rfl pL h3 (src_blk (r := true) mM rfl) rfl rfl rfl rfl (by omega) rfl fun s39 hs1 hs2 => ?_
      refine oN rfl <| oF rfl ?_
      refine o_store rfl rfl uD rfl rfl rfl ?_
      refine o_nil <| n_blk <| n_K <| s_region0 fun ops => oM rfl ?_
      refine oR (rd_add64 rfl rfl (by omega)) ?_
      refine oA rfl <| o_nil <| n_K ?_
      first | refine ⟨(i + 1, u), ⟨by simp only; omega, by simp only; omega, hf.symm, h3⟩, by simp only; omega, lZ⟩ | refine ⟨(i + 1, s39), ⟨by simp only; omega, by simp only; omega, hs1.trans hf.symm, hs2⟩, by simp only; omega, lZ⟩
    · skip
      have hf : fmtV s.list ((s.list.length : Int) - 6) (i + 1) = u.list := (by show (if atB s.list (i : Nat) = true then _ else _) = _; rw [if_pos (by simpa using c31), ← h2])
      refine s_skip <| n_blk <| n_K <| s_region0 fun ops => oM rfl ?_
      refine oR (rd_add64 rfl rfl (by omega)) ?_
      refine oA rfl <| o_nil <| n_K ?_
      first | refine ⟨(i + 1, u), ⟨by simp only; omega, by simp only; omega, hf.symm, h3⟩, by simp only; omega, lZ⟩ | refine ⟨(i + 1, s39), ⟨by simp only; omega, by simp only; omega, hs1.trans hf.symm, hs2⟩, by simp only; omega, lZ⟩
  · skip
    have hfin : u.list = fmtV s.list ((s.list.length : Int) - 6) s.list.length := (by rcases (show i = s.list.length ∨ ¬ (u.list.length : Int) < (s.list.length : Int) - 6 by (by_cases hx : (i : Int) < s.list.length; (simp [hx] at c24; omega); omega)) with hx | hx; (rw [h2, hx]); (rw [h2] at hx; have := fmtV_full hx (s.list.length - i); rw [show i + (s.list.length - i) = s.list.length by omega] at this; rw [this, h2]))
    refine s_exit <| x_K <| x_K <| x_blk <| n_K <| s_seq <| s_seq ?_
    refine s_region [(3, 45), (8, 50)] rfl fun ops y => ?_
    refine oM rfl ?_
    refine oR (rd_ixSl rfl rfl (by omega)) ?_
    refine oR (rd_ldSl (o := 0) rfl pL (atB_get (i := 0) (by omega) (by omega)) rfl rfl) ?_
    refine oM rfl ?_
    refine' o_or (j := 3) (k := 3) y rfl rfl rfl rfl rfl rfl rfl (fun hg45 => ?_) ?_
    rotate_left
    · try (simp at hg45; show _)
      refine o_g y rfl rfl ?_
      refine oM rfl ?_
      refine o_g y rfl rfl ?_
      refine oR (rd_ixSl rfl rfl (by omega)) ?_
      refine o_g y rfl rfl ?_
      refine oR (rd_ldSl (o := 0) rfl pL (atB_get (i := 1) (by omega) (by omega)) rfl rfl) ?_
      exact o_nil ⟨rfl, rfl, ⟨_, sP⟩⟩
    refine oM rfl ?_
    refine' o_or (j := 8) (k := 9) y rfl rfl rfl rfl rfl rfl rfl (fun hg50 => ?_) ?_
    rotate_left
    · try (simp at hg50; show _)
      refine o_g y rfl rfl ?_
      refine oM rfl ?_
      refine o_g y rfl rfl ?_
      refine oN rfl ?_
      refine o_g y rfl rfl ?_
      refine oF rfl ?_
      refine o_g y rfl rfl ?_
      refine oR (rd_ld rfl mM rfl) ?_
      refine o_g y rfl rfl ?_
      refine oR (rd_lenS rfl) ?_
      refine o_g y rfl rfl ?_
      refine oM rfl ?_
      refine o_g y rfl rfl ?_
      refine oR (rd_lenS rfl) ?_
      refine o_g y rfl rfl ?_
      refine oR (rd_sub64 rfl rfl (by omega)) ?_
      refine o_g y rfl rfl ?_
      refine oR (rd_bin rfl rfl rfl) ?_
      exact o_nil ⟨rfl, rfl, ⟨_, sP⟩⟩
    refine o_nil <| n_K ?_
    refine s_cond rfl (fun c60 => ?_) (fun c60 => ?_)
    · skip
      have hx : fmtX s.list = true := (by unfold fmtX; rw [← hfin]; exact c60)
      refine s_seq <| s_region0 fun ops => oA rfl <| o_nil <| n_K <| s_ret <| r_K ?_
      exact leaf_r (rets1 Tryz.results16 (rv_tmp rfl)) (by exact .inr ⟨hx, rfl, rfl⟩) sP
    · skip
      have hx : fmtX s.list = false := (by unfold fmtX; rw [← hfin]; exact c60)
      refine s_skip <| n_K <| s_seq <| s_region0 fun ops => oM rfl <| oA rfl <| o_nil <| n_K <| s_ret ?_
      exact leaf_r (rets1 Tryz.results16 (rv_tmp rfl)) (by exact .inl ⟨hx, ⟨b9, u, s7⟩, rfl, rfl, hfin, hl7, h3, ho7⟩) (by rw [refH_eq]; simp only [List.cons_append, List.append_assoc, List.nil_append]; exact sP)
section
variable {r : RTab}
theorem rcopy_fn (hu : r.u.list.length ≤ 1000) (hl : r.l.list.length ≤ 1000) : Does Tryz.prog 51 [ptr r.b] (refH r)
    (fun v H => ∃ q : RTab, v = ptr q.b ∧ H = refH q ++ (refH r ++ []) ∧ q.u.list = r.u.list ∧ q.l.list = r.l.list ∧ q.u.isOwn = true ∧ q.l.isOwn = true) := by
  rw [refH_eq r]
  refine fn_enter (n := 17) Tryz.func51 Tryz.ntmps51 rfl (Nat.le_of_ble_eq_true rfl) <| s_seq <| s_region0 fun ops => oA rfl <| o_nil <| n_K <| s_seq ?_
  refine s_drawT [] [(11, (.fork [(1, false), (2, false), (3, false), (4, false), (7, false), (8, false), (9, false), (10, false)] 0 (.fork [] 5 (.one [(6, true)]) 6 (.one [(5, true)])) 6 (.one [(0, true), (5, true)]))), (12, (.one [(11, true)])), (13, (.one [(12, false)])), (14, (.one [(13, true)])), (15, (.one [(14, false)]))] (by kernel_rfl) rfl fun ops w0 H0 y => ?_
  refine pt_all ?_
  refine t_fork ?_ rfl
  refine xM rfl <| xN rfl <| xF rfl ?_
  refine xR (rd_ld rfl mM rfl) ?_
  refine xM rfl <| xN rfl <| xF rfl ?_
  refine xR (rd_ld rfl mM rfl) ?_
  refine x_nil ⟨⟨_, sP⟩, ?_, ?_⟩
  refine x_so ?_
  refine o_bslice_k rfl rfl rfl rfl fun b3 => ?_
  refine o_nil ⟨rfl, ⟨_, sP⟩, ?_⟩
  refine x_nil ?_
  refine t_fork ?_ rfl
  refine x_nil ⟨⟨_, sP⟩, ?_, ?_⟩
  refine x_so ?_
  refine o_append_sl (s := (.emp ⟨b3, 0, none⟩ : Sl Int)) (new := r.u.list) (m := r.u.list.length) rfl rfl (by rw [Sl.hp_emp]; exact PickL.here (L := [])) rfl (src_sl pL) rfl rfl rfl rfl (by show (2 * (0 + r.u.list.length) + 1024) * _ ≤ 281474976710656; omega) rfl fun s8 hs8 ho8 => ?_
  refine o_nil ⟨rfl, ⟨_, sP⟩, ?_⟩
  refine x_nil ?_
  refine t_one ?_
  refine x_so ?_
  refine o_bslice_k rfl rfl rfl rfl fun b9 => ?_
  refine o_nil ⟨rfl, ⟨_, sP⟩, ?_⟩
  refine x_nil ?_
  rotate_left
  refine x_so ?_
  refine o_bslice_k rfl rfl rfl rfl fun b9 => ?_
  refine o_nil ⟨rfl, ⟨_, sP⟩, ?_⟩
  refine x_nil ?_
  refine t_one ?_
  refine x_so ?_
  refine o_append_sl (s := (.emp ⟨b3, 0, none⟩ : Sl Int)) (new := r.u.list) (m := r.u.list.length) rfl rfl (by rw [Sl.hp_emp]; exact PickL.here (L := [])) rfl (src_sl pL) rfl rfl rfl rfl (by show (2 * (0 + r.u.list.length) + 1024) * _ ≤ 281474976710656; omega) rfl fun s8 hs8 ho8 => ?_
  refine o_nil ⟨rfl, ⟨_, sP⟩, ?_⟩
  refine x_nil ?_
  rotate_left
  refine x_so ?_
  refine o_bslice_k rfl rfl rfl rfl fun b9 => ?_
  refine o_nil ⟨rfl, ⟨_, sP⟩, ?_⟩
  refine x_nil ?_
  refine t_one ?_
  refine x_so ?_
  refine o_bslice_k rfl rfl rfl rfl fun b3 => ?_
  refine o_nil ⟨rfl, ⟨_, sP⟩, ?_⟩
  refine x_so ?_
  refine o_append_sl (s := (.emp ⟨b3, 0, none⟩ : Sl Int)) (new := r.u.list) (m := r.u.list.length) rfl rfl (by rw [Sl.hp_emp]; exact PickL.here (L := [])) rfl (src_sl pL) rfl rfl rfl rfl (by show (2 * (0 + r.u.list.length) + 1024) * _ ≤ 281474976710656; omega) rfl fun s8 hs8 ho8 => ?_
  refine o_nil ⟨rfl, ⟨_, sP⟩, ?_⟩
  refine x_nil ?_
  rotate_left
  all_goals
    refine pt_none ?_
    refine t_one ?_
    refine x_so ?_
    refine o_append_sl (s := (.emp ⟨b9, 0, none⟩ : Sl Bool)) (new := r.l.list) (m := r.l.list.length) rfl rfl (by rw [Sl.hp_emp]; exact PickL.here (L := [])) rfl (src_sl pL) rfl rfl rfl rfl (by show (2 * (0 + r.l.list.length) + 1024) * _ ≤ 281474976710656; omega) rfl fun s14 hs14 ho14 => ?_
    refine o_nil ⟨rfl, ⟨_, sP⟩, ?_⟩
    refine x_nil ?_
    refine pt_all ?_
    refine t_one ?_
    refine xR (rd_build_s rfl rfl) <| x_nil ?_
    refine pt_none ?_
    refine t_one ?_
    refine x_so ?_
    refine o_box rfl rfl fun b16 => ?_
    refine o_nil ⟨rfl, ⟨_, sP⟩, ?_⟩
    refine x_nil ?_
    refine pt_all ?_
    refine t_one ?_
    refine xA rfl <| x_nil ?_
    refine pt_end ?_
    refine n_K <| s_ret ?_
    exact leaf_r (rets1 Tryz.results51 (rv_tmp rfl)) (by exact ⟨⟨b16, s8, s14⟩, rfl, rfl, hs8, hs14, ho8, ho14⟩) (by rw [refH_eq]; simp only [List.cons_append, List.append_assoc, List.nil_append]; exact sP)
theorem rlose_fn {b : Int} (hol : r.l.isOwn = true) : Does Tryz.prog 53 [ptr r.b, .int .i64 b] (refH r)
    (fun v H => (spareR r.u.list r.l.list b = false ∧ v = .bool false ∧ H = refH r) ∨ (spareR r.u.list r.l.list b = true ∧ v = .bool true ∧ ∃ q : RTab, q.b = r.b ∧ H = refH q ∧ q.u = r.u ∧ q.l.list = r.l.list.set b.toNat true ∧ q.l.isOwn = true)) := by
  rw [refH_eq r]
  refine fn_enter (n := 15) Tryz.func53 Tryz.ntmps53 rfl (Nat.le_of_ble_eq_true rfl) <| s_seq <| s_region0 fun ops => oA rfl <| o_nil <| n_K <| s_seq <| s_seq <| s_region0 fun ops => oM rfl <| oM rfl ?_
  refine c_is rfl (rspareO_fn (r := r)) sP rfl aQ ?_
  refine oR (rd_not rfl) <| o_nil <| n_K ?_
  refine s_cond rfl (fun c8 => ?_) (fun c8 => ?_)
  · skip
    have hx : spareR r.u.list r.l.list b = false := (by simpa using c8)
    refine s_seq <| s_region0 fun ops => oA rfl <| o_nil <| n_K <| s_ret <| r_K ?_
    exact leaf_r (rets1 Tryz.results53 (rv_tmp rfl)) (by exact .inl ⟨hx, rfl, rfl⟩) sP
  · skip
    have hx : spareR r.u.list r.l.list b = true := (by simpa using c8)
    have hb : 0 ≤ b ∧ b < r.l.list.length := (by have h := hx; unfold spareR at h; simp at h; omega)
    refine s_skip <| n_K <| s_seq <| s_region0 fun ops => oM rfl <| oN rfl <| oF rfl ?_
    refine oR (rd_ld rfl mM rfl) ?_
    refine oM rfl ?_
    refine oR (rd_ixSl rfl rfl hb) ?_
    obtain ⟨q', hq'⟩ : ∃ q', q' = r.l.set b.toNat true := ⟨_, rfl⟩; refine o_storeSl (s := r.l) (o := 0) (z' := true) rfl rfl uL hol (atB_get hb.1 hb.2) rfl rfl rfl (by rw [off_own hol]; exact Nat.zero_add _) ?_; rw [← hq']; have hv' : q'.val = r.l.val := (by rw [hq', Sl.set_val])
    refine o_nil <| n_K <| s_seq <| s_region0 fun ops => oA rfl <| o_nil <| n_K <| s_ret ?_
    exact leaf_r (rets1 Tryz.results53 (rv_tmp rfl)) (by exact .inr ⟨hx, rfl, ⟨r.b, r.u, q'⟩, rfl, rfl, rfl, by rw [hq', Sl.set_list _ _ _ hol], by rw [hq']; exact Sl.set_isOwn _ _ _ hol⟩) (by rw [refH_mk rfl hv']; exact sP)
theorem rswap_fn {i b : Int} (hou : r.u.isOwn = true) (hol : r.l.isOwn = true) (hin : ∀ x ∈ r.u.list, 0 ≤ x ∧ x < r.l.list.length) : Does Tryz.prog 54 [ptr r.b, .int .i64 i, .int .i64 b] (refH r)
    (fun v H => (((decide (i < 0) || decide ((r.u.list.length : Int) ≤ i)) || !spareR r.u.list r.l.list b) = true ∧ v = .bool false ∧ H = refH r) ∨ (((decide (i < 0) || decide ((r.u.list.length : Int) ≤ i)) || !spareR r.u.list r.l.list b) = false ∧ v = .bool true ∧ ∃ q : RTab, q.b = r.b ∧ H = refH q ∧ q.u.list = r.u.list.set i.toNat b ∧ q.l.list = r.l.list.set (at0 r.u.list i).toNat true ∧ q.u.isOwn = true ∧ q.l.isOwn = true)) := by
  rw [refH_eq r]
  refine fn_enter (n := 43) Tryz.func54 Tryz.ntmps54 rfl (Nat.le_of_ble_eq_true rfl) <| s_seq <| s_region0 fun ops => oA rfl <| o_nil <| n_K <| s_seq <| s_seq ?_
  refine s_region [(2, 9), (11, 18)] rfl fun ops y => ?_
  refine oM rfl <| oR (rd_bin rfl rfl rfl) <| oM rfl ?_
  refine' o_or (j := 2) (k := 7) y rfl rfl rfl rfl rfl rfl rfl (fun hg9 => ?_) ?_
  rotate_left
  · try (simp at hg9; show _)
    refine o_g y rfl rfl ?_
    refine oM rfl ?_
    refine o_g y rfl rfl ?_
    refine oM rfl ?_
    refine o_g y rfl rfl ?_
    refine oN rfl ?_
    refine o_g y rfl rfl ?_
    refine oF rfl ?_
    refine o_g y rfl rfl ?_
    refine oR (rd_ld rfl mM rfl) ?_
    refine o_g y rfl rfl ?_
    refine oR (rd_lenS rfl) ?_
    refine o_g y rfl rfl ?_
    refine oR (rd_bin rfl rfl rfl) ?_
    exact o_nil ⟨rfl, rfl, ⟨_, sP⟩⟩
  refine oM rfl ?_
  refine' o_or (j := 11) (k := 4) y rfl rfl rfl rfl rfl rfl rfl (fun hg18 => ?_) ?_
  rotate_left
  · try (simp at hg18; show _)
    refine o_g y rfl rfl ?_
    refine oM rfl ?_
    refine o_g y rfl rfl ?_
    refine oM rfl ?_
    refine o_g y rfl rfl ?_
    refine c_is rfl (rspareO_fn (r := r)) sP rfl aQ ?_
    refine o_g y rfl rfl ?_
    refine oR (rd_not rfl) ?_
    exact o_nil ⟨rfl, rfl, ⟨_, sP⟩⟩
  refine o_nil <| n_K ?_
  refine s_cond rfl (fun c23 => ?_) (fun c23 => ?_)
  · skip
    refine s_seq <| s_region0 fun ops => oA rfl <| o_nil <| n_K <| s_ret <| r_K ?_
    exact leaf_r (rets1 Tryz.results54 (rv_tmp rfl)) (by exact .inl ⟨c23, rfl, rfl⟩) sP
  · skip
    have hi : 0 ≤ i ∧ i < r.u.list.length := (by have h := c23; simp at h; omega)
    have hat := at0_get hi.1 hi.2
    have hx := hin _ (List.mem_of_getElem? hat)
    refine s_skip <| n_K <| s_seq ?_
    refine s_draw [] [(12, [(0, false), (1, false), (2, false), (3, false), (4, false), (5, false), (6, false), (7, false), (8, false), (9, false), (10, false), (11, false)]), (13, [(12, true)])] (by kernel_rfl) rfl fun ops w0 H0 y => ?_
    refine p_all <| xM rfl <| xN rfl <| xF rfl ?_
    refine xR (rd_ld rfl mM rfl) ?_
    refine xM rfl <| xN rfl <| xF rfl ?_
    refine xR (rd_ld rfl mM rfl) ?_
    refine xM rfl ?_
    refine xR (rd_ixSl rfl rfl hi) ?_
    refine xR (rd_ldSl (o := 0) rfl pL hat rfl rfl) ?_
    refine xR (rd_ixSl rfl rfl hx) ?_
    refine x_nil <| p_none <| x_so ?_
    obtain ⟨q', hq'⟩ : ∃ q', q' = r.l.set (at0 r.u.list i).toNat true := ⟨_, rfl⟩; refine o_storeSl (s := r.l) (o := 0) (z' := true) rfl rfl uL hol (atB_get hx.1 hx.2) rfl rfl rfl (by rw [off_own hol]; exact Nat.zero_add _) ?_; rw [← hq']; have hv' : q'.val = r.l.val := (by rw [hq', Sl.set_val])
    refine o_nil ⟨rfl, ⟨_, sP⟩, ?_⟩
    refine x_nil <| p_end <| n_K <| s_seq <| s_region0 fun ops => oM rfl <| oN rfl <| oF rfl ?_
    refine oR (rd_ld rfl mM rfl) ?_
    refine oM rfl <| oM rfl ?_
    refine oR (rd_ixSl rfl rfl hi) ?_
    obtain ⟨q2, hq2⟩ : ∃ q2, q2 = r.u.set i.toNat b := ⟨_, rfl⟩; refine o_storeSl (s := r.u) (o := 0) (z' := b) rfl rfl uL hou hat rfl rfl rfl (by rw [off_own hou]; exact Nat.zero_add _) ?_; rw [← hq2]; have hv2 : q2.val = r.u.val := (by rw [hq2, Sl.set_val])
    refine o_nil <| n_K <| s_seq <| s_region0 fun ops => oA rfl <| o_nil <| n_K <| s_ret ?_
    exact leaf_r (rets1 Tryz.results54 (rv_tmp rfl)) (by exact .inr ⟨c23, rfl, ⟨r.b, q2, q'⟩, rfl, rfl, by rw [hq2, Sl.set_list _ _ _ hou], by rw [hq', Sl.set_list _ _ _ hol], by rw [hq2]; exact Sl.set_isOwn _ _ _ hou, by rw [hq']; exact Sl.set_isOwn _ _ _ hol⟩) (by rw [refH_mk hv2 hv']; exact sP)
end
end Go.Proofs.YtdfidkhbldedlaaGreat
end
section
/- Walks of the laws of tables. -/
namespace Go.Proofs.YtdfidkhbldedlaaGreat
open Go.K
set_option linter.unusedVariables false
set_option linter.unusedSimpArgs false
instance und31 : Und Tryz.prog 31 (.pointer 105) := ⟨Tryz.underlying31⟩
instance agg31 : Agg Tryz.prog 31 false := ⟨⟨_, Tryz.underlying31, rfl⟩⟩
instance siz31 : Siz Tryz.prog 31 1 := ⟨by kernel_rfl⟩
instance ent12 : Ent Tryz.prog 12 := ⟨fun _ _ => by kernel_rfl⟩

theorem new2_fn {pp : Nat} {n : Int} {s : Sl Int} {T : TypeId} : Does Tryz.prog 13 [ptr pp, .int .i64 n, s.val] ((pp, true, C [.bool false, .int .i64 (-1), .int .i64 0] tPw) :: (s.hp T ++ []))
    (fun v H => (∃ aC aB, v = .tuple #[ptr aC, .int .i64 0] ∧ H = chH (newG (-1) 0 pp aC aB n.toNat s.list) ++ (s.hp T ++ []) ∧ okNew n s.list = true) ∨ (v = .tuple #[.pointer none, .int .i64 1] ∧ H = (s.hp T ++ []) ∧ okNew n s.list = false)) :=
  (new_fn (off := false) (after := -1) (keep := 0)).mono fun v H h => by
    unfold NewR at h
    split at h
    · rename_i h0; obtain ⟨aC, aB, h1, h2⟩ := h; exact .inl ⟨aC, aB, h1, h2, h0⟩
    · rename_i h0; exact .inr ⟨h.1, h.2, by simpa using h0⟩
theorem new3_fn {pp b : Nat} : Does Tryz.prog 13 [ptr pp, .int .i64 16, .slice (some ⟨b, 0, none⟩) 1 1] [(pp, true, C [.bool false, .int .i64 (-1), .int .i64 0] tPw), (b, true, C [.int .i64 3] tI)]
    (fun v H => ∃ aC aB, v = .tuple #[ptr aC, .int .i64 0] ∧ H = chH (newG (-1) 0 pp aC aB 16 [3]) ++ [(b, true, C [.int .i64 3] tI)]) := by
  have h := new2_fn (pp := pp) (n := 16) (s := .own b [3] 1 [] ⟨by simp, Nat.le_refl _, by simp⟩) (T := tI)
  rw [Sl.hp_own] at h
  refine h.mono fun v H hh => ?_
  rcases hh with ⟨aC, aB, h1, h2, _⟩ | ⟨_, _, h3⟩
  · exact ⟨aC, aB, h1, h2⟩
  · exact absurd h3 (show ¬ okNew 16 [3] = false by decide)
theorem format_ok {c c' : Chip} {t : TS} (hb : 2 ≤ c.blocks.length ∧ c.blocks.length ≤ 1000) (hf : formatC c = (0, t, c')) : Does Tryz.prog 15 [ptr c.aC] (chH c) (fun v H => ∃ tb : Tab, v = .tuple #[ptr tb.b, .int .i64 0] ∧ H = tabH c.aC tb ++ (chH c' ++ []) ∧ tb.ts = t) :=
  (format_fn hb).mono fun v H h => by
    unfold FormatR at h
    rw [hf] at h
    rcases h with ⟨tb, h1, h2, h3, _⟩ | ⟨_, _, h3⟩
    · exact ⟨tb, h1, h2, h3⟩
    · exact absurd rfl h3
theorem at_ok {a : Nat} {t : Tab} {i : Int} : Does Tryz.prog 40 [ptr t.b, .int .i64 i] (tabH a t) (Is (.tuple #[.int .i64 (atT t.ts i).1, .bool (atT t.ts i).2]) (tabH a t)) := at_fn
theorem speaks_fn : Does Tryz.prog 12 [] [] (Is (.bool true) []) := by
  refine fn_enter (n := 65) Tryz.func12 Tryz.ntmps12 rfl (Nat.le_of_ble_eq_true rfl) <| s_seq <| s_region0 fun ops => oA rfl <| o_nil <| n_K <| s_seq <| s_region0 fun ops => ?_
  refine c_ex rfl (newPower_fn) sP rfl fun v12 Y12 h12 => ?_
  obtain ⟨p12, rfl, rfl⟩ := h12
  refine so_ap aQ ?_
  refine o_bslice_k rfl rfl rfl rfl fun b13 => ?_
  refine c_ex rfl (new3_fn) sP rfl fun v14 Y14 h14 => ?_
  obtain ⟨aC, aB, rfl, rfl⟩ := h14
  refine so_ap aQ ?_
  refine oM rfl <| oE rfl rfl <| oE rfl rfl <| oA rfl <| oA rfl <| o_nil <| n_K <| s_seq <| s_seq <| s_region0 fun ops => oM rfl <| oR (rd_eqNil rfl rfl) <| o_nil <| n_K ?_
  refine s_condF rfl ?_
  refine s_skip <| n_K <| s_seq <| s_region0 fun ops => oM rfl ?_
  obtain ⟨c', hc'⟩ := ex_format (aP := p12) (aC := aC) (aB := aB)
  refine c_ex rfl (format_ok (c := newG (-1) 0 p12 aC aB 16 [3]) (by rw [new_len]; decide) hc') sP rfl fun v21 Y21 h21 => ?_
  obtain ⟨t, rfl, rfl, ht⟩ := h21
  refine so_ap aQ ?_
  refine oM rfl <| oE rfl rfl <| oE rfl rfl <| oA rfl <| oA rfl <| o_nil <| n_K <| s_seq <| s_seq ?_
  refine s_region [(2, 26)] rfl fun ops y => ?_
  refine oM rfl <| oR (rd_eqNil rfl rfl) <| oM rfl ?_
  refine' o_or (j := 2) (k := 2) y rfl rfl rfl rfl rfl rfl rfl (fun hg26 => ?_) ?_
  rotate_left
  · try (simp at hg26; show _)
    refine o_g y rfl rfl ?_
    refine oM rfl ?_
    refine o_g y rfl rfl ?_
    refine oR (rd_bin rfl rfl rfl) ?_
    exact o_nil ⟨rfl, rfl, ⟨_, sP⟩⟩
  refine o_nil <| n_K ?_
  refine s_condF rfl ?_
  refine s_skip <| n_K <| s_seq <| s_region0 fun ops => oM rfl ?_
  refine c_is rfl ((at_fn (a := aC) (t := t) (i := 0)).to (by rw [ht]) rfl) sP rfl aQ ?_
  refine oM rfl <| oE rfl rfl <| oE rfl rfl <| oA rfl <| oA rfl <| o_nil <| n_K <| s_seq <| s_region0 fun ops => oM rfl ?_
  refine c_is rfl ((at_fn (a := aC) (t := t) (i := 1)).to (by rw [ht]) rfl) sP rfl aQ ?_
  refine oM rfl <| oE rfl rfl <| oE rfl rfl <| oA rfl <| oA rfl <| o_nil <| n_K <| s_seq <| s_region0 fun ops => oM rfl ?_
  refine c_is rfl ((at_fn (a := aC) (t := t) (i := 2)).to (by rw [ht]) rfl) sP rfl aQ ?_
  refine oM rfl <| oE rfl rfl <| oE rfl rfl <| oA rfl <| oA rfl <| o_nil <| n_K <| s_seq ?_
  refine s_region [(3, 48), (7, 52), (11, 56), (15, 60)] rfl fun ops y => ?_
  refine oM rfl ?_
  refine c_is rfl ((tlen_fn (a := aC) (t := t)).to (by rw [show t.u.list = t.ts.uses from rfl, ht]) rfl) sP rfl aQ ?_
  refine oR (rd_bin rfl rfl rfl) <| oM rfl ?_
  refine' o_and (j := 3) (k := 2) y rfl rfl rfl rfl rfl rfl rfl (fun hg48 => ?_) ?_
  rotate_left
  · try (simp at hg48; show _)
    refine o_g y rfl rfl ?_
    refine oM rfl ?_
    refine o_g y rfl rfl ?_
    refine oR (rd_bin rfl rfl rfl) ?_
    exact o_nil ⟨rfl, rfl, ⟨_, sP⟩⟩
  refine oM rfl ?_
  refine' o_and (j := 7) (k := 2) y rfl rfl rfl rfl rfl rfl rfl (fun hg52 => ?_) ?_
  rotate_left
  · try (simp at hg52; show _)
    refine o_g y rfl rfl ?_
    refine oM rfl ?_
    refine o_g y rfl rfl ?_
    refine oR (rd_bin rfl rfl rfl) ?_
    exact o_nil ⟨rfl, rfl, ⟨_, sP⟩⟩
  refine oM rfl ?_
  refine' o_and (j := 11) (k := 2) y rfl rfl rfl rfl rfl rfl rfl (fun hg56 => ?_) ?_
  rotate_left
  · try (simp at hg56; show _)
    refine o_g y rfl rfl ?_
    refine oM rfl ?_
    refine o_g y rfl rfl ?_
    refine oR (rd_bin rfl rfl rfl) ?_
    exact o_nil ⟨rfl, rfl, ⟨_, sP⟩⟩
  refine oM rfl ?_
  refine' o_and (j := 15) (k := 3) y rfl rfl rfl rfl rfl rfl rfl (fun hg60 => ?_) ?_
  rotate_left
  · try (simp at hg60; show _)
    refine o_g y rfl rfl ?_
    refine oM rfl ?_
    refine o_g y rfl rfl ?_
    refine c_is rfl ((tlost_fn (a := aC) (t := t)).to (by rw [show t.l.list = t.ts.lost from rfl, ht]) rfl) sP rfl aQ ?_
    refine o_g y rfl rfl ?_
    refine oR (rd_bin rfl rfl rfl) ?_
    exact o_nil ⟨rfl, rfl, ⟨_, sP⟩⟩
  refine oA rfl <| o_nil <| n_K <| s_ret ?_
  refine leaf_is (rets1 Tryz.results12 (rv_tmp rfl)) ?_ sP
  rfl
end Go.Proofs.YtdfidkhbldedlaaGreat
end
section
/- Walks of the laws of tables: is a table the document's; a step of the document's. -/
namespace Go.Proofs.YtdfidkhbldedlaaGreat
open Go.K
set_option linter.unusedVariables false
set_option linter.unusedSimpArgs false
instance fld39_2 : Fld Tryz.prog 39 2 2 := ⟨⟨_, _, 0, Tryz.underlying39, rfl, by kernel_rfl, rfl⟩⟩
instance fld39_3 : Fld Tryz.prog 39 3 3 := ⟨⟨_, _, 0, Tryz.underlying39, rfl, by kernel_rfl, rfl⟩⟩
instance ent18 : Ent Tryz.prog 18 := ⟨fun _ _ => by kernel_rfl⟩
instance ent20 : Ent Tryz.prog 20 := ⟨fun _ _ => by kernel_rfl⟩
section
variable {r : RTab} {t : Tab} {c : Chip} {a : Nat}
theorem rcountO_fn : Does Tryz.prog 57 [ptr r.b] ((r.b, true, C (refC r) tRf) :: (r.u.hp tI ++ (r.l.hp tB ++ []))) (Is (.int .i64 (r.l.list.countP id)) ((r.b, true, C (refC r) tRf) :: (r.u.hp tI ++ (r.l.hp tB ++ [])))) := by
  have h := rcount_fn (r := r)
  rw [refH_eq] at h; exact h
theorem rfirstO_fn : Does Tryz.prog 52 [ptr r.b] ((r.b, true, C (refC r) tRf) :: (r.u.hp tI ++ (r.l.hp tB ++ []))) (Is (.int .i64 (firstR r.u.list r.l.list)) ((r.b, true, C (refC r) tRf) :: (r.u.hp tI ++ (r.l.hp tB ++ [])))) := by
  have h := rfirst_fn (r := r)
  rw [refH_eq] at h; exact h
/-- A table, and the document's. -/
structure RelT (t : TS) (u : List Int) (l : List Bool) (n : Nat) : Prop where
  uu : u = t.uses
  ll : l.length = n
  lo : ∀ b : Int, 0 ≤ b → b < n → atB l b = hasI t.lost b
  ln : t.lost.Nodup
  lr : ∀ x ∈ t.lost, 0 ≤ x ∧ x < n
theorem RelT.spare {t : TS} {u : List Int} {l : List Bool} {n : Nat} (h : RelT t u l n) (b : Int) : spareR u l b = spareB t n b := by
  unfold spareR spareB
  rw [h.ll, h.uu]
  by_cases h1 : 2 ≤ b ∧ b < n
  · rw [h.lo b (by omega) h1.2]
    have e1 : decide (b < 2) = false := by simp; omega
    have e2 : decide ((n : Int) ≤ b) = false := by simp; omega
    have e3 : decide (2 ≤ b) = true := by simp; omega
    have e4 : decide (b < (n : Int)) = true := by simp; omega
    rw [e1, e2, e3, e4]
    cases hasI t.lost b <;> cases hasI t.uses b <;> rfl
  · have e1 : (decide (b < 2) || decide ((n : Int) ≤ b)) = true := by simp; omega
    have e2 : (decide (2 ≤ b) && decide (b < (n : Int))) = false := by simp; omega
    rw [e1, e2]
    simp
theorem RelT.first {t : TS} {u : List Int} {l : List Bool} {n : Nat} (h : RelT t u l n) : spareV t n = if 0 ≤ firstR u l then (firstR u l, true) else (0, false) := by
  unfold firstR spareV spareU
  rw [h.ll]
  have : (fun b : Nat => spareR u l b) = fun b : Nat => spareB t n b := funext fun b => h.spare b
  rw [this]
  cases (List.range n).find? fun b : Nat => spareB t n b with
  | none => simp
  | some b => simp
theorem count_list : ∀ (l : List Bool) (k : Nat) (s : List Int), s.Nodup → (∀ x ∈ s, (k : Int) ≤ x ∧ x < k + l.length) → (∀ i (h : i < l.length), l[i] = hasI s ((k + i : Nat) : Int)) → l.countP id = s.length
  | [], k, s, hn, hr, _ => by
    cases s with
    | nil => rfl
    | cons x s => have := hr x (.head _); simp at this; omega
  | b :: l, k, s, hn, hr, hb => by
    have h0 := hb 0 (by simp)
    simp only [List.getElem_cons_zero, Nat.add_zero] at h0
    have ih := count_list l (k + 1) (s.erase (k : Int)) (hn.erase _) (fun x hx => by
      have h1 := (hn.mem_erase_iff).1 hx
      have h2 := hr x h1.2
      have h3 := h1.1
      simp only [List.length_cons] at h2
      push_cast
      omega) (fun i hi => by
      have h1 := hb (i + 1) (by simp; omega)
      simp only [List.getElem_cons_succ] at h1
      rw [h1, show ((k + 1 + i : Nat) : Int) = ((k + (i + 1) : Nat) : Int) by omega]
      cases hh : hasI s ((k + (i + 1) : Nat) : Int) with
      | true =>
        symm
        apply has_mem.2
        exact (hn.mem_erase_iff).2 ⟨by omega, has_mem.1 hh⟩
      | false =>
        symm
        cases h2 : hasI (s.erase (k : Int)) ((k + (i + 1) : Nat) : Int) with
        | false => rfl
        | true =>
          have := has_mem.2 ((hn.mem_erase_iff).1 (has_mem.1 h2)).2
          rw [hh] at this
          cases this)
    rw [List.countP_cons, ih]
    cases b with
    | true =>
      have hm := has_mem.1 h0.symm
      have := List.length_erase_of_mem hm
      have := List.length_pos_of_mem hm
      simp
      omega
    | false =>
      have hm : (k : Int) ∉ s := fun h => by rw [has_mem.2 h] at h0; cases h0
      rw [List.erase_of_not_mem hm]
      simp
theorem RelT.count {t : TS} {u : List Int} {l : List Bool} {n : Nat} (h : RelT t u l n) : l.countP id = t.lost.length :=
  count_list l 0 t.lost h.ln (fun x hx => by have := h.lr x hx; rw [h.ll]; omega) (fun i hi => by
    have := h.lo (i : Nat) (by omega) (by rw [h.ll] at hi; omega)
    rw [Nat.zero_add, ← this]
    simp [atB, List.getD_eq_getElem?_getD, hi])
theorem in_of {x : Bool} {i n : Int} (h : x = (decide (0 ≤ i) && decide (i < n))) (k : x = true) : 0 ≤ i ∧ i < n := by
  rw [k] at h
  have := h.symm
  simpa using this
theorem same_row {t : TS} {u : List Int} {i : Int} (h : u = t.uses) : (((!(atT t i).2 == (decide (0 ≤ i) && decide (i < (u.length : Int)))) || ((atT t i).2 && !decide ((atT t i).1 = at0 u i))) || (!(atT t i).2 && !decide ((atT t i).1 = 0))) = false := by
  subst h
  by_cases hi : 0 ≤ i ∧ i < t.uses.length
  · have e : atT t i = (at0 t.uses i, true) := by
      unfold atT
      rw [if_neg (by simp; omega)]
    rw [e]
    simp [hi]
  · have e : atT t i = (0, false) := by
      unfold atT
      rw [if_pos (by simp; omega)]
    rw [e]
    simp
    omega
theorem same_fn (ha : c.aC = a) (hn : c.blocks.length ≤ 1000) (hul : r.u.list.length ≤ 1000) : Does Tryz.prog 20 [ptr t.b, ptr r.b] (tabH a t ++ (chH c ++ (refH r ++ [])))
    (fun v H => ∃ x, v = .bool x ∧ H = tabH a t ++ (chH c ++ (refH r ++ [])) ∧ (RelT t.ts r.u.list r.l.list c.blocks.length → x = true) ∧ (¬ t.l.list.length = r.l.list.countP id → x = false)) := by
  rw [refH_eq]; simp only [List.cons_append, List.append_assoc, List.nil_append]
  refine fn_enter (n := 102) Tryz.func20 Tryz.ntmps20 rfl (Nat.le_of_ble_eq_true rfl) <| s_seq <| s_region0 fun ops => oA rfl <| o_nil <| n_K <| s_seq <| s_seq ?_
  refine s_draw [(8, 18)] [(7, [(0, false), (2, false), (3, false), (4, false), (5, false), (6, false), (1, true)]), (8, [(7, false)]), (15, [(8, false), (9, false), (11, false), (10, true), (12, true), (13, false), (14, false)])] (by kernel_rfl) rfl fun ops w0 H0 y => ?_
  refine p_all <| xM rfl <| xM rfl <| xN rfl <| xF rfl ?_
  refine xR (rd_ld rfl mM rfl) ?_
  refine xR (rd_lenS rfl) <| x_so ?_
  refine c_is rfl (tlen_fn (a := a) (t := t)) sP rfl aQ ?_
  refine o_nil ⟨rfl, ⟨_, sP⟩, ?_⟩
  refine x_nil <| p_all <| xR (rd_bin rfl rfl rfl) <| x_nil <| p_all <| xM rfl ?_
  refine' x_or (j := 8) (k := 5) y rfl rfl rfl rfl rfl rfl rfl (fun hg18 => ?_) ?_
  rotate_left
  · try (simp at hg18; show _)
    refine x_g y rfl rfl ?_
    refine xM rfl ?_
    refine x_g y rfl rfl ?_
    refine xM rfl ?_
    refine x_g y rfl rfl ?_
    refine x_so ?_
    refine c_is rfl (tlost_fn (a := a) (t := t)) sP rfl aQ ?_
    refine o_nil ⟨rfl, ⟨_, sP⟩, ?_⟩
    refine x_g y rfl rfl ?_
    refine x_so ?_
    refine c_is rfl (rcountO_fn (r := r)) sP rfl aQ ?_
    refine o_nil ⟨rfl, ⟨_, sP⟩, ?_⟩
    refine x_g y rfl rfl ?_
    refine xR (rd_bin rfl rfl rfl) ?_
    exact x_nil ⟨rfl, ⟨_, sP⟩⟩
  refine x_nil <| p_end <| n_K ?_
  refine s_cond rfl (fun c24 => ?_) (fun c24 => ?_)
  · skip
    refine s_seq <| s_region0 fun ops => oA rfl <| o_nil <| n_K <| s_ret <| r_K ?_
    exact leaf_r (rets1 Tryz.results20 (rv_tmp rfl)) (by refine ⟨false, rfl, rfl, fun h => ?_, fun _ => rfl⟩; have h1 := h.uu; have h2 := h.count; rw [h1, h2] at c24; exact absurd c24 (by simp [Tab.ts])) sP
  · skip
    have hlen : t.u.list.length = r.u.list.length ∧ t.l.list.length = r.l.list.countP id := (by simp at c24; omega)
    refine s_skip <| n_K <| s_seq <| s_seq <| s_region0 fun ops => oA rfl <| o_nil <| n_K <| s_block ?_
    have hsm := r.u.small
    refine s_loop2E [0, 1] kQ (fun (i : Int) => [(5, .int .i64 i)]) (fun (i : Int) => -1 ≤ i ∧ i ≤ (r.u.list.length : Int) + 1) (fun (i : Int) => ((r.u.list.length : Int) + 1 - i).toNat) ((-1 : Int)) ⟨by omega, by omega⟩ kP ?_
    rintro i ⟨h0, h1⟩
    refine s_seq <| s_seq <| s_region0 fun ops => oM rfl <| oM rfl <| oN rfl <| oF rfl ?_
    refine oR (rd_ld rfl mM rfl) ?_
    refine oR (rd_lenS rfl) <| oR (rd_bin rfl rfl rfl) <| o_nil <| n_K ?_
    refine s_cond rfl (fun c31 => ?_) (fun c31 => ?_)
    · simp only [decide_eq_true_eq, decide_eq_false_iff_not] at c31
      refine s_skip <| n_K <| s_seq <| s_block <| s_seq <| s_region0 fun ops => oM rfl <| oM rfl ?_
      refine c_is rfl (at_fn (a := a) (t := t) (i := i)) sP rfl aQ ?_
      refine oM rfl <| oE rfl rfl <| oE rfl rfl <| oA rfl <| oA rfl <| o_nil <| n_K <| s_seq ?_
      refine s_region [(3, 43), (13, 53), (15, 55), (27, 67), (30, 70)] rfl fun ops y => ?_
      refine oM rfl <| oM rfl <| oR (rd_bin rfl rfl rfl) <| oM rfl ?_
      refine' o_and (j := 3) (k := 7) y rfl rfl rfl rfl rfl rfl rfl (fun hg43 => ?_) ?_
      rotate_left
      · try (simp at hg43; show _)
        refine o_g y rfl rfl ?_
        refine oM rfl ?_
        refine o_g y rfl rfl ?_
        refine oM rfl ?_
        refine o_g y rfl rfl ?_
        refine oN rfl ?_
        refine o_g y rfl rfl ?_
        refine oF rfl ?_
        refine o_g y rfl rfl ?_
        refine oR (rd_ld rfl mM rfl) ?_
        refine o_g y rfl rfl ?_
        refine oR (rd_lenS rfl) ?_
        refine o_g y rfl rfl ?_
        refine oR (rd_bin rfl rfl rfl) ?_
        exact o_nil ⟨rfl, rfl, ⟨_, sP⟩⟩
      refine oR (rd_neB rfl rfl) <| oM rfl ?_
      refine' o_or (j := 13) (k := 12) y rfl rfl rfl rfl rfl rfl rfl (fun hg53 => ?_) ?_
      rotate_left
      · try (simp at hg53; show _)
        refine o_g y rfl rfl ?_
        refine oM rfl ?_
        refine o_g y rfl rfl ?_
        refine oM rfl ?_
        refine' o_and (j := 15) (k := 9) y rfl rfl rfl rfl rfl rfl rfl (fun hg55 => ?_) ?_
        rotate_left
        · try (simp at hg55; show _)
          refine o_g y rfl rfl ?_
          refine oM rfl ?_
          refine o_g y rfl rfl ?_
          refine oM rfl ?_
          refine o_g y rfl rfl ?_
          refine oN rfl ?_
          refine o_g y rfl rfl ?_
          refine oF rfl ?_
          refine o_g y rfl rfl ?_
          refine oR (rd_ld rfl mM rfl) ?_
          refine o_g y rfl rfl ?_
          refine oM rfl ?_
          refine o_g y rfl rfl ?_
          refine oR (rd_ixSl rfl rfl (in_of hg53 hg55)) ?_
          refine o_g y rfl rfl ?_
          refine oR (rd_ldSl (o := 0) rfl pL (at0_get (in_of hg53 hg55).1 (in_of hg53 hg55).2) rfl rfl) ?_
          refine o_g y rfl rfl ?_
          refine oR (rd_bin rfl rfl rfl) ?_
          exact o_nil ⟨rfl, rfl, ⟨_, sP⟩⟩
        exact o_nil ⟨rfl, rfl, ⟨_, sP⟩⟩
      refine oM rfl ?_
      refine' o_or (j := 27) (k := 6) y rfl rfl rfl rfl rfl rfl rfl (fun hg67 => ?_) ?_
      rotate_left
      · try (simp at hg67; show _)
        refine o_g y rfl rfl ?_
        refine oM rfl ?_
        refine o_g y rfl rfl ?_
        refine oR (rd_not rfl) ?_
        refine o_g y rfl rfl ?_
        refine oM rfl ?_
        refine' o_and (j := 30) (k := 2) y rfl rfl rfl rfl rfl rfl rfl (fun hg70 => ?_) ?_
        rotate_left
        · try (simp at hg70; show _)
          refine o_g y rfl rfl ?_
          refine oM rfl ?_
          refine o_g y rfl rfl ?_
          refine oR (rd_bin rfl rfl rfl) ?_
          exact o_nil ⟨rfl, rfl, ⟨_, sP⟩⟩
        exact o_nil ⟨rfl, rfl, ⟨_, sP⟩⟩
      refine o_nil <| n_K ?_
      refine s_cond rfl (fun c74 => ?_) (fun c74 => ?_)
      · skip
        refine s_seq <| s_region0 fun ops => oA rfl <| o_nil <| n_K <| s_ret <| r_blk <| r_K <| r_K <| r_blk <| r_K ?_
        exact leaf_r (rets1 Tryz.results20 (rv_tmp rfl)) (by refine ⟨false, rfl, rfl, fun h => ?_, fun _ => rfl⟩; exact absurd c74 (by rw [same_row h.uu]; exact Bool.false_ne_true)) sP
      · skip
        refine s_skip <| n_blk <| n_K <| s_region0 fun ops => oM rfl ?_
        refine oR (rd_add64 rfl rfl (by omega)) ?_
        refine oA rfl <| o_nil <| n_K ?_
        exact ⟨i + 1, ⟨by omega, by omega⟩, (by omega), lZ⟩
    · simp only [decide_eq_true_eq, decide_eq_false_iff_not] at c31
      refine s_exit <| x_K <| x_K <| x_blk <| n_K <| s_seq <| s_region0 fun ops => oM rfl ?_
      refine c_is rfl (spareM_fn (t := t) ha hn) sP rfl aQ ?_
      refine oM rfl <| oE rfl rfl <| oE rfl rfl <| oA rfl <| oA rfl <| o_nil <| n_K <| s_seq ?_
      refine s_region [(5, 85), (8, 88), (15, 95), (17, 97)] rfl fun ops y => ?_
      refine oM rfl <| oM rfl ?_
      refine c_is rfl (rfirstO_fn (r := r)) sP rfl aQ ?_
      refine oR (rd_bin rfl rfl rfl) <| oR (rd_eqB rfl rfl) <| oM rfl ?_
      refine' o_and (j := 5) (k := 8) y rfl rfl rfl rfl rfl rfl rfl (fun hg85 => ?_) ?_
      rotate_left
      · try (simp at hg85; show _)
        refine o_g y rfl rfl ?_
        refine oM rfl ?_
        refine o_g y rfl rfl ?_
        refine oR (rd_not rfl) ?_
        refine o_g y rfl rfl ?_
        refine oM rfl ?_
        refine' o_or (j := 8) (k := 4) y rfl rfl rfl rfl rfl rfl rfl (fun hg88 => ?_) ?_
        rotate_left
        · try (simp at hg88; show _)
          refine o_g y rfl rfl ?_
          refine oM rfl ?_
          refine o_g y rfl rfl ?_
          refine oM rfl ?_
          refine o_g y rfl rfl ?_
          refine c_is rfl (rfirstO_fn (r := r)) sP rfl aQ ?_
          refine o_g y rfl rfl ?_
          refine oR (rd_bin rfl rfl rfl) ?_
          exact o_nil ⟨rfl, rfl, ⟨_, sP⟩⟩
        exact o_nil ⟨rfl, rfl, ⟨_, sP⟩⟩
      refine oM rfl ?_
      refine' o_and (j := 15) (k := 5) y rfl rfl rfl rfl rfl rfl rfl (fun hg95 => ?_) ?_
      rotate_left
      · try (simp at hg95; show _)
        refine o_g y rfl rfl ?_
        refine oM rfl ?_
        refine o_g y rfl rfl ?_
        refine oM rfl ?_
        refine' o_or (j := 17) (k := 2) y rfl rfl rfl rfl rfl rfl rfl (fun hg97 => ?_) ?_
        rotate_left
        · try (simp at hg97; show _)
          refine o_g y rfl rfl ?_
          refine oM rfl ?_
          refine o_g y rfl rfl ?_
          refine oR (rd_bin rfl rfl rfl) ?_
          exact o_nil ⟨rfl, rfl, ⟨_, sP⟩⟩
        exact o_nil ⟨rfl, rfl, ⟨_, sP⟩⟩
      refine oA rfl <| o_nil <| n_K <| s_ret ?_
      exact leaf_r (rets1 Tryz.results20 (rv_tmp rfl)) (by refine ⟨_, rfl, rfl, fun h => ?_, fun hne => absurd hlen.2 hne⟩; rw [h.first]; by_cases hf : 0 ≤ firstR r.u.list r.l.list; (rw [if_pos hf]; simp [hf]); (rw [if_neg hf]; simp [hf])) sP
def stB (u : List Int) (l : List Bool) (o : OpV) : Int := if o.least = true then max (firstR u l) 0 else o.block
/-- A step of the document's table. -/
def StepR (u : List Int) (l : List Bool) (o : OpV) (b : Int) (ok : Bool) (u' : List Int) (l' : List Bool) : Prop :=
  (evn o.kind = true → ok = spareR u l b ∧ u' = u ∧ l' = if ok = true then l.set b.toNat true else l) ∧
  (evn o.kind = false → ok = !((decide (o.logical < 0) || decide ((u.length : Int) ≤ o.logical)) || !spareR u l b) ∧ u' = (if ok = true then u.set o.logical.toNat b else u) ∧ l' = if ok = true then l.set (at0 u o.logical).toNat true else l)
theorem rcopyO_fn (hu : r.u.list.length ≤ 1000) (hl : r.l.list.length ≤ 1000) : Does Tryz.prog 51 [ptr r.b] (refH r)
    (fun v H => ∃ q : RTab, v = ptr q.b ∧ H = refH q ++ (refH r ++ []) ∧ q.u.list = r.u.list ∧ q.l.list = r.l.list ∧ q.u.isOwn = true ∧ q.l.isOwn = true) := rcopy_fn hu hl
section
variable {u u1 u2 : List Int} {l l1 l2 : List Bool} {o : OpV} {b : Int}
theorem st_l0 (hk : evn o.kind = true) (hx : spareR u1 l1 b = false) (hu : u1 = u) (hl : l1 = l) : StepR u l o b false u1 l1 := by
  subst hu hl
  exact ⟨fun _ => ⟨hx.symm, rfl, rfl⟩, fun h => by rw [hk] at h; cases h⟩
theorem st_l1 (hk : evn o.kind = true) (hx : spareR u1 l1 b = true) (hu : u1 = u) (hl : l1 = l) (hu2 : u2 = u1) (hl2 : l2 = l1.set b.toNat true) : StepR u l o b true u2 l2 := by
  subst hu hl hu2 hl2
  exact ⟨fun _ => ⟨hx.symm, rfl, rfl⟩, fun h => by rw [hk] at h; cases h⟩
theorem st_s0 (hk : evn o.kind = false) (hx : ((decide (o.logical < 0) || decide ((u1.length : Int) ≤ o.logical)) || !spareR u1 l1 b) = true) (hu : u1 = u) (hl : l1 = l) : StepR u l o b false u1 l1 := by
  subst hu hl
  exact ⟨fun h => (by rw [hk] at h; cases h), fun _ => ⟨by rw [hx]; rfl, rfl, rfl⟩⟩
theorem st_s1 (hk : evn o.kind = false) (hx : ((decide (o.logical < 0) || decide ((u1.length : Int) ≤ o.logical)) || !spareR u1 l1 b) = false) (hu : u1 = u) (hl : l1 = l) (hu2 : u2 = u1.set o.logical.toNat b) (hl2 : l2 = l1.set (at0 u1 o.logical).toNat true) : StepR u l o b true u2 l2 := by
  subst hu hl hu2 hl2
  exact ⟨fun h => (by rw [hk] at h; cases h), fun _ => ⟨by rw [hx]; rfl, rfl, rfl⟩⟩
end
theorem step_fn {o : OpV} (hu : r.u.list.length ≤ 1000) (hl : r.l.list.length ≤ 1000) (hin : ∀ x ∈ r.u.list, 0 ≤ x ∧ x < r.l.list.length) : Does Tryz.prog 18 [ptr r.b, .agg (opC o).toArray] (refH r)
    (fun v H => ∃ (q : RTab) (ok : Bool), v = .tuple #[.int .i64 (stB r.u.list r.l.list o), ptr q.b, .bool ok] ∧ H = refH q ++ (refH r ++ []) ∧ q.u.isOwn = true ∧ q.l.isOwn = true ∧ StepR r.u.list r.l.list o (stB r.u.list r.l.list o) ok q.u.list q.l.list) := by
  refine fn_enter (n := 34) Tryz.func18 Tryz.ntmps18 rfl (Nat.le_of_ble_eq_true rfl) <| s_seq <| s_region0 fun ops => ?_
  refine o_box rfl rfl fun b3 => ?_
  refine oA rfl <| oA rfl <| oA rfl <| o_nil <| n_K <| s_seq ?_
  refine s_draw [] [(4, [(0, false), (1, false), (2, false), (3, true)]), (6, [(4, false), (5, false)])] (by kernel_rfl) rfl fun ops w0 H0 y => ?_
  refine p_all <| xF rfl ?_
  refine xR (rd_ld rfl mM rfl) ?_
  refine xM rfl <| x_so ?_
  refine c_ex rfl (rcopyO_fn (r := r) hu hl) sP rfl fun v12 Y12 h12 => ?_
  obtain ⟨q, rfl, rfl, hqu, hql, hou, hol⟩ := h12
  refine so_ap aQ ?_
  refine o_nil ⟨rfl, ⟨_, sP⟩, ?_⟩
  refine x_nil <| p_all <| xA rfl <| xA rfl <| x_nil <| p_end <| n_K <| s_seq <| s_seq <| s_region0 fun ops => oF rfl ?_
  refine oR (rd_ld rfl mM rfl) ?_
  refine o_nil <| n_K ?_
  refine s_cond rfl (fun c14 => ?_) (fun c14 => ?_)
  · skip
    have hb : stB r.u.list r.l.list o = max (firstR r.u.list r.l.list) 0 := if_pos c14
    refine s_region0 fun ops => oM rfl ?_
    refine c_is rfl (rfirst_fn (r := r)) sP rfl aQ ?_
    refine oR (rd_max rfl rfl) <| oA rfl <| o_nil <| n_K <| s_seq <| s_seq <| s_region0 fun ops => oF rfl ?_
    refine oR (rd_ld rfl mM rfl) ?_
    refine oR (rd_bin rfl rfl rfl) <| oR (rd_bin rfl rfl rfl) <| o_nil <| n_K ?_
    refine s_cond rfl (fun c21 => ?_) (fun c21 => ?_)
    · skip
      have hk : evn o.kind = true := c21
      refine s_seq <| s_region0 fun ops => oM rfl <| oM rfl <| oM rfl <| oM rfl ?_
      refine c_ex rfl (rlose_fn (r := q) hol) sP rfl fun v26 Y26 h26 => ?_
      rcases h26 with ⟨hx, rfl, rfl⟩ | ⟨hx, rfl, q2, hb2, rfl, hu2, hl2, ho2⟩
      all_goals
        refine so_ap aQ ?_
        refine oA rfl <| oA rfl <| oA rfl <| o_nil <| n_K <| s_ret <| r_K ?_
        exact leaf_r (rets3 Tryz.results18 (rv_tmp rfl) (rv_tmp rfl) (rv_tmp rfl)) (by rw [hb]; first | exact ⟨q, false, rfl, rfl, hou, hol, st_l0 hk hx hqu hql⟩ | exact ⟨q, false, rfl, rfl, hou, hol, st_s0 hk hx hqu hql⟩ | exact ⟨q2, true, (by rw [hb2]), rfl, ho2, ho3, st_s1 hk hx hqu hql hu2 hl2⟩ | exact ⟨q2, true, (by rw [hb2]), rfl, (by rw [hu2]; exact hou), ho2, st_l1 hk hx hqu hql (congrArg Sl.list hu2) hl2⟩) sP
    · skip
      have hk : evn o.kind = false := c21
      refine s_skip <| n_K <| s_seq <| s_region0 fun ops => oM rfl <| oM rfl <| oM rfl <| oF rfl ?_
      refine oR (rd_ld rfl mM rfl) ?_
      refine oM rfl ?_
      refine c_ex rfl (rswap_fn (r := q) hou hol (by rw [hqu, hql]; exact hin)) sP rfl fun v33 Y33 h33 => ?_
      rcases h33 with ⟨hx, rfl, rfl⟩ | ⟨hx, rfl, q2, hb2, rfl, hu2, hl2, ho2, ho3⟩
      all_goals
        refine so_ap aQ ?_
        refine oA rfl <| oA rfl <| oA rfl <| o_nil <| n_K <| s_ret ?_
        exact leaf_r (rets3 Tryz.results18 (rv_tmp rfl) (rv_tmp rfl) (rv_tmp rfl)) (by rw [hb]; first | exact ⟨q, false, rfl, rfl, hou, hol, st_l0 hk hx hqu hql⟩ | exact ⟨q, false, rfl, rfl, hou, hol, st_s0 hk hx hqu hql⟩ | exact ⟨q2, true, (by rw [hb2]), rfl, ho2, ho3, st_s1 hk hx hqu hql hu2 hl2⟩ | exact ⟨q2, true, (by rw [hb2]), rfl, (by rw [hu2]; exact hou), ho2, st_l1 hk hx hqu hql (congrArg Sl.list hu2) hl2⟩) sP
  · skip
    have hb : stB r.u.list r.l.list o = o.block := if_neg (by rw [c14]; exact Bool.false_ne_true)
    refine s_skip <| n_K <| s_seq <| s_seq <| s_region0 fun ops => oF rfl ?_
    refine oR (rd_ld rfl mM rfl) ?_
    refine oR (rd_bin rfl rfl rfl) <| oR (rd_bin rfl rfl rfl) <| o_nil <| n_K ?_
    refine s_cond rfl (fun c21 => ?_) (fun c21 => ?_)
    · skip
      have hk : evn o.kind = true := c21
      refine s_seq <| s_region0 fun ops => oM rfl <| oM rfl <| oM rfl <| oM rfl ?_
      refine c_ex rfl (rlose_fn (r := q) hol) sP rfl fun v26 Y26 h26 => ?_
      rcases h26 with ⟨hx, rfl, rfl⟩ | ⟨hx, rfl, q2, hb2, rfl, hu2, hl2, ho2⟩
      all_goals
        refine so_ap aQ ?_
        refine oA rfl <| oA rfl <| oA rfl <| o_nil <| n_K <| s_ret <| r_K ?_
        exact leaf_r (rets3 Tryz.results18 (rv_tmp rfl) (rv_tmp rfl) (rv_tmp rfl)) (by rw [hb]; first | exact ⟨q, false, rfl, rfl, hou, hol, st_l0 hk hx hqu hql⟩ | exact ⟨q, false, rfl, rfl, hou, hol, st_s0 hk hx hqu hql⟩ | exact ⟨q2, true, (by rw [hb2]), rfl, ho2, ho3, st_s1 hk hx hqu hql hu2 hl2⟩ | exact ⟨q2, true, (by rw [hb2]), rfl, (by rw [hu2]; exact hou), ho2, st_l1 hk hx hqu hql (congrArg Sl.list hu2) hl2⟩) sP
    · skip
      have hk : evn o.kind = false := c21
      refine s_skip <| n_K <| s_seq <| s_region0 fun ops => oM rfl <| oM rfl <| oM rfl <| oF rfl ?_
      refine oR (rd_ld rfl mM rfl) ?_
      refine oM rfl ?_
      refine c_ex rfl (rswap_fn (r := q) hou hol (by rw [hqu, hql]; exact hin)) sP rfl fun v33 Y33 h33 => ?_
      rcases h33 with ⟨hx, rfl, rfl⟩ | ⟨hx, rfl, q2, hb2, rfl, hu2, hl2, ho2, ho3⟩
      all_goals
        refine so_ap aQ ?_
        refine oA rfl <| oA rfl <| oA rfl <| o_nil <| n_K <| s_ret ?_
        exact leaf_r (rets3 Tryz.results18 (rv_tmp rfl) (rv_tmp rfl) (rv_tmp rfl)) (by rw [hb]; first | exact ⟨q, false, rfl, rfl, hou, hol, st_l0 hk hx hqu hql⟩ | exact ⟨q, false, rfl, rfl, hou, hol, st_s0 hk hx hqu hql⟩ | exact ⟨q2, true, (by rw [hb2]), rfl, ho2, ho3, st_s1 hk hx hqu hql hu2 hl2⟩ | exact ⟨q2, true, (by rw [hb2]), rfl, (by rw [hu2]; exact hou), ho2, st_l1 hk hx hqu hql (congrArg Sl.list hu2) hl2⟩) sP
end
end Go.Proofs.YtdfidkhbldedlaaGreat
end
section
/- Plain laws: tables and the document's. -/
namespace Go.Proofs.YtdfidkhbldedlaaGreat
open Go.K
set_option linter.unusedVariables false
set_option linter.unusedSimpArgs false
/-- A table's plan, of a chip of n blocks. -/
structure WF (n : Nat) (u l : List Int) : Prop where
  n1 : 16 ≤ n
  n2 : n ≤ 40
  un : u.Nodup
  len : u.length + 6 = n
  us : ∀ x ∈ u, 2 ≤ x ∧ x < n ∧ x ∉ l
  ln : l.Nodup
  ls : ∀ x ∈ l, 2 ≤ x ∧ x < n
theorem WF.lost4 {n : Nat} {u l : List Int} (h : WF n u l) : l.length ≤ 4 := by
  have h1 := h.n1
  have := nodup_le (l := u ++ l) (m := (List.range (n - 2)).map fun i => ((i : Nat) : Int) + 2) (by
    rw [List.nodup_append]
    exact ⟨h.un, h.ln, fun a ha b hb e => by subst e; exact (h.us a ha).2.2 hb⟩) (fun x hx => by
      have hr : 2 ≤ x ∧ x < n := by
        rcases List.mem_append.1 hx with h1 | h1
        · have := h.us x h1; exact ⟨this.1, this.2.1⟩
        · exact h.ls x h1
      exact List.mem_map.2 ⟨(x - 2).toNat, List.mem_range.2 (by omega), by omega⟩)
  have h2 := h.len
  simp at this
  omega
theorem WF.okP {n : Nat} {u l : List Int} (h : WF n u l) : OkP n u l :=
  ⟨h.n1, h.n2, h.len, by have := h.lost4; omega, fun x hx => by have := h.us x hx; have := h.n2; omega, fun x hx => by have := h.ls x hx; have := h.n2; omega⟩
theorem spare_n {t : TS} {n : Nat} {b : Int} (h : spareB t n b = true) : 2 ≤ b ∧ b < n ∧ b ∉ t.uses ∧ b ∉ t.lost := by
  unfold spareB at h
  simp only [Bool.and_eq_true, Bool.not_eq_true', decide_eq_true_eq] at h
  obtain ⟨⟨⟨h1, h2⟩, h3⟩, h4⟩ := h
  exact ⟨h1, h2, fun e => (by rw [has_mem.2 e] at h3; cases h3), fun e => (by rw [has_mem.2 e] at h4; cases h4)⟩
theorem WF.lose {n : Nat} {t : TS} {b : Int} {l : List Int} (h : WF n t.uses t.lost) (hb : spareB t n b = true) (hp : l.Perm (t.lost ++ [b])) : WF n t.uses l := by
  obtain ⟨b1, b2, b3, b4⟩ := spare_n hb
  have hm : ∀ x, x ∈ l ↔ x ∈ t.lost ∨ x = b := fun x => by rw [hp.mem_iff]; simp
  refine ⟨h.n1, h.n2, h.un, h.len, fun x hx => ?_, hp.nodup_iff.2 (nodup_snoc h.ln b4), fun x hx => ?_⟩
  · obtain ⟨h1, h2, h4⟩ := h.us x hx
    exact ⟨h1, h2, fun e => by rcases (hm x).1 e with e | e; exact h4 e; subst e; exact b3 hx⟩
  · rcases (hm x).1 hx with e | e
    · exact h.ls x e
    · subst e; exact ⟨b1, b2⟩
theorem at0_mem {l : List Int} {i : Int} (hi : 0 ≤ i ∧ i < l.length) : at0 l i ∈ l := List.mem_of_getElem? (at0_get hi.1 hi.2)
theorem WF.swap {n : Nat} {t : TS} {b i : Int} {l : List Int} (h : WF n t.uses t.lost) (hi : 0 ≤ i ∧ i < t.uses.length) (hb : spareB t n b = true) (hp : l.Perm (t.lost ++ [at0 t.uses i])) : WF n (t.uses.set i.toNat b) l := by
  obtain ⟨b1, b2, b3, b4⟩ := spare_n hb
  have hlt : i.toNat < t.uses.length := by omega
  have hat : at0 t.uses i = t.uses[i.toNat] := by simp [at0, List.getD_eq_getElem?_getD, hlt]
  rw [hat] at hp
  have hu := h.us _ (List.getElem_mem hlt)
  have hm : ∀ x, x ∈ l ↔ x ∈ t.lost ∨ x = t.uses[i.toNat] := fun x => by rw [hp.mem_iff]; simp
  refine ⟨h.n1, h.n2, nodup_set h.un b3, by rw [List.length_set]; exact h.len, fun x hx => ?_, hp.nodup_iff.2 (nodup_snoc h.ln hu.2.2), fun x hx => ?_⟩
  · rcases mem_set h.un hlt hx with e | ⟨e, hne⟩
    · subst e
      exact ⟨b1, b2, fun e => by rcases (hm _).1 e with e | e; exact b4 e; exact b3 (by rw [e]; exact List.getElem_mem hlt)⟩
    · obtain ⟨h1, h2, h4⟩ := h.us x e
      exact ⟨h1, h2, fun e => by rcases (hm x).1 e with e | e; exact h4 e; exact hne e⟩
  · rcases (hm x).1 hx with e | e
    · exact h.ls x e
    · subst e; exact ⟨hu.1, hu.2.1⟩
theorem has_perm {l m : List Int} (h : l.Perm m) (x : Int) : hasI l x = hasI m x := by
  cases h1 : hasI m x with
  | true => exact has_mem.2 (h.mem_iff.2 (has_mem.1 h1))
  | false =>
    cases h2 : hasI l x with
    | false => rfl
    | true => rw [has_mem.2 (h.mem_iff.1 (has_mem.1 h2))] at h1; cases h1
theorem RelT.of {t t' : TS} {u : List Int} {l : List Bool} {n : Nat} (h : RelT t u l n) (h1 : t'.uses = t.uses) (h2 : t'.lost = t.lost) : RelT t' u l n :=
  ⟨by rw [h1]; exact h.uu, h.ll, by rw [h2]; exact h.lo, by rw [h2]; exact h.ln, by rw [h2]; exact h.lr⟩
theorem RelT.mark {t t' : TS} {u u' : List Int} {l : List Bool} {n : Nat} {x : Int} {lost : List Int} (h : RelT t u l n) (hx : 0 ≤ x ∧ x < n) (hp : lost.Perm (t.lost ++ [x])) (hn : lost.Nodup) (h1 : t'.uses = u') (h2 : t'.lost = lost) : RelT t' u' (l.set x.toNat true) n := by
  have hm : ∀ y, y ∈ lost ↔ y ∈ t.lost ∨ y = x := fun y => by rw [hp.mem_iff]; simp
  refine ⟨h1.symm, by rw [List.length_set]; exact h.ll, fun b h3 h4 => ?_, by rw [h2]; exact hn, fun y hy => ?_⟩
  · rw [h2, has_perm hp, has_snoc, ← h.lo b h3 h4]
    unfold atB
    rw [List.getD_eq_getElem?_getD, List.getD_eq_getElem?_getD, List.getElem?_set]
    have hll := h.ll
    by_cases e : x = b
    · subst e
      rw [if_pos rfl, if_pos (by omega)]
      simp
    · rw [if_neg (by omega)]
      simp [e]
  · rw [h2] at hy
    rcases (hm y).1 hy with e | e
    · exact h.lr y e
    · subst e; exact hx
/-- A step of the document's table, and the call. -/
theorem do_step {t : TS} {c : Chip} {u u' : List Int} {l l' : List Bool} {o : OpV} {b : Int} {ok : Bool} {r : Int × TS × Chip} (hr : RelT t u l c.blocks.length) (hw : WF c.blocks.length t.uses t.lost) (hs : StepR u l o b ok u' l') (hd : DoD t c o b r) :
    (ok = false ∧ r = (1, t, c)) ∨ (ok = true ∧ ∃ lost, r = keepC t u' lost c ∧ WF c.blocks.length u' lost ∧ lost.length = t.lost.length + 1 ∧ ∀ t' : TS, t'.uses = u' → t'.lost = lost → RelT t' u' l' c.blocks.length) := by
  have hsp := hr.spare b
  have huu := hr.uu
  cases hk : evn o.kind with
  | true =>
    obtain ⟨s1, s2, s3⟩ := hs.1 hk
    obtain ⟨d1, d2⟩ := hd.1 hk
    cases hx : spareB t c.blocks.length b with
    | false =>
      rw [hsp, hx] at s1
      exact .inl ⟨s1, d2 hx⟩
    | true =>
      rw [hsp, hx] at s1
      subst s1
      obtain ⟨lost, hp, rfl⟩ := d1 hx
      have hw' := hw.lose hx hp
      rw [if_pos rfl] at s3
      have hb := spare_n hx
      refine .inr ⟨rfl, lost, by rw [s2, huu], by rw [s2, huu]; exact hw', by rw [hp.length_eq]; simp, fun t' h1 h2 => ?_⟩
      rw [s3]
      exact hr.mark (by omega) hp hw'.ln h1 h2
  | false =>
    obtain ⟨s1, s2, s3⟩ := hs.2 hk
    obtain ⟨d1, d2⟩ := hd.2 hk
    have hat : (atT t o.logical).2 = !(decide (o.logical < 0) || decide ((t.uses.length : Int) ≤ o.logical)) := by
      unfold atT
      split
      · rename_i h; rw [h]; rfl
      · rename_i h
        cases h2 : (decide (o.logical < 0) || decide ((t.uses.length : Int) ≤ o.logical)) with
        | true => exact absurd h2 h
        | false => rfl
    have hok : ok = ((atT t o.logical).2 && spareB t c.blocks.length b) := by
      rw [s1, hsp, hat, huu]
      cases (decide (o.logical < 0) || decide ((t.uses.length : Int) ≤ o.logical)) <;> cases spareB t c.blocks.length b <;> rfl
    cases hx : ((atT t o.logical).2 && spareB t c.blocks.length b) with
    | false =>
      rw [hx] at hok
      exact .inl ⟨hok, d2 hx⟩
    | true =>
      rw [hx] at hok
      subst hok
      obtain ⟨lost, hp, rfl⟩ := d1 hx
      simp only [Bool.and_eq_true] at hx
      have hi : 0 ≤ o.logical ∧ o.logical < t.uses.length := by
        have := hx.1
        rw [hat] at this
        simp at this
        omega
      have hw' := hw.swap hi hx.2 hp
      rw [if_pos rfl] at s2 s3
      have hxu := hw.us _ (at0_mem hi)
      refine .inr ⟨rfl, lost, by rw [s2, huu], by rw [s2, huu]; exact hw', by rw [hp.length_eq]; simp, fun t' h1 h2 => ?_⟩
      rw [s3, huu]
      exact hr.mark (by omega) hp hw'.ln h1 h2
/-- All that is known between two calls of a script: k calls were made. -/
structure JI (c : Chip) (t : TS) (u : List Int) (l : List Bool) (n k : Nat) : Prop where
  up : Up c
  ti : TI c t
  rel : RelT t u l n
  wf : WF n t.uses t.lost
  len : c.blocks.length = n
  ver : t.version.toNat ≤ k + 1
  cnt : Cnt c (1000 * k + 1000)
  pf : c.pf.list = []
  wfl : c.wf.list = []
  af : c.after < 0
theorem JI.keep {c : Chip} {t : TS} {u u' lost : List Int} {l l' : List Bool} {n k : Nat} {e : Int} {t' : TS} {c' : Chip} (h : JI c t u l n k) (hk : k ≤ 1000) (hr : (e, t', c') = keepC t u' lost c) (hw : WF n u' lost) (hrel : ∀ t' : TS, t'.uses = u' → t'.lost = lost → RelT t' u' l' n) : e = 0 ∧ JI c' t' u' l' n (k + 1) := by
  have hfp : FP c ≤ 7 := by unfold FP; rw [h.pf]; simp
  have hfw : FW c ≤ 3 := by unfold FW; rw [h.wfl]; simp
  obtain ⟨e2, t2, c2, h1, h2, h3, h4⟩ := keep_hold (u := u') (l := lost) (B := 1000 * k + 1000) h.up h.ti (by have := h.ver; omega) (by rw [h.len]; exact hw.okP) hfp hfw h.cnt (by omega)
  rw [h1] at hr
  simp only [Prod.mk.injEq] at hr
  obtain ⟨rfl, rfl, rfl⟩ := hr
  rcases h4 with ⟨h5, h6, h7, h8, h9, h10⟩ | ⟨_, _, h5, _⟩
  · refine ⟨h5, h6, h7, hrel _ h8 h9, by rw [h8, h9]; exact hw, h2.len.trans h.len, by have := h.ver; omega, ?_, by rw [h2.pf]; exact h.pf, by rw [h2.wf]; exact h.wfl, by rw [(h2.pos h.af).1]; exact h.af⟩
    have p := h3.p0
    have q := h3.w0
    exact ⟨by push_cast; omega, by push_cast; omega⟩
  · exact absurd h.af h5
theorem JI.mono {c : Chip} {t : TS} {u : List Int} {l : List Bool} {n k : Nat} (h : JI c t u l n k) : JI c t u l n (k + 1) :=
  ⟨h.up, h.ti, h.rel, h.wf, h.len, by have := h.ver; omega, ⟨by have := h.cnt.p0; push_cast; omega, by have := h.cnt.w0; push_cast; omega⟩, h.pf, h.wfl, h.af⟩
/-- The table that is opened behind it. -/
theorem JI.open {c : Chip} {t : TS} {u : List Int} {l : List Bool} {n k : Nat} (h : JI c t u l n k) : ∃ t', openC c = (0, t') ∧ JI c t' u l n k := by
  obtain ⟨a, ha, hh, _⟩ := h.ti
  obtain ⟨t', h1, h2, h3, h4, h5⟩ := open_hold h.up hh
  exact ⟨t', h1, h.up, h2, h.rel.of h3 h4, by rw [h3, h4]; exact h.wf, h.len, by rw [h5]; exact h.ver, h.cnt, h.pf, h.wfl, h.af⟩
theorem JI.refS {c : Chip} {t : TS} {u : List Int} {l : List Bool} {n k : Nat} (h : JI c t u l n k) : u.length ≤ 1000 ∧ l.length ≤ 1000 ∧ ∀ x ∈ u, 0 ≤ x ∧ x < l.length := by
  have h1 := h.wf.n2
  have h2 := h.wf.len
  have h3 := h.rel.uu
  have h4 := h.rel.ll
  refine ⟨by rw [h3]; omega, by omega, fun x hx => ?_⟩
  rw [h3] at hx
  have := h.wf.us x hx
  omega
theorem JI.tabS {c : Chip} {t : Tab} {u : List Int} {l : List Bool} {n k : Nat} (h : JI c t.ts u l n k) : t.u.list.length ≤ 1000 ∧ t.l.list.length ≤ 11 ∧ 0 ≤ t.next ∧ (0 ≤ t.area ∧ t.area ≤ 1) := by
  have h1 := h.wf.n2
  have h2 : t.u.list.length + 6 = n := h.wf.len
  have h3 : t.l.list.length ≤ 4 := h.wf.lost4
  obtain ⟨a, h4, h5, b, h6, h7, h8⟩ := h.ti
  have h9 := h5.a2
  have h10 : t.area = a := h4
  have h11 : 0 ≤ t.next := h7
  omega
/-! a new chip -/
section
variable {aP aC aB n : Nat} {bad : List Int}
theorem badL_at {i : Int} (h : 0 ≤ i ∧ i < n) : atB (badL n bad) i = hasI bad i := by
  have : i.toNat < (badL n bad).length := by rw [badL_len]; omega
  simp only [atB, List.getD_eq_getElem?_getD, List.getElem?_eq_getElem this, Option.getD_some]
  simp only [badL, List.getElem_map, List.getElem_range]
  congr 1; omega
theorem fmtV_eq (hn : 2 ≤ n) (size : Int) : ∀ i, i ≤ n → fmtV (badL n bad) size i = (fmtU (newG (-1) 0 aP aC aB n bad) size i).1
  | 0, _ => rfl
  | i + 1, h => by
    have ih := fmtV_eq hn size i (by omega)
    have hb : badB (newG (-1) 0 aP aC aB n bad) (i : Nat) = atB (badL n bad) (i : Nat) := by rw [new_bad (by omega), badL_at (by omega)]
    unfold fmtV fmtU
    simp only []
    rw [hb, ih]
    split
    · rfl
    · split <;> rfl
theorem new_size (hn : 16 ≤ n ∧ n ≤ 40) : fmtSize (newG (-1) 0 aP aC aB n bad) = (n : Int) - 6 := by
  unfold fmtSize
  rw [new_len, w64_in (x := (n : Int) - 2) (by omega), w64_in (by omega)]
  omega
theorem new_uses (hn : 16 ≤ n ∧ n ≤ 40) : (fmtT (newG (-1) 0 aP aC aB n bad)).uses = fmtV (badL n bad) ((n : Int) - 6) n := by
  rw [fmtT_uses, new_size hn, new_len, fmtV_eq (aP := aP) (aC := aC) (aB := aB) (by omega) _ n (Nat.le_refl _)]
theorem new_fmtX (hn : 16 ≤ n ∧ n ≤ 40) : fmtBad (newG (-1) 0 aP aC aB n bad) = fmtX (badL n bad) := by
  unfold fmtBad fmtX
  rw [new_bad (by omega), new_bad (by omega), new_size hn, new_uses hn, badL_len, badL_at (by omega), badL_at (by omega)]
theorem new_JI (hn : 16 ≤ n ∧ n ≤ 40) (hx : fmtX (badL n bad) = false) : ∃ t c', formatC (newG (-1) 0 aP aC aB n bad) = (0, t, c') ∧ JI c' t (fmtV (badL n bad) ((n : Int) - 6) n) (badL n bad) n 0 ∧ c'.aC = aC ∧ c'.aP = aP := by
  have hnb : fmtBad (newG (-1) 0 aP aC aB n bad) = false := (new_fmtX hn).trans hx
  have hI := fmtI (newG (-1) 0 aP aC aB n bad) (size := (n : Int) - 6) (by omega) n
  have hu := new_uses (aP := aP) (aC := aC) (aB := aB) (bad := bad) hn
  have hl : (fmtT (newG (-1) 0 aP aC aB n bad)).lost = (fmtU (newG (-1) 0 aP aC aB n bad) ((n : Int) - 6) n).2 := by rw [fmtT_lost, new_size hn, new_len]
  rw [← fmtV_eq (by omega) _ n (Nat.le_refl _), ← hl] at hI
  obtain ⟨c', h1, h2⟩ := new_format (after := -1) (keep := 0) (aP := aP) (aC := aC) (aB := aB) (n := n) (bad := bad) (by omega) (by omega) hnb
  rw [hu] at h1 h2
  generalize (fmtT (newG (-1) 0 aP aC aB n bad)).lost = lost at *
  generalize hus : fmtV (badL n bad) ((n : Int) - 6) n = us at *
  have hbd : ∀ x : Int, 0 ≤ x → x < n → badB (newG (-1) 0 aP aC aB n bad) x = hasI bad x := fun x h2 h3 => new_bad (by omega)
  have hx2 : hasI bad 0 = false ∧ hasI bad 1 = false ∧ ¬ ((us.length : Int) < (n : Int) - 6) := by
    unfold fmtX at hx
    rw [badL_len, hus, badL_at (by omega), badL_at (by omega)] at hx
    simp only [Bool.or_eq_false_iff, decide_eq_false_iff_not] at hx
    exact ⟨hx.1.1, hx.1.2, hx.2⟩
  obtain ⟨hb0, hb1, hlen⟩ := hx2
  have hlo : ∀ x ∈ lost, 2 ≤ x ∧ x < n := fun x hx => by
    have := hI.ls x hx
    rw [hbd x this.1 this.2.1] at this
    refine ⟨?_, this.2.1⟩
    rcases (show x < 2 ∨ 2 ≤ x by omega) with h | h
    · rcases (show x = 0 ∨ x = 1 by omega) with rfl | rfl
      · rw [hb0] at this; exact absurd this.2.2 (by simp)
      · rw [hb1] at this; exact absurd this.2.2 (by simp)
    · exact h
  have hw : WF n us lost := ⟨hn.1, hn.2, hI.un, by have := hI.len; omega, fun x hx => by
    have := hI.us x hx
    exact ⟨this.1, this.2.1, fun h => by have h5 := (hI.ls x h).2.2; rw [this.2.2] at h5; cases h5⟩, hI.ln, hlo⟩
  have hrel : RelT ⟨us, lost, 1, 0, 1, 0⟩ us (badL n bad) n := ⟨rfl, badL_len _ _, fun b h3 h4 => by
    rw [badL_at ⟨h3, h4⟩]
    show hasI bad b = hasI lost b
    have hb := hbd b h3 h4
    cases hh : hasI bad b with
    | true => rw [hh] at hb; exact (has_mem.2 (hI.lb b h3 h4 hb)).symm
    | false =>
      rw [hh] at hb
      cases h5 : hasI lost b with
      | false => rfl
      | true => (have := (hI.ls b (has_mem.1 h5)).2.2; rw [hb] at this; cases this), hI.ln, fun x hx => by have := hlo x hx; omega⟩
  have hblk : ∀ k < 2, (newG (-1) 0 aP aC aB n bad).blocks[k]? = some (newB false) := fun k hk => by
    rw [new_block (by omega)]
    rcases (show k = 0 ∨ k = 1 by omega) with rfl | rfl
    · rw [show (((0 : Nat) : Int)) = 0 from rfl, hb0]
    · rw [show (((1 : Nat) : Int)) = 1 from rfl, hb1]
  have hlen' : c'.blocks.length = n := by rw [h2, prg_len, new_len]
  have hc0 : c'.blocks[0]? = some ⟨(newB false).pages.setIfInBounds 0 (planP 1 n us lost), 1, false⟩ := by
    rw [h2]
    exact prg_same (by rw [new_len]; omega)
  have hc1 : c'.blocks[1]? = some (newB false) := by
    rw [h2, prg_other (by omega)]
    exact hblk 1 (by omega)
  have hnp : ∀ (j : Nat) (h : j < 8), (newB false).pages[j] = blankP := fun j h => by simp [newB]
  have hp0 : ∀ (j : Nat) (h : j < 8), ((newB false).pages.setIfInBounds 0 (planP 1 n us lost))[j] = if 0 = j then planP 1 n us lost else blankP := fun j h => by
    rw [Vector.getElem_setIfInBounds]
    split
    · rfl
    · exact hnp j h
  have hrp : RP n (planP 1 n us lost) = some (1, us, lost) := rp_plan hw.okP
  have hg : c'.off = false ∧ c'.dead = false ∧ c'.out = false ∧ c'.after < 0 ∧ c'.pf.list = [] ∧ c'.wf.list = [] ∧ c'.pc = 1 ∧ c'.wc = 0 ∧ c'.aC = aC ∧ c'.aP = aP := by
    rw [h2]
    refine ⟨rfl, rfl, rfl, by show (-1 : Int) < 0; omega, rfl, rfl, ?_, rfl, rfl, rfl⟩
    show w64 (0 + 1) = 1
    exact w64_in (by omega)
  obtain ⟨g1, g2, g3, g4, g5, g6, g7, g8, g9, g10⟩ := hg
  refine ⟨_, c', h1, ⟨⟨g1, g2, g3⟩, ⟨0, rfl, ⟨?_, by omega, fun k hk => ?_, fun k hk b hb j hj w u l hr => ?_, ?_⟩, _, hc0, (show (0 : Int) ≤ 1 by decide), (show (1 : Int) ≤ 1 by decide)⟩, hrel, hw, hlen', (show (1#64).toNat ≤ 0 + 1 by decide), ⟨by rw [g7]; omega, by rw [g8]; omega⟩, g5, g6, g4⟩, g9, g10⟩
  · rw [hlen']; exact hw.okP
  · rcases (show k = 0 ∨ k = 1 by omega) with rfl | rfl
    · exact ⟨_, hc0, ⟨⟨by simp, by simp⟩, fun j hj hle => by simp only at hle ⊢; rw [hp0 j hj, if_neg (by omega)]⟩, rfl⟩
    · exact ⟨_, hc1, ⟨⟨by simp [newB], by simp [newB]⟩, fun j hj _ => hnp j hj⟩, rfl⟩
  · rw [hlen'] at hr
    rcases (show k = 0 ∨ k = 1 by omega) with rfl | rfl
    · rw [hc0] at hb
      cases hb
      simp only at hr
      rw [hp0 j hj] at hr
      split at hr
      · rw [hrp] at hr
        simp only [Option.some.injEq, Prod.mk.injEq] at hr
        obtain ⟨rfl, rfl, rfl⟩ := hr
        exact ⟨Nat.le_refl _, fun _ => ⟨rfl, rfl⟩⟩
      · rw [rp_blank] at hr; cases hr
    · rw [hc1] at hb
      cases hb
      rw [hnp j hj, rp_blank] at hr; cases hr
  · refine ⟨_, hc0, 0, by omega, ?_⟩
    rw [hlen']
    simp only
    rw [hp0 0 (by omega), if_pos rfl]
    exact hrp
end
end Go.Proofs.YtdfidkhbldedlaaGreat
end
section
/- Walk of the law BbtPlays. -/
namespace Go.Proofs.YtdfidkhbldedlaaGreat
open Go.K
set_option linter.unusedVariables false
set_option linter.unusedSimpArgs false
instance und23 : Und Tryz.prog 23 (.slice 39) := ⟨Tryz.underlying23⟩
instance agg23 : Agg Tryz.prog 23 false := ⟨⟨_, Tryz.underlying23, rfl⟩⟩
instance siz23 : Siz Tryz.prog 23 1 := ⟨by kernel_rfl⟩
instance und34 : Und Tryz.prog 34 (.pointer 108) := ⟨Tryz.underlying34⟩
instance agg34 : Agg Tryz.prog 34 false := ⟨⟨_, Tryz.underlying34, rfl⟩⟩
instance siz34 : Siz Tryz.prog 34 1 := ⟨by kernel_rfl⟩
instance zer39 : Zer Tryz.prog 39 ([.int .i64 0, .int .i64 0, .int .i64 0, .bool false, .int .i64 0]) := ⟨by kernel_rfl⟩
instance ent3 : Ent Tryz.prog 3 := ⟨fun _ _ => by kernel_rfl⟩
theorem format_b {c : Chip} {a : Nat} (ha : c.aC = a) (hb : 2 ≤ c.blocks.length ∧ c.blocks.length ≤ 1000) : Does Tryz.prog 15 [ptr a] (chH c) (FormatR a c) := by subst ha; exact format_fn hb
theorem open_b {c : Chip} {a : Nat} (ha : c.aC = a) (hb : 2 ≤ c.blocks.length ∧ c.blocks.length ≤ 1000) {t : TS} (ho : openC c = (0, t)) : Does Tryz.prog 21 [ptr a] (chH c) (fun v H => ∃ tb : Tab, v = .tuple #[ptr tb.b, .int .i64 0] ∧ H = tabH a tb ++ (chH c ++ []) ∧ tb.ts = t) := by
  subst ha
  refine (open_fn hb).mono fun v H h => ?_
  unfold OpenR at h
  rw [ho, if_pos rfl] at h
  exact h
theorem fails_format {aP aC aB n : Nat} {bad : List Int} (hn : 16 ≤ n ∧ n ≤ 40) (hx : fmtX (badL n bad) = true) : formatC (newG (-1) 0 aP aC aB n bad) = (34, ts0, newG (-1) 0 aP aC aB n bad) := by
  unfold formatC
  rw [if_neg (by rw [new_may (by omega) (by omega)]; simp), if_pos ((new_fmtX hn).trans hx)]
theorem okNew_bad {n : Int} {bad : List Int} (h : okNew n bad = true) : ∀ x ∈ bad, 0 ≤ x ∧ x < n := fun x hx => by
  unfold okNew at h
  simp only [Bool.and_eq_true] at h
  have := List.all_eq_true.1 h.2 x hx
  simpa using this
/-- A new chip is given a table. -/
theorem formatJ_fn {pp aC aB m : Nat} {bad : List Int} (hm : 16 ≤ m ∧ m ≤ 40) : Does Tryz.prog 15 [ptr aC] (chH (newG (-1) 0 pp aC aB m bad))
    (fun v H => (fmtX (badL m bad) = false ∧ ∃ (tb : Tab) (c' : Chip), v = .tuple #[ptr tb.b, .int .i64 0] ∧ H = tabH aC tb ++ (chH c' ++ []) ∧ c'.aC = aC ∧ c'.aP = pp ∧ JI c' tb.ts (fmtV (badL m bad) ((m : Int) - 6) m) (badL m bad) m 0) ∨
      (fmtX (badL m bad) = true ∧ v = .tuple #[.pointer none, .int .i64 34] ∧ H = chH (newG (-1) 0 pp aC aB m bad) ++ [])) := by
  have hlen : (newG (-1) 0 pp aC aB m bad).blocks.length = m := new_len
  refine (format_b (c := newG (-1) 0 pp aC aB m bad) (a := aC) rfl (by rw [hlen]; omega)).mono fun v H h => ?_
  cases hx : fmtX (badL m bad) with
  | false =>
    obtain ⟨t, c', h1, h2, h3, h4⟩ := new_JI (aP := pp) (aC := aC) (aB := aB) hm hx
    unfold FormatR at h
    rw [h1] at h
    rcases h with ⟨tb, rfl, rfl, h5, _⟩ | ⟨_, _, h6⟩
    · exact .inl ⟨rfl, tb, c', rfl, rfl, h3, h4, by rw [h5]; exact h2⟩
    · exact absurd rfl h6
  | true =>
    have h1 := fails_format (aP := pp) (aC := aC) (aB := aB) hm hx
    unfold FormatR at h
    rw [h1] at h
    rcases h with ⟨_, _, _, _, h5⟩ | ⟨rfl, rfl, _⟩
    · cases h5
    · exact .inr ⟨rfl, rfl, rfl⟩
theorem sameJ_fn {c : Chip} {t : Tab} {r : RTab} {a n k : Nat} (ha : c.aC = a) (h : JI c t.ts r.u.list r.l.list n k) : Does Tryz.prog 20 [ptr t.b, ptr r.b] (tabH a t ++ (chH c ++ (refH r ++ []))) (Is (.bool true) (tabH a t ++ (chH c ++ (refH r ++ [])))) :=
  (same_fn ha (by have := h.len; have := h.wf.n2; omega) h.refS.1).mono fun v H ⟨x, h1, h2, h3, _⟩ => ⟨by rw [h1, h3 (by rw [h.len]; exact h.rel)], h2⟩
theorem doJ_fn {c : Chip} {t : Tab} {a n k : Nat} {u u' : List Int} {l l' : List Bool} {o : OpV} {b : Int} {ok : Bool} (ha : c.aC = a) (h : JI c t.ts u l n k) (hk : k ≤ 1000) (hst : StepR u l o b ok u' l') :
    Does Tryz.prog 19 [ptr t.b, .agg (opC o).toArray, .int .i64 b] (tabH a t ++ (chH c ++ []))
    (fun v H => (ok = false ∧ v = .int .i64 1 ∧ ∃ (t' : Tab) (c' : Chip), t'.b = t.b ∧ H = tabH a t' ++ (chH c' ++ []) ∧ c'.aC = a ∧ JI c' t'.ts u l n (k + 1)) ∨
      (ok = true ∧ v = .int .i64 0 ∧ ∃ (t' : Tab) (c' : Chip), t'.b = t.b ∧ H = tabH a t' ++ (chH c' ++ []) ∧ c'.aC = a ∧ JI c' t'.ts u' l' n (k + 1))) := by
  obtain ⟨s1, s2, s3, s4⟩ := h.tabS
  refine (do_fn (o := o) (b := b) ha s1 s2 s3 s4).mono fun v H ⟨t', e, c', h1, h2, h3, h4, h5⟩ => ?_
  have hlen := h.len
  rcases do_step (by rw [hlen]; exact h.rel) (by rw [hlen]; exact h.wf) hst h5 with ⟨hok, hr⟩ | ⟨hok, lost, hr, hw, _, hrel⟩
  · simp only [Prod.mk.injEq] at hr
    obtain ⟨rfl, hts, rfl⟩ := hr
    exact .inl ⟨hok, h2, t', c', h1, h3, h4, by rw [hts]; exact h.mono⟩
  · rw [hlen] at hw hrel
    obtain ⟨rfl, hJ⟩ := h.keep hk hr hw hrel
    exact .inr ⟨hok, h2, t', c', h1, h3, h4, hJ⟩
theorem plays_fn {n : Int} {s : Sl Int} {sc : Sl OpV} : Does Tryz.prog 3 [.int .i64 n, s.val, sc.val] (s.hp tI ++ (sc.hp tOp ++ [])) (fun v H => v = .bool true) := by
  refine fn_enter (n := 128) Tryz.func3 Tryz.ntmps3 rfl (Nat.le_of_ble_eq_true rfl) <| s_seq <| s_region0 fun ops => oA rfl <| o_nil <| n_K <| s_seq <| s_seq <| s_region0 fun ops => ?_
  refine c_is rfl (speaks_fn) sP rfl aQ ?_
  refine oR (rd_not rfl) <| o_nil <| n_K ?_
  refine s_condF rfl ?_
  refine s_skip <| n_K <| s_seq <| s_seq ?_
  refine s_region [(3, 25)] rfl fun ops y => ?_
  refine oM rfl <| oR (rd_lenS rfl) <| oR (rd_bin rfl rfl rfl) <| oM rfl ?_
  refine' o_or (j := 3) (k := 3) y rfl rfl rfl rfl rfl rfl rfl (fun hg25 => ?_) ?_
  rotate_left
  · try (simp at hg25; show _)
    refine o_g y rfl rfl ?_
    refine oM rfl ?_
    refine o_g y rfl rfl ?_
    refine oR (rd_lenS rfl) ?_
    refine o_g y rfl rfl ?_
    refine oR (rd_bin rfl rfl rfl) ?_
    exact o_nil ⟨rfl, rfl, ⟨_, sP⟩⟩
  refine o_nil <| n_K ?_
  refine s_cond rfl (fun c29 => ?_) (fun c29 => ?_)
  · skip
    refine s_seq <| s_region0 fun ops => oA rfl <| o_nil <| n_K <| s_ret <| r_K ?_
    exact leaf_r (rets1 Tryz.results3 (rv_tmp rfl)) (by rfl) sP
  · skip
    have hsc : sc.list.length ≤ 30 ∧ s.list.length ≤ 20 := (by simp at c29; omega)
    refine s_skip <| n_K <| s_seq <| s_region0 fun ops => ?_
    refine c_ex rfl (newPower_fn) sP rfl fun v31 Y31 h31 => ?_
    obtain ⟨p31, rfl, rfl⟩ := h31
    refine so_ap aQ ?_
    refine oM rfl <| oM rfl ?_
    refine c_ex rfl (new2_fn (n := n) (s := s) (T := tI)) sP rfl fun v34 Y34 h34 => ?_
    rcases h34 with ⟨aC, aB, rfl, rfl, ok⟩ | ⟨rfl, rfl, ok⟩
    all_goals
      refine so_ap aQ ?_
      refine oM rfl <| oE rfl rfl <| oE rfl rfl <| oA rfl <| oA rfl <| o_nil <| n_K <| s_seq <| s_seq <| s_region0 fun ops => oM rfl <| oR (rd_eqNil rfl rfl) <| o_nil <| n_K ?_
      refine s_cond rfl (fun c38 => ?_) (fun c38 => ?_)
      · skip
        try (exfalso; (cases c38); done)
        all_goals
          refine s_seq <| s_region0 fun ops => oA rfl <| o_nil <| n_K <| s_ret <| r_K ?_
          exact leaf_r (rets1 Tryz.results3 (rv_tmp rfl)) (by rfl) sP
      · skip
        try (exfalso; (cases c38); done)
        all_goals
          have hn := okNew_in ok
          have hbad := okNew_bad ok
          obtain ⟨m, hm⟩ : ∃ m : Nat, n = m := ⟨n.toNat, by omega⟩
          subst hm
          have hm2 : 16 ≤ m ∧ m ≤ 40 := (by omega)
          rw [Int.toNat_natCast]
          refine s_skip <| n_K <| s_seq <| s_region0 fun ops => oM rfl ?_
          refine c_ex rfl (formatJ_fn (pp := p31) (aC := aC) (aB := aB) (bad := s.list) hm2) sP rfl fun v41 Y41 h41 => ?_
          rcases h41 with ⟨hX, t, c', rfl, rfl, a1, a2, a3⟩ | ⟨hX, rfl, rfl⟩
          all_goals
            refine so_ap aQ ?_
            refine oM rfl <| oE rfl rfl <| oE rfl rfl <| oA rfl <| oA rfl <| o_nil <| n_K <| s_seq <| s_region0 fun ops => oM rfl <| oM rfl ?_
            refine c_ex rfl (bads_fn (n := (m : Int)) (s := s) (by omega) hbad) sP rfl fun v46 Y46 h46 => ?_
            obtain ⟨bl, rfl, rfl, hbl, hob⟩ := h46
            refine so_ap aQ ?_
            refine c_ex rfl (rformat_fn (s := bl) (by rw [hbl, Int.toNat_natCast, badL_len]; omega)) sP rfl fun v47 Y47 h47 => ?_
            rcases h47 with ⟨hx, r, rfl, rfl, hru, hrl, hou, hol⟩ | ⟨hx, rfl, rfl⟩
            all_goals
              refine so_ap aQ ?_
              refine oA rfl <| o_nil <| n_K <| s_seq <| s_seq ?_
              refine s_region [(5, 53), (12, 60)] rfl fun ops y => ?_
              refine oM rfl <| oR (rd_eqNil rfl rfl) <| oM rfl <| oR (rd_eqNil rfl rfl) <| oR (rd_neB rfl rfl) <| oM rfl ?_
              refine' o_or (j := 5) (k := 5) y rfl rfl rfl rfl rfl rfl rfl (fun hg53 => ?_) ?_
              rotate_left
              · try (simp at hg53; show _)
                refine o_g y rfl rfl ?_
                refine oM rfl ?_
                refine o_g y rfl rfl ?_
                refine oR (rd_bin rfl rfl rfl) ?_
                refine o_g y rfl rfl ?_
                refine oM rfl ?_
                refine o_g y rfl rfl ?_
                refine oR (rd_neNil rfl rfl) ?_
                refine o_g y rfl rfl ?_
                refine oR (rd_neB rfl rfl) ?_
                exact o_nil ⟨rfl, rfl, ⟨_, sP⟩⟩
              refine oM rfl ?_
              refine' o_or (j := 12) (k := 2) y rfl rfl rfl rfl rfl rfl rfl (fun hg60 => ?_) ?_
              rotate_left
              · try (simp at hg60; show _)
                refine o_g y rfl rfl ?_
                refine oM rfl ?_
                refine o_g y rfl rfl ?_
                refine oR (rd_eqNil rfl rfl) ?_
                exact o_nil ⟨rfl, rfl, ⟨_, sP⟩⟩
              refine o_nil <| n_K ?_
              refine s_cond rfl (fun c63 => ?_) (fun c63 => ?_)
              · skip
                try (exfalso; (first | (rw [hbl, Int.toNat_natCast, hX] at hx; cases hx; done) | (cases c63; done)); done)
                all_goals
                  refine s_seq ?_
                  refine s_region [(2, 66), (6, 70)] rfl fun ops y => ?_
                  refine oM rfl <| oR (rd_eqNil rfl rfl) <| oM rfl ?_
                  refine' o_and (j := 2) (k := 2) y rfl rfl rfl rfl rfl rfl rfl (fun hg66 => ?_) ?_
                  rotate_left
                  · try (simp at hg66; show _)
                    refine o_g y rfl rfl ?_
                    refine oM rfl ?_
                    refine o_g y rfl rfl ?_
                    refine oR (rd_eqNil rfl rfl) ?_
                    exact o_nil ⟨rfl, rfl, ⟨_, sP⟩⟩
                  refine oM rfl ?_
                  refine' o_and (j := 6) (k := 2) y rfl rfl rfl rfl rfl rfl rfl (fun hg70 => ?_) ?_
                  rotate_left
                  · try (simp at hg70; show _)
                    refine o_g y rfl rfl ?_
                    refine oM rfl ?_
                    refine o_g y rfl rfl ?_
                    refine oR (rd_bin rfl rfl rfl) ?_
                    exact o_nil ⟨rfl, rfl, ⟨_, sP⟩⟩
                  refine oA rfl <| o_nil <| n_K <| s_ret <| r_K ?_
                  exact leaf_r (rets1 Tryz.results3 (rv_tmp rfl)) (by rfl) sP
              · skip
                try (exfalso; (first | (rw [hbl, Int.toNat_natCast, hX] at hx; cases hx; done) | (cases c63; done)); done)
                all_goals
                  rw [hbl, Int.toNat_natCast] at hru hrl
                  rw [badL_len] at hru
                  refine s_skip <| n_K <| s_seq <| s_seq <| s_region0 fun ops => oM rfl <| oR (rd_lenS rfl) <| oM rfl <| o_nil <| n_K <| s_block ?_
                  refine s_loop2 [7, 74, 75] kQ (fun (st : Nat × Tab × Chip × RTab) => [(76, .int .i64 st.1), (9, ptr st.2.1.b), (11, ptr st.2.2.2.b)]) (fun (st : Nat × Tab × Chip × RTab) => tabH aC st.2.1 ++ (chH st.2.2.1 ++ (refH st.2.2.2 ++ (s.hp tI ++ (sc.hp tOp ++ []))))) (fun (st : Nat × Tab × Chip × RTab) => st.1 ≤ sc.list.length ∧ st.2.2.1.aC = aC ∧ JI st.2.2.1 st.2.1.ts st.2.2.2.u.list st.2.2.2.l.list m st.1) (fun (st : Nat × Tab × Chip × RTab) => sc.list.length - st.1) ((0, t, c', r)) ⟨Nat.zero_le _, a1, by rw [hru, hrl]; exact a3⟩ kP sP ?_
                  rintro ⟨i, t1, c1, r1⟩ ⟨g0, g1, g2⟩
                  simp only at g0 g1 g2
                  refine s_seq <| s_region0 fun ops => oR (rd_bin rfl rfl rfl) <| o_nil <| n_K <| s_seq ?_
                  refine s_cond rfl (fun c77 => ?_) (fun c77 => ?_)
                  · simp only [decide_eq_true_eq, decide_eq_false_iff_not] at c77
                    obtain ⟨z, hg⟩ : ∃ z, sc.list[i]? = some z := ⟨_, List.getElem?_eq_getElem (by omega)⟩
                    refine s_skip <| n_K <| s_seq <| s_block <| s_seq <| s_region0 fun ops => ?_
                    refine oR (rd_ixSl rfl rfl (by omega)) ?_
                    refine oR (rd_ldSlA (o := 0) rfl pL hg rfl rfl) ?_
                    refine o_alloc rfl fun b13 => ?_
                    refine o_store rfl rfl uD rfl rfl rfl ?_
                    refine o_nil <| n_K <| s_seq <| s_region0 fun ops => oM rfl ?_
                    refine oR (rd_ldA rfl mM rfl) ?_
                    refine c_ex rfl (step_fn (r := r1) (o := z) (g2.refS).1 (g2.refS).2.1 (g2.refS).2.2) sP rfl fun v83 Y83 h83 => ?_
                    obtain ⟨q, ok1, rfl, rfl, hq1, hq2, hst⟩ := h83
                    refine so_ap aQ ?_
                    refine oM rfl <| oE rfl rfl <| oE rfl rfl <| oE rfl rfl <| oA rfl <| oA rfl <| oA rfl <| o_nil <| n_K <| s_seq <| s_region0 fun ops => oM rfl ?_
                    refine oR (rd_ldA rfl mM rfl) ?_
                    refine oM rfl ?_
                    refine c_ex rfl (doJ_fn (t := t1) (c := c1) (o := z) g1 g2 (by omega) hst) sP rfl fun v90 Y90 h90 => ?_
                    rcases h90 with ⟨rfl, rfl, t', c2, hb', rfl, ha', hJ⟩ | ⟨rfl, rfl, t', c2, hb', rfl, ha', hJ⟩
                    all_goals
                      refine so_ap aQ ?_
                      refine oA rfl <| o_nil <| n_K <| s_seq <| s_seq ?_
                      refine s_region [(4, 95), (7, 98)] rfl fun ops y => ?_
                      refine oM rfl <| oM rfl <| oR (rd_bin rfl rfl rfl) <| oR (rd_neB rfl rfl) <| oM rfl ?_
                      refine' o_or (j := 4) (k := 6) y rfl rfl rfl rfl rfl rfl rfl (fun hg95 => ?_) ?_
                      rotate_left
                      · try (simp at hg95; show _)
                        refine o_g y rfl rfl ?_
                        refine oM rfl ?_
                        refine o_g y rfl rfl ?_
                        refine oR (rd_not rfl) ?_
                        refine o_g y rfl rfl ?_
                        refine oM rfl ?_
                        refine' o_and (j := 7) (k := 2) y rfl rfl rfl rfl rfl rfl rfl (fun hg98 => ?_) ?_
                        rotate_left
                        · try (simp at hg98; show _)
                          refine o_g y rfl rfl ?_
                          refine oM rfl ?_
                          refine o_g y rfl rfl ?_
                          refine oR (rd_bin rfl rfl rfl) ?_
                          exact o_nil ⟨rfl, rfl, ⟨_, sP⟩⟩
                        exact o_nil ⟨rfl, rfl, ⟨_, sP⟩⟩
                      refine o_nil <| n_K ?_
                      refine s_cond rfl (fun c102 => ?_) (fun c102 => ?_)
                      · skip
                        try (exfalso; (cases c102); done)
                        all_goals
                          refine s_seq <| s_region0 fun ops => oA rfl <| o_nil <| n_K <| s_ret <| r_K <| r_blk <| r_K <| r_K <| r_blk <| r_K ?_
                          exact leaf_r (rets1 Tryz.results3 (rv_tmp rfl)) (by rfl) sP
                      · skip
                        rw [← hb']
                        obtain ⟨t3, ho3, hJ3⟩ := hJ.open
                        refine s_skip <| n_K <| s_seq <| s_seq <| s_region0 fun ops => oM rfl <| o_nil <| n_K ?_
                        refine s_cond rfl (fun c103 => ?_) (fun c103 => ?_)
                        · skip
                          try (exfalso; (cases c103); done)
                          all_goals
                            refine s_region0 fun ops => oM rfl <| oA rfl <| o_nil <| n_K <| s_seq <| s_seq <| s_region0 fun ops => oM rfl <| oM rfl ?_
                            refine c_is rfl (sameJ_fn ha' hJ) sP rfl aQ ?_
                            refine oR (rd_not rfl) <| o_nil <| n_K ?_
                            refine s_condF rfl ?_
                            refine s_skip <| n_K <| s_seq <| s_region0 fun ops => oM rfl ?_
                            refine c_ex rfl (open_b ha' (by have := hJ.len; omega) ho3) sP rfl fun v111 Y111 h111 => ?_
                            obtain ⟨tb, rfl, rfl, htb⟩ := h111
                            refine so_ap aQ ?_
                            refine oM rfl <| oE rfl rfl <| oE rfl rfl <| oA rfl <| oA rfl <| o_nil <| n_K <| s_seq <| s_seq ?_
                            refine s_region [(2, 116), (6, 120)] rfl fun ops y => ?_
                            refine oM rfl <| oR (rd_eqNil rfl rfl) <| oM rfl ?_
                            refine' o_or (j := 2) (k := 2) y rfl rfl rfl rfl rfl rfl rfl (fun hg116 => ?_) ?_
                            rotate_left
                            · try (simp at hg116; show _)
                              refine o_g y rfl rfl ?_
                              refine oM rfl ?_
                              refine o_g y rfl rfl ?_
                              refine oR (rd_bin rfl rfl rfl) ?_
                              exact o_nil ⟨rfl, rfl, ⟨_, sP⟩⟩
                            refine oM rfl ?_
                            refine' o_or (j := 6) (k := 4) y rfl rfl rfl rfl rfl rfl rfl (fun hg120 => ?_) ?_
                            rotate_left
                            · try (simp at hg120; show _)
                              refine o_g y rfl rfl ?_
                              refine oM rfl ?_
                              refine o_g y rfl rfl ?_
                              refine oM rfl ?_
                              refine o_g y rfl rfl ?_
                              refine c_is rfl (sameJ_fn (t := tb) ha' (by rw [htb]; exact hJ3)) sP rfl aQ ?_
                              refine o_g y rfl rfl ?_
                              refine oR (rd_not rfl) ?_
                              exact o_nil ⟨rfl, rfl, ⟨_, sP⟩⟩
                            refine o_nil <| n_K ?_
                            refine s_condF rfl ?_
                            refine s_skip <| n_K <| s_region0 fun ops => oM rfl <| oA rfl <| o_nil <| n_blk <| n_K <| s_region0 fun ops => ?_
                            refine oR (rd_add64 rfl rfl (by omega)) ?_
                            refine oM rfl <| o_nil <| n_K ?_
                            first | exact ⟨(i + 1, tb, c2, q), ⟨by simp only; omega, ha', by rw [htb]; exact hJ3⟩, by simp only; omega, lZ⟩ | exact ⟨(i + 1, tb, c2, r1), ⟨by simp only; omega, ha', by rw [htb]; exact hJ3⟩, by simp only; omega, lZ⟩
                        · skip
                          try (exfalso; (cases c103); done)
                          all_goals
                            refine s_skip <| n_K <| s_seq <| s_seq <| s_region0 fun ops => oM rfl <| oM rfl ?_
                            refine c_is rfl (sameJ_fn ha' hJ) sP rfl aQ ?_
                            refine oR (rd_not rfl) <| o_nil <| n_K ?_
                            refine s_condF rfl ?_
                            refine s_skip <| n_K <| s_seq <| s_region0 fun ops => oM rfl ?_
                            refine c_ex rfl (open_b ha' (by have := hJ.len; omega) ho3) sP rfl fun v111 Y111 h111 => ?_
                            obtain ⟨tb, rfl, rfl, htb⟩ := h111
                            refine so_ap aQ ?_
                            refine oM rfl <| oE rfl rfl <| oE rfl rfl <| oA rfl <| oA rfl <| o_nil <| n_K <| s_seq <| s_seq ?_
                            refine s_region [(2, 116), (6, 120)] rfl fun ops y => ?_
                            refine oM rfl <| oR (rd_eqNil rfl rfl) <| oM rfl ?_
                            refine' o_or (j := 2) (k := 2) y rfl rfl rfl rfl rfl rfl rfl (fun hg116 => ?_) ?_
                            rotate_left
                            · try (simp at hg116; show _)
                              refine o_g y rfl rfl ?_
                              refine oM rfl ?_
                              refine o_g y rfl rfl ?_
                              refine oR (rd_bin rfl rfl rfl) ?_
                              exact o_nil ⟨rfl, rfl, ⟨_, sP⟩⟩
                            refine oM rfl ?_
                            refine' o_or (j := 6) (k := 4) y rfl rfl rfl rfl rfl rfl rfl (fun hg120 => ?_) ?_
                            rotate_left
                            · try (simp at hg120; show _)
                              refine o_g y rfl rfl ?_
                              refine oM rfl ?_
                              refine o_g y rfl rfl ?_
                              refine oM rfl ?_
                              refine o_g y rfl rfl ?_
                              refine c_is rfl (sameJ_fn (t := tb) ha' (by rw [htb]; exact hJ3)) sP rfl aQ ?_
                              refine o_g y rfl rfl ?_
                              refine oR (rd_not rfl) ?_
                              exact o_nil ⟨rfl, rfl, ⟨_, sP⟩⟩
                            refine o_nil <| n_K ?_
                            refine s_condF rfl ?_
                            refine s_skip <| n_K <| s_region0 fun ops => oM rfl <| oA rfl <| o_nil <| n_blk <| n_K <| s_region0 fun ops => ?_
                            refine oR (rd_add64 rfl rfl (by omega)) ?_
                            refine oM rfl <| o_nil <| n_K ?_
                            first | exact ⟨(i + 1, tb, c2, q), ⟨by simp only; omega, ha', by rw [htb]; exact hJ3⟩, by simp only; omega, lZ⟩ | exact ⟨(i + 1, tb, c2, r1), ⟨by simp only; omega, ha', by rw [htb]; exact hJ3⟩, by simp only; omega, lZ⟩
                  · simp only [decide_eq_true_eq, decide_eq_false_iff_not] at c77
                    refine s_exit <| x_K <| x_K <| x_blk <| n_K <| s_seq <| s_region0 fun ops => oA rfl <| o_nil <| n_K <| s_ret ?_
                    exact leaf_r (rets1 Tryz.results3 (rv_tmp rfl)) (by rfl) sP
end Go.Proofs.YtdfidkhbldedlaaGreat
end
section
/- Plain laws: what pages of a table's own blocks are, where nothing goes wrong; turned bits in them. -/
namespace Go.Proofs.YtdfidkhbldedlaaGreat
open Go.K
set_option linter.unusedVariables false
set_option linter.unusedSimpArgs false

/-- All pages of the table's own blocks are such. -/
def PgP (c : Chip) (S : Pg → Prop) : Prop := ∀ a < 2, ∀ b, c.blocks[a]? = some b → ∀ (j : Nat) (h : j < 8), S b.pages[j]
theorem put_pg {c c' : Chip} {a : Nat} {b : Blk} {q : Pg} {i' e : Int} {S : Pg → Prop} (r : PutR c a b q i' e c') (hb : c.blocks[a]? = some b) (h0 : FP c = 0) (ha : c.after < 0) (hS : PgP c S) (hbl : S blankP) (hq : S q) : PgP c' S := fun k hk b2 hb2 j hj => by
  by_cases e1 : k = a
  · subst e1
    obtain ⟨b', k1, _, _, _, k5, _⟩ := r.blk
    rw [k1] at hb2
    cases hb2
    rcases (show (j : Int) < b.next ∨ b.next ≤ j by omega) with h1 | h1
    · rw [k5 j hj h1]; exact hS k hk b hb j hj
    · rcases r.pure h0 ha _ k1 j hj h1 with h2 | h2 <;> rw [h2] <;> assumption
  · rw [r.fr.oth k e1] at hb2
    exact hS k hk b2 hb2 j hj
theorem erase_pg {c c' : Chip} {a : Nat} {b : Blk} {e : Int} {S : Pg → Prop} (r : EraseR c a b e c') (hb : c.blocks[a]? = some b) (hS : PgP c S) (hbl : S blankP) : PgP c' S := fun k hk b2 hb2 j hj => by
  by_cases e1 : k = a
  · subst e1
    obtain ⟨b', k1, _, _, k4, _⟩ := r.blk
    rw [k1] at hb2
    cases hb2
    rcases k4 j hj with h1 | h1
    · rw [h1]; exact hbl
    · rw [h1]; exact hS k hk b hb j hj
  · rw [r.fr.oth k e1] at hb2
    exact hS k hk b2 hb2 j hj
theorem keep_pg {c : Chip} {t : TS} {u l : List Int} {B : Int} {S : Pg → Prop} (up : Up c) (h : TI c t) (hfp : FP c = 0) (hfw : FW c = 0) (ha : c.after < 0) (hc : Cnt c B) (hB : B + 1000 < 8000000000000000000) (hS : PgP c S) (hbl : S blankP) (hq : S (planP (t.version + 1) c.blocks.length u l)) :
    PgP (keepC t u l c).2.2 S := by
  obtain ⟨a, har, hh, b, hb, hn0, hn1⟩ := h
  obtain ⟨b0, hb0, hbi, hbad⟩ := hh.bs a hh.a2
  rw [hb] at hb0
  cases hb0
  have hnx := hbi.nx
  obtain ⟨i, hi⟩ : ∃ i : Nat, t.next = i := ⟨t.next.toNat, by omega⟩
  obtain ⟨i', e, c1, p1, p2, p3⟩ := put_spec (a := a) (q := planP (t.version + 1) c.blocks.length u l) (8 - i) c i b B (by omega) up hb hbad hbi (by omega) hc (by omega)
  have hp0 : putC c t.area t.next (planP (t.version + 1) c.blocks.length u l) = (i', e, c1) := by rw [har, hi, putC_eq]; exact p1
  have hK : (keepC t u l c).2.2 = (keepS t u l c).c := by
    unfold keepC
    simp only []
    split <;> rfl
  have hSS : keepS t u l c = keepGo 4 (a : Nat) (planP (t.version + 1) c.blocks.length u l) ⟨(a : Nat), i', e, c1⟩ := by
    unfold keepS
    simp only []
    rw [hp0, har]
  rw [hK, hSS]
  have hS1 := put_pg p2 hb hfp ha hS hbl hq
  have hlen : c1.blocks.length = c.blocks.length := p2.fr.len
  have hfp1 : FP c1 = 0 := by have := p2.fr.fp; omega
  have hfw1 : FW c1 = 0 := by have := p2.fr.fw; omega
  generalize planP (t.version + 1) c.blocks.length u l = q at *
  rcases p2.how with ⟨rfl, q2, q3⟩ | ⟨rfl, q2⟩ | ⟨rfl, q2, q3, q4⟩
  · exact absurd ha q3
  · unfold keepGo
    rw [if_neg (show ¬ (0 : Int) = 34 by decide)]
    exact hS1
  · have up1 := up.of p2.fr.dead p2.fr.out q2
    have ha1 : c1.after < 0 := by rw [(p2.fr.pos ha).1]; exact ha
    have hbs : ∃ b1, c1.blocks[1 - a]? = some b1 ∧ b1.bad = false := by
      obtain ⟨b1, h1, _, h2⟩ := hh.bs (1 - a) (by omega)
      have := hh.a2
      exact ⟨b1, by rw [p2.fr.oth (1 - a) (by omega)]; exact h1, h2⟩
    obtain ⟨b1, hb1, hbad1⟩ := hbs
    have ha2 := hh.a2
    have hra : (1 : Int) - (a : Nat) = ((1 - a : Nat) : Int) := by omega
    obtain ⟨e2, c2, r1, r2, r3⟩ := erase_spec up1 hb1 hbad1 p3 (by omega)
    have hS2 := erase_pg r2 hb1 hS1 hbl
    unfold keepGo
    rw [if_pos rfl]
    unfold keep1
    simp only []
    rw [hra, r1]
    simp only []
    rcases r2.how with ⟨rfl, m1, m2⟩ | ⟨rfl, m1, m2⟩ | ⟨rfl, m1⟩
    · exact absurd ha1 m2
    · omega
    · rw [if_pos rfl]
      have up2 := up1.of r2.fr.dead r2.fr.out m1
      obtain ⟨b2, k1, k2, k3, k4, k5⟩ := r2.blk
      obtain ⟨i2, e3, c3, s1, s2, s3⟩ := put_spec (a := 1 - a) (q := q) 8 c2 0 b2 (B + (8 - i : Nat) + 1) (by omega) up2 k1 (k3.trans hbad1) k2 (by rw [k5 rfl]; exact Int.le_refl _) r3 (by omega)
      have hp1 : putC c2 ((1 - a : Nat) : Int) 0 q = (i2, e3, c3) := by
        have : putC c2 ((1 - a : Nat) : Int) 0 q = putGo 8 c2 ((1 - a : Nat) : Int) ((0 : Nat) : Int) q := putC_eq (i := 0)
        rw [this]; exact s1
      rw [hp1]
      simp only []
      have hfp2 : FP c2 = 0 := by have := r2.fr.fp; omega
      have ha22 : c2.after < 0 := by rw [(r2.fr.pos ha1).1]; exact ha1
      have hS3 := put_pg s2 k1 hfp2 ha22 hS2 hbl hq
      rcases s2.how with ⟨rfl, n2, n3⟩ | ⟨rfl, n2⟩ | ⟨rfl, n2, n3, n4⟩
      · exact absurd ha22 n3
      · unfold keepGo
        rw [if_neg (show ¬ (0 : Int) = 34 by decide)]
        exact hS3
      · rw [k5 rfl] at n4
        have : (8 - (0 : Int)).toNat = 8 := rfl
        omega
/-! turned bits -/
theorem blank_zeros {k : Nat} (hk : k < 2064) : ∀ i, i ≤ 258 → zerosU (flipP blankP k) i ≤ if k / 8 < i then 1 else 0
  | 0, _ => by simp [zerosU]
  | i + 1, h => by
    have ih := blank_zeros hk i (by omega)
    have h1 : ∀ k < 8, pop8 (~~~ (255#8 ^^^ (1#8 <<< k))) = 1 := by decide
    rw [zerosU_succ, getD_at _ (show i < 258 by omega), flipP_at _ hk (by omega), blank_at (by omega)]
    by_cases e : k / 8 = i
    · rw [if_pos e, h1 _ (by omega), if_pos (by omega)]
      rw [if_neg (by omega)] at ih
      omega
    · rw [if_neg e, pop_all]
      split at ih
      · rw [if_pos (by omega)]; omega
      · rw [if_neg (by omega)]; omega
theorem flip_blank {k : Nat} (hk : k < 2064) : blankB (flipP blankP k) = true := by
  have := blank_zeros hk 258 (Nat.le_refl _)
  unfold blankB
  rw [if_pos (by omega)] at this
  simpa using this
/-- A page that was never written, or a plan's. -/
def PlB (n : Nat) (p : Pg) : Prop := p = blankP ∨ ∃ w u l, OkP n u l ∧ p = planP w n u l
theorem rp_turned {n : Nat} {p : Pg} {k : Nat} (h : PlB n p) (hk : k < 2064) : RP n (flipP p k) = RP n p := by
  rcases h with rfl | ⟨w, u, l, h, rfl⟩
  · rw [rp_bl (flip_blank hk), rp_blank]
  · rw [rp_flip h hk, rp_plan h]
/-- A chip, and it with turned bits in pages of the table's own blocks. -/
structure Turned (c c' : Chip) (m : Nat) : Prop where
  up : Up c'
  len : c'.blocks.length = c.blocks.length
  aC : c'.aC = c.aC
  pg : ∀ a < 2, ∀ b, c.blocks[a]? = some b → ∃ b', c'.blocks[a]? = some b' ∧ ∀ (j : Nat) (h : j < 8), (8 * a + j < m ∧ ∃ k < 2064, b'.pages[j] = flipP b.pages[j] k) ∨ b'.pages[j] = b.pages[j]
  old : ∀ a < 2, ∀ b b', c.blocks[a]? = some b → c'.blocks[a]? = some b' → ∀ (j : Nat) (h : j < 8), m ≤ 8 * a + j → b'.pages[j] = b.pages[j]
theorem Turned.refl {c : Chip} (up : Up c) : Turned c c 0 := ⟨up, rfl, rfl, fun a ha b hb => ⟨b, hb, fun j h => .inr rfl⟩, fun a ha b b' hb hb' j h _ => by rw [hb] at hb'; cases hb'; rfl⟩
theorem Turned.mono {c c' : Chip} {m k : Nat} (h : Turned c c' m) (hk : m ≤ k) : Turned c c' k :=
  ⟨h.up, h.len, h.aC, fun a ha b hb => by
    obtain ⟨b', h1, h2⟩ := h.pg a ha b hb
    exact ⟨b', h1, fun j hj => by
      rcases h2 j hj with ⟨h3, h4⟩ | h3
      · exact .inl ⟨by omega, h4⟩
      · exact .inr h3⟩, fun a ha b b' hb hb' j hj hle => h.old a ha b b' hb hb' j hj (by omega)⟩
theorem setPg_at {b : Blk} {i j : Nat} {p : Pg} (hi : i < 8) : (setPg b j p).pages[i] = if j = i then p else b.pages[i] := by
  unfold setPg
  simp only
  rw [Vector.getElem_setIfInBounds]
theorem Turned.flip {c c' : Chip} {m k : Nat} {b' : Blk} (h : Turned c c' m) (hl : 2 ≤ c.blocks.length) (hm : m < 16) (hk : k < 2064) (hb' : c'.blocks[m / 8]? = some b') : Turned c (setB c' (m / 8) (setPg b' (m % 8) (flipP b'.pages[m % 8] k))) (m + 1) := by
  have hi : m / 8 < c'.blocks.length := (List.getElem?_eq_some_iff.1 hb').1
  have hset : (setB c' (m / 8) (setPg b' (m % 8) (flipP b'.pages[m % 8] k))).blocks[m / 8]? = some (setPg b' (m % 8) (flipP b'.pages[m % 8] k)) := by
    show (c'.blocks.set _ _)[m / 8]? = _
    simp [hi]
  have hoth : ∀ a, a ≠ m / 8 → (setB c' (m / 8) (setPg b' (m % 8) (flipP b'.pages[m % 8] k))).blocks[a]? = c'.blocks[a]? := fun a ha => List.getElem?_set_ne (fun e => ha e.symm)
  refine ⟨⟨h.up.off, h.up.dead, h.up.out⟩, ?_, h.aC, fun a ha b hb => ?_, fun a ha b b2 hb hb2 j hj hle => ?_⟩
  · show (c'.blocks.set _ _).length = _
    rw [List.length_set]; exact h.len
  · by_cases e : a = m / 8
    · subst e
      obtain ⟨b1, h1, h2⟩ := h.pg _ ha b hb
      rw [hb'] at h1
      cases h1
      refine ⟨_, hset, fun j hj => ?_⟩
      rw [setPg_at hj]
      by_cases e2 : m % 8 = j
      · subst e2
        rw [if_pos rfl]
        refine .inl ⟨by omega, k, hk, ?_⟩
        rw [h.old _ ha b b' hb hb' (m % 8) hj (by omega)]
      · rw [if_neg e2]
        rcases h2 j hj with ⟨h3, h4⟩ | h3
        · exact .inl ⟨by omega, h4⟩
        · exact .inr h3
    · rw [hoth a e]
      obtain ⟨b1, h1, h2⟩ := h.pg _ ha b hb
      refine ⟨b1, h1, fun j hj => ?_⟩
      rcases h2 j hj with ⟨h3, h4⟩ | h3
      · exact .inl ⟨by omega, h4⟩
      · exact .inr h3
  · by_cases e : a = m / 8
    · subst e
      rw [hset] at hb2
      cases hb2
      rw [setPg_at hj, if_neg (by omega)]
      exact h.old _ ha b b' hb hb' j hj (by omega)
    · rw [hoth a e] at hb2
      exact h.old a ha b b2 hb hb2 j hj (by omega)
/-- It is opened as it was. -/
theorem open_turned {c c' : Chip} {v a : Nat} {u l : List Int} {m : Nat} (h : Hold c v u l a) (hp : PgP c (PlB c.blocks.length)) (ht : Turned c c' m) : ∃ t, openC c' = (0, t) ∧ t.uses = u ∧ t.lost = l := by
  have hlen : 2 ≤ c.blocks.length := by have := h.ok.n1; omega
  have hlen' : 2 ≤ c'.blocks.length := by rw [ht.len]; exact hlen
  have hm : mayE c' 0 0 = 0 := mayU (i := 0) (j := 0) ht.up (by omega) (by omega)
  have hrd : ∀ k < 2, ∀ b, c.blocks[k]? = some b → ∀ (j : Nat) (hj : j < 8), RP c'.blocks.length (readP c' (k : Nat) (j : Nat)) = RP c.blocks.length b.pages[j] := fun k hk b hb j hj => by
    obtain ⟨b', h1, h2⟩ := ht.pg k hk b hb
    rw [read_of (mayU ht.up (by omega) hj) h1 hj, ht.len]
    rcases h2 j hj with ⟨_, q, hq, h3⟩ | h3
    · rw [h3, rp_turned (hp k hk b hb j hj) hq]
    · rw [h3]
  obtain ⟨b, hb, j, hj, hr⟩ := h.ex
  obtain ⟨t, ho, hi⟩ := openC_some hm h.a2 hj (by rw [hrd a h.a2 b hb j hj]; exact hr)
  refine ⟨t, ho, ?_⟩
  obtain ⟨k, hk⟩ : ∃ k : Nat, t.area = k := ⟨t.area.toNat, by have := hi.area; omega⟩
  have hk2 : k < 2 := by have := hi.area; omega
  obtain ⟨b2, hb2, _⟩ := h.bs k hk2
  obtain ⟨⟨r1, r2⟩, r3⟩ := hi.rc
  obtain ⟨j2, hj2⟩ : ∃ j : Nat, t.at' = j := ⟨t.at'.toNat, by omega⟩
  have hj28 : j2 < 8 := by omega
  rw [hk, hj2, hrd k hk2 b2 hb2 j2 hj28] at r3
  have h1 := h.le k hk2 b2 hb2 j2 hj28 _ _ _ r3
  have h2 := hi.le a h.a2 j hj v u l (by rw [hrd a h.a2 b hb j hj]; exact hr)
  exact h1.2 (by omega)
end Go.Proofs.YtdfidkhbldedlaaGreat
end
section
/- Walks: a bit is turned; the power is on again. -/
namespace Go.Proofs.YtdfidkhbldedlaaGreat
open Go.K
set_option linter.unusedVariables false
set_option linter.unusedSimpArgs false
instance ent23 : Ent Tryz.prog 23 := ⟨fun _ _ => by kernel_rfl⟩
instance ent24 : Ent Tryz.prog 24 := ⟨fun _ _ => by kernel_rfl⟩
theorem pwOn_fn {c : Chip} : Does Tryz.prog 23 [ptr c.aP] (chH c) (Is (.tuple #[]) (chH { c with off := false, after := -1 })) := by
  rw [chH_eq, chH_eq]
  refine fn_enter (n := 8) Tryz.func23 Tryz.ntmps23 rfl (Nat.le_of_ble_eq_true rfl) <| s_region0 fun ops => oM rfl <| oM rfl <| oN rfl <| oF rfl ?_
  refine o_store rfl rfl uD rfl rfl rfl ?_
  refine oN rfl <| oF rfl ?_
  refine o_store rfl rfl uD rfl rfl rfl ?_
  refine o_nil ?_
  refine leaf_isN (ret0 Tryz.results23) ?_ sP
  rfl
section
variable {P : Program} {E : Env} {H : Hp} {t u : TypeId} {x y : Operand} {i m : Nat}
theorem rd_quoN (hx : ev E x = some (.int .i64 (i : Nat))) (hy : ev E y = some (.int .i64 (m : Nat))) (hm : m ≠ 0) (hi : i < 9223372036854775808) : Rd P E H (.binOp .quo t x y u) (.int .i64 ((i / m : Nat) : Int)) := fun a w d ty pos af g h1 h2 => by
  have e1 := ev_ok h1 hx
  have e2 := ev_ok h1 hy
  have e3 : ¬ (m : Int) = 0 := by omega
  have e4 : IntKind.i64.wrap ((i : Int).tdiv (m : Int)) = ((i / m : Nat) : Int) := by
    rw [Int.tdiv_eq_ediv_of_nonneg (by omega), ← Int.natCast_ediv]
    exact wrap64_in (by have := Nat.div_le_self i m; have h0 := Int.natCast_nonneg (i / m); omega)
  simp only [execOp, e1, e2, eqGuard, binOp, Op.intDiv, if_neg e3, e4]
  simp
theorem rd_remN (hx : ev E x = some (.int .i64 (i : Nat))) (hy : ev E y = some (.int .i64 (m : Nat))) (hm : m ≠ 0) : Rd P E H (.binOp .rem t x y u) (.int .i64 ((i % m : Nat) : Int)) := fun a w d ty pos af g h1 h2 => by
  have e1 := ev_ok h1 hx
  have e2 := ev_ok h1 hy
  have e3 : ¬ (m : Int) = 0 := by omega
  have e4 : (i : Int).tmod (m : Int) = ((i % m : Nat) : Int) := by
    rw [Int.tmod_eq_emod_of_nonneg (by omega), ← Int.natCast_emod]
  simp only [execOp, e1, e2, eqGuard, binOp, Op.intDiv, if_neg e3, e4]
  simp
end
theorem and_ffff (b : Int) : ∃ k : Nat, ibits .and .i64 b 65535 = (k : Int) ∧ k < 65536 := by
  have h : (BitVec.ofInt 64 b &&& BitVec.ofInt 64 65535).toNat ≤ 65535 := by
    rw [BitVec.toNat_and]
    exact Nat.le_trans Nat.and_le_right (by decide)
  refine ⟨(BitVec.ofInt 64 b &&& BitVec.ofInt 64 65535).toNat, ?_, by omega⟩
  show IntKind.i64.wrap ((BitVec.ofInt 64 b &&& BitVec.ofInt 64 65535).toNat : Int) = _
  exact wrap64_in (by omega)
theorem flip_at {l : List Blk} {i j k : Nat} {b : Blk} (hb : l[i]? = some b) (hj : j < 8) (hk : k < 2064) : splice (rowc l) (i * 2066 + (j * 258 + k / 8)) [bv (b.pages[j][k / 8] ^^^ (1#8 <<< (k % 8)))] = some (rowc (l.set i (setPg b j (flipP b.pages[j] k)))) := by
  refine row_setPg hb hj ?_
  unfold flipP
  rw [dif_pos (show k / 8 < 258 by omega)]
  exact spl1_vb (by omega) _
theorem flip_fn {c : Chip} {a i j k : Nat} {b : Blk} (ha : c.aC = a) (hb : c.blocks[i]? = some b) (hj : j < 8) (hk : k < 2064) : Does Tryz.prog 24 [ptr a, .int .i64 (i : Nat), .int .i64 (j : Nat), .int .i64 (k : Nat)] (chH c) (Is (.int .i64 0) (chH (setB c i (setPg b j (flipP b.pages[j] k))))) := by
  subst ha
  have hi : i < c.blocks.length := (List.getElem?_eq_some_iff.1 hb).1
  have hth : thereB c i = true := (by unfold thereB; simp; omega)
  rw [chH_eq c, chH_set]
  refine fn_enter (n := 50) Tryz.func24 Tryz.ntmps24 rfl (Nat.le_of_ble_eq_true rfl) <| s_seq <| s_region0 fun ops => oA rfl <| o_nil <| n_K <| s_seq <| s_seq ?_
  refine s_region [(4, 13), (8, 17), (12, 21), (16, 25)] rfl fun ops y => ?_
  refine oM rfl <| oM rfl ?_
  refine c_is rfl (there_fn) sP rfl aQ ?_
  refine oR (rd_not rfl) <| oM rfl ?_
  refine' o_or (j := 4) (k := 2) y rfl rfl rfl rfl rfl rfl rfl (fun hg13 => ?_) ?_
  rotate_left
  · try (simp at hg13; show _)
    refine o_g y rfl rfl ?_
    refine oM rfl ?_
    refine o_g y rfl rfl ?_
    refine oR (rd_bin rfl rfl rfl) ?_
    exact o_nil ⟨rfl, rfl, ⟨_, sP⟩⟩
  refine oM rfl ?_
  refine' o_or (j := 8) (k := 2) y rfl rfl rfl rfl rfl rfl rfl (fun hg17 => ?_) ?_
  rotate_left
  · try (simp at hg17; show _)
    refine o_g y rfl rfl ?_
    refine oM rfl ?_
    refine o_g y rfl rfl ?_
    refine oR (rd_bin rfl rfl rfl) ?_
    exact o_nil ⟨rfl, rfl, ⟨_, sP⟩⟩
  refine oM rfl ?_
  refine' o_or (j := 12) (k := 2) y rfl rfl rfl rfl rfl rfl rfl (fun hg21 => ?_) ?_
  rotate_left
  · try (simp at hg21; show _)
    refine o_g y rfl rfl ?_
    refine oM rfl ?_
    refine o_g y rfl rfl ?_
    refine oR (rd_bin rfl rfl rfl) ?_
    exact o_nil ⟨rfl, rfl, ⟨_, sP⟩⟩
  refine oM rfl ?_
  refine' o_or (j := 16) (k := 2) y rfl rfl rfl rfl rfl rfl rfl (fun hg25 => ?_) ?_
  rotate_left
  · try (simp at hg25; show _)
    refine o_g y rfl rfl ?_
    refine oM rfl ?_
    refine o_g y rfl rfl ?_
    refine oR (rd_bin rfl rfl rfl) ?_
    exact o_nil ⟨rfl, rfl, ⟨_, sP⟩⟩
  refine o_nil <| n_K ?_
  refine s_cond rfl (fun c28 => ?_) (fun c28 => ?_)
  · skip
    exact absurd c28 (by rw [hth]; simp; omega)
  · skip
    refine s_skip <| n_K <| s_seq ?_
    refine s_draw [] [(21, [(0, false), (1, false), (2, false), (3, false), (4, false), (5, false), (6, false), (7, false), (8, false), (9, false), (10, false), (11, false), (12, false), (13, false), (14, false), (15, false), (16, false), (17, false), (18, false), (19, false), (20, false)]), (22, [(21, true)])] (by kernel_rfl) rfl fun ops w0 H0 y => ?_
    refine p_all <| xM rfl <| xN rfl <| xF rfl ?_
    refine xR (rd_ld rfl mM rfl) ?_
    refine xM rfl <| xM rfl <| xM rfl ?_
    refine xR (rd_quoN (m := 8) rfl rfl (by omega) (by omega)) ?_
    refine xR (rd_ixS rfl rfl (by omega)) ?_
    refine xF rfl ?_
    refine xR (rd_ixA rfl rfl (by omega)) ?_
    refine xR (rd_ixA rfl rfl (by omega)) ?_
    refine xR (rd_ld rfl mM (show nth _ _ = some (bv b.pages[j][k / 8]) by simp only [Int.toNat_natCast, Nat.mul_one, Nat.zero_add, Nat.add_zero, Nat.add_assoc]; exact row_byte (j := k / 8) hb hj (by omega))) ?_
    refine xM rfl ?_
    refine xR (rd_remN (m := 8) rfl rfl (by omega)) ?_
    refine xR (rd_bit8 rfl rfl (by omega)) ?_
    refine xR (show Rd _ _ _ _ (bv (b.pages[j][k / 8] ^^^ (1#8 <<< (k % 8)))) from by (unfold bv; rw [← xor_by]; exact rd_bin rfl rfl rfl)) ?_
    refine xR (rd_ixS rfl rfl (by omega)) ?_
    refine xF rfl ?_
    refine xR (rd_ixA rfl rfl (by omega)) ?_
    refine xR (rd_ixA rfl rfl (by omega)) ?_
    refine x_nil <| p_none <| x_so ?_
    refine o_store (cs' := rowc (c.blocks.set i (setPg b j (flipP b.pages[j] k)))) rfl rfl uD rfl rfl (by simp only [Int.toNat_natCast, Nat.mul_one, Nat.zero_add, Nat.add_zero, Nat.add_assoc]; exact flip_at hb hj hk) ?_
    refine o_nil ⟨rfl, ⟨_, sP⟩, ?_⟩
    refine x_nil <| p_end <| n_K <| s_seq <| s_region0 fun ops => oA rfl <| o_nil <| n_K <| s_ret ?_
    refine leaf_is (rets1 Tryz.results24 (rv_tmp rfl)) ?_ sP
    rfl
end Go.Proofs.YtdfidkhbldedlaaGreat
end
section
/- Walk of the law BbtFlips. -/
namespace Go.Proofs.YtdfidkhbldedlaaGreat
open Go.K
set_option linter.unusedVariables false
set_option linter.unusedSimpArgs false
instance ent5 : Ent Tryz.prog 5 := ⟨fun _ _ => by kernel_rfl⟩
theorem new0_fn {pp : Nat} {n : Nat} (hn : okNew n [] = true) : Does Tryz.prog 13 [ptr pp, .int .i64 (n : Nat), .slice none 0 0] [(pp, true, C [.bool false, .int .i64 (-1), .int .i64 0] tPw)]
    (fun v H => ∃ aC aB, v = .tuple #[ptr aC, .int .i64 0] ∧ H = chH (newG (-1) 0 pp aC aB n []) ++ []) := by
  have h := new2_fn (pp := pp) (n := (n : Int)) (s := .nil) (T := tI)
  rw [Sl.hp_nil] at h
  refine h.mono fun v H hh => ?_
  rcases hh with ⟨aC, aB, h1, h2, _⟩ | ⟨_, _, h3⟩
  · exact ⟨aC, aB, h1, h2⟩
  · rw [show (Sl.nil : Sl Int).list = [] from rfl, hn] at h3; cases h3
theorem rformatN_fn {b n : Nat} (hn : 16 ≤ n ∧ n ≤ 40) (hX : fmtX (badL n []) = false) : Does Tryz.prog 16 [.slice (some ⟨b, 0, none⟩) n n] [(b, true, C (zrep n [.bool false]) tB)]
    (fun v H => ∃ r : RTab, v = ptr r.b ∧ H = refH r ++ [(b, true, C (zrep n [.bool false]) tB)] ∧ r.u.list = fmtV (badL n []) ((n : Int) - 6) n ∧ r.l.list = badL n [] ∧ r.u.isOwn = true ∧ r.l.isOwn = true) := by
  have hl := badL_len n []
  have h := rformat_fn (s := (.own b (badL n []) n [] ⟨by simp [hl], by omega, by omega⟩ : Sl Bool)) (by show 2 ≤ (badL n []).length ∧ (badL n []).length ≤ 1000; omega)
  have e : (Sl.own b (badL n []) n [] ⟨by simp [hl], by omega, by omega⟩ : Sl Bool).val = .slice (some ⟨b, 0, none⟩) n n := by
    show Value.slice (some ⟨b, 0, none⟩) (badL n []).length n = _
    rw [hl]
  rw [e, Sl.hp_own, List.append_nil, ← zrep_false] at h
  refine h.mono fun v H hh => ?_
  rcases hh with ⟨_, r, h1, h2, h3, h4, h5, h6⟩ | ⟨h3, _⟩
  · refine ⟨r, h1, h2, ?_, h4, h5, h6⟩
    rw [h3]
    show fmtV (badL n []) (((badL n []).length : Int) - 6) (badL n []).length = _
    rw [hl]
  · rw [show (Sl.own b (badL n []) n [] ⟨by simp [hl], by omega, by omega⟩ : Sl Bool).list = badL n [] from rfl, hX] at h3
    cases h3
theorem newPg {pp aC aB n : Nat} {bad : List Int} {t : TS} {c' : Chip} {k : Nat} {u : List Int} {l : List Bool} (hn : 16 ≤ n ∧ n ≤ 40) (hx : fmtX (badL n bad) = false) (hf : formatC (newG (-1) 0 pp aC aB n bad) = (0, t, c')) (hJ : JI c' t u l n k) : PgP c' (PlB n) := by
  obtain ⟨c2, h1, h2⟩ := new_format (after := -1) (keep := 0) (aP := pp) (aC := aC) (aB := aB) (n := n) (bad := bad) (by omega) (by omega) ((new_fmtX hn).trans hx)
  rw [h1] at hf
  simp only [Prod.mk.injEq] at hf
  obtain ⟨_, rfl, rfl⟩ := hf
  have hok := hJ.wf.okP
  generalize (fmtT (newG (-1) 0 pp aC aB n bad)).uses = us at *
  generalize (fmtT (newG (-1) 0 pp aC aB n bad)).lost = lost at *
  intro a ha b hb j hj
  rw [h2] at hb
  rcases (show a = 0 ∨ a = 1 by omega) with rfl | rfl
  · rw [prg_same (by rw [new_len]; omega)] at hb
    cases hb
    simp only
    rw [Vector.getElem_setIfInBounds]
    split
    · exact .inr ⟨1, us, lost, hok, rfl⟩
    · refine .inl ?_
      simp [newB]
  · rw [prg_other (by omega), new_block (by omega)] at hb
    cases hb
    refine .inl ?_
    simp [newB]
theorem formatF_fn {pp aC aB m : Nat} {bad : List Int} (hm : 16 ≤ m ∧ m ≤ 40) (hX : fmtX (badL m bad) = false) : Does Tryz.prog 15 [ptr aC] (chH (newG (-1) 0 pp aC aB m bad))
    (fun v H => ∃ (tb : Tab) (c' : Chip), v = .tuple #[ptr tb.b, .int .i64 0] ∧ H = tabH aC tb ++ (chH c' ++ []) ∧ c'.aC = aC ∧ c'.aP = pp ∧ JI c' tb.ts (fmtV (badL m bad) ((m : Int) - 6) m) (badL m bad) m 0 ∧ PgP c' (PlB m)) := by
  have hlen : (newG (-1) 0 pp aC aB m bad).blocks.length = m := new_len
  refine (format_b (c := newG (-1) 0 pp aC aB m bad) (a := aC) rfl (by rw [hlen]; omega)).mono fun v H h => ?_
  obtain ⟨t, c', h1, h2, h3, h4⟩ := new_JI (aP := pp) (aC := aC) (aB := aB) hm hX
  unfold FormatR at h
  rw [h1] at h
  rcases h with ⟨tb, rfl, rfl, h5, _⟩ | ⟨_, _, h6⟩
  · exact ⟨tb, c', rfl, rfl, h3, h4, by rw [h5]; exact h2, newPg hm hX h1 h2⟩
  · exact absurd rfl h6
theorem JI.keepP {c : Chip} {t : TS} {u u' lost : List Int} {l : List Bool} {n k : Nat} {e : Int} {t' : TS} {c' : Chip} (h : JI c t u l n k) (hk : k ≤ 1000) (hp : PgP c (PlB n)) (hr : (e, t', c') = keepC t u' lost c) (hw : WF n u' lost) : PgP c' (PlB n) := by
  have hfp : FP c = 0 := by unfold FP; rw [h.pf]; simp
  have hfw : FW c = 0 := by unfold FW; rw [h.wfl]; simp
  have := keep_pg (u := u') (l := lost) (B := 1000 * k + 1000) h.up h.ti hfp hfw h.af h.cnt (by omega) hp (.inl rfl) (.inr ⟨_, _, _, hw.okP, by rw [h.len]⟩)
  rw [← hr] at this
  exact this
theorem doF_fn {c : Chip} {t : Tab} {a n k : Nat} {u u' : List Int} {l l' : List Bool} {o : OpV} {b : Int} {ok : Bool} (ha : c.aC = a) (h : JI c t.ts u l n k) (hP : PgP c (PlB n)) (hk : k ≤ 1000) (hst : StepR u l o b ok u' l') :
    Does Tryz.prog 19 [ptr t.b, .agg (opC o).toArray, .int .i64 b] (tabH a t ++ (chH c ++ []))
    (fun v H => (ok = false ∧ v = .int .i64 1 ∧ ∃ (t' : Tab) (c' : Chip), t'.b = t.b ∧ H = tabH a t' ++ (chH c' ++ []) ∧ c'.aC = a ∧ JI c' t'.ts u l n (k + 1) ∧ PgP c' (PlB n)) ∨
      (ok = true ∧ v = .int .i64 0 ∧ ∃ (t' : Tab) (c' : Chip), t'.b = t.b ∧ H = tabH a t' ++ (chH c' ++ []) ∧ c'.aC = a ∧ JI c' t'.ts u' l' n (k + 1) ∧ PgP c' (PlB n))) := by
  obtain ⟨s1, s2, s3, s4⟩ := h.tabS
  refine (do_fn (o := o) (b := b) ha s1 s2 s3 s4).mono fun v H ⟨t', e, c', h1, h2, h3, h4, h5⟩ => ?_
  have hlen := h.len
  rcases do_step (by rw [hlen]; exact h.rel) (by rw [hlen]; exact h.wf) hst h5 with ⟨hok, hr⟩ | ⟨hok, lost, hr, hw, _, hrel⟩
  · simp only [Prod.mk.injEq] at hr
    obtain ⟨rfl, hts, rfl⟩ := hr
    exact .inl ⟨hok, h2, t', c', h1, h3, h4, by rw [hts]; exact h.mono, hP⟩
  · rw [hlen] at hw hrel
    have hPP := h.keepP hk hP hr hw
    obtain ⟨rfl, hJ⟩ := h.keep hk hr hw hrel
    exact .inr ⟨hok, h2, t', c', h1, h3, h4, hJ, hPP⟩
theorem sameR_fn {c : Chip} {t : Tab} {r : RTab} {a n : Nat} (ha : c.aC = a) (hl : c.blocks.length = n) (hn : n ≤ 1000) (hu : r.u.list.length ≤ 1000) (h : RelT t.ts r.u.list r.l.list n) : Does Tryz.prog 20 [ptr t.b, ptr r.b] (tabH a t ++ (chH c ++ (refH r ++ []))) (Is (.bool true) (tabH a t ++ (chH c ++ (refH r ++ [])))) :=
  (same_fn ha (by omega) hu).mono fun v H ⟨x, h1, h2, h3, _⟩ => ⟨by rw [h1, h3 (by rw [hl]; exact h)], h2⟩
theorem fx20 : fmtX (badL 20 []) = false := by decide +kernel
theorem fx24 : fmtX (badL 24 []) = false := by decide +kernel
theorem flips_fn {sc : Sl OpV} {bt : Sl Int} : Does Tryz.prog 5 [sc.val, bt.val] (sc.hp tOp ++ (bt.hp tI ++ [])) (fun v H => v = .bool true) := by
  refine fn_enter (n := 103) Tryz.func5 Tryz.ntmps5 rfl (Nat.le_of_ble_eq_true rfl) <| s_seq <| s_region0 fun ops => oA rfl <| o_nil <| n_K <| s_seq <| s_seq <| s_region0 fun ops => ?_
  refine c_is rfl (speaks_fn) sP rfl aQ ?_
  refine oR (rd_not rfl) <| o_nil <| n_K ?_
  refine s_condF rfl ?_
  refine s_skip <| n_K <| s_seq <| s_seq ?_
  refine s_region [(3, 24)] rfl fun ops y => ?_
  refine oM rfl <| oR (rd_lenS rfl) <| oR (rd_bin rfl rfl rfl) <| oM rfl ?_
  refine' o_or (j := 3) (k := 3) y rfl rfl rfl rfl rfl rfl rfl (fun hg24 => ?_) ?_
  rotate_left
  · try (simp at hg24; show _)
    refine o_g y rfl rfl ?_
    refine oM rfl ?_
    refine o_g y rfl rfl ?_
    refine oR (rd_lenS rfl) ?_
    refine o_g y rfl rfl ?_
    refine oR (rd_bin rfl rfl rfl) ?_
    exact o_nil ⟨rfl, rfl, ⟨_, sP⟩⟩
  refine o_nil <| n_K ?_
  refine s_cond rfl (fun c28 => ?_) (fun c28 => ?_)
  · skip
    refine s_seq <| s_region0 fun ops => oA rfl <| o_nil <| n_K <| s_ret <| r_K ?_
    exact leaf_r (rets1 Tryz.results5 (rv_tmp rfl)) (by rfl) sP
  · skip
    have hsc : sc.list.length ≤ 30 ∧ bt.list.length ≤ 40 := (by simp at c28; omega)
    refine s_skip <| n_K <| s_seq <| s_region0 fun ops => ?_
    refine c_ex rfl (newPower_fn) sP rfl fun v30 Y30 h30 => ?_
    obtain ⟨p30, rfl, rfl⟩ := h30
    refine so_ap aQ ?_
    refine c_ex rfl (new0_fn (n := 20) (by decide)) sP rfl fun v31 Y31 h31 => ?_
    obtain ⟨aC, aB, rfl, rfl⟩ := h31
    refine so_ap aQ ?_
    refine oM rfl <| oE rfl rfl <| oE rfl rfl <| oA rfl <| oA rfl <| o_nil <| n_K <| s_seq <| s_seq <| s_region0 fun ops => oM rfl <| oR (rd_eqNil rfl rfl) <| o_nil <| n_K ?_
    refine s_condF rfl ?_
    refine s_skip <| n_K <| s_seq <| s_region0 fun ops => oM rfl ?_
    refine c_ex rfl (formatF_fn (pp := p30) (aC := aC) (aB := aB) (m := 20) (bad := []) (by decide) fx20) sP rfl fun v38 Y38 h38 => ?_
    obtain ⟨t, c', rfl, rfl, a1, a2, a3, a4⟩ := h38
    refine so_ap aQ ?_
    refine oM rfl <| oE rfl rfl <| oE rfl rfl <| oA rfl <| oA rfl <| o_nil <| n_K <| s_seq <| s_region0 fun ops => ?_
    refine o_make rfl rfl (by omega) rfl fun b41 => ?_
    refine c_ex rfl (rformatN_fn (n := 20) (by decide) fx20) sP rfl fun v42 Y42 h42 => ?_
    obtain ⟨r, rfl, rfl, hru, hrl, hou, hol⟩ := h42
    refine so_ap aQ ?_
    refine oA rfl <| o_nil <| n_K <| s_seq <| s_seq <| s_region0 fun ops => oM rfl <| oR (rd_eqNil rfl rfl) <| o_nil <| n_K ?_
    refine s_condF rfl ?_
    refine s_skip <| n_K <| s_seq <| s_seq <| s_region0 fun ops => oM rfl <| oR (rd_lenS rfl) <| oM rfl <| o_nil <| n_K <| s_block ?_
    refine s_loop2 [1, 5, 45, 46] kQ (fun (st : Nat × Tab × Chip × RTab) => [(47, .int .i64 st.1), (7, ptr st.2.1.b), (9, ptr st.2.2.2.b)]) (fun (st : Nat × Tab × Chip × RTab) => tabH aC st.2.1 ++ (chH st.2.2.1 ++ (refH st.2.2.2 ++ (sc.hp tOp ++ (bt.hp tI ++ []))))) (fun (st : Nat × Tab × Chip × RTab) => st.1 ≤ sc.list.length ∧ st.2.2.1.aC = aC ∧ JI st.2.2.1 st.2.1.ts st.2.2.2.u.list st.2.2.2.l.list 20 st.1 ∧ PgP st.2.2.1 (PlB 20)) (fun (st : Nat × Tab × Chip × RTab) => sc.list.length - st.1) ((0, t, c', r)) ⟨Nat.zero_le _, a1, by rw [hru, hrl]; exact a3, a4⟩ kP sP ?_
    rintro ⟨i, t1, c1, r1⟩ ⟨g0, g1, g2, g3⟩
    simp only at g0 g1 g2 g3
    refine s_seq <| s_region0 fun ops => oR (rd_bin rfl rfl rfl) <| o_nil <| n_K <| s_seq ?_
    refine s_cond rfl (fun c48 => ?_) (fun c48 => ?_)
    · simp only [decide_eq_true_eq, decide_eq_false_iff_not] at c48
      obtain ⟨z, hg⟩ : ∃ z, sc.list[i]? = some z := ⟨_, List.getElem?_eq_getElem (by omega)⟩
      refine s_skip <| n_K <| s_seq <| s_block <| s_seq <| s_region0 fun ops => ?_
      refine oR (rd_ixSl rfl rfl (by omega)) ?_
      refine oR (rd_ldSlA (o := 0) rfl pL hg rfl rfl) ?_
      refine o_alloc rfl fun b11 => ?_
      refine o_store rfl rfl uD rfl rfl rfl ?_
      refine o_nil <| n_K <| s_seq <| s_region0 fun ops => oM rfl ?_
      refine oR (rd_ldA rfl mM rfl) ?_
      refine c_ex rfl (step_fn (r := r1) (o := z) (g2.refS).1 (g2.refS).2.1 (g2.refS).2.2) sP rfl fun v54 Y54 h54 => ?_
      obtain ⟨q, ok1, rfl, rfl, hq1, hq2, hst⟩ := h54
      refine so_ap aQ ?_
      refine oM rfl <| oE rfl rfl <| oE rfl rfl <| oE rfl rfl <| oA rfl <| oA rfl <| oA rfl <| o_nil <| n_K <| s_seq <| s_seq <| s_region0 fun ops => oM rfl ?_
      refine oR (rd_ldA rfl mM rfl) ?_
      refine oM rfl ?_
      refine c_ex rfl (doF_fn (t := t1) (c := c1) (o := z) g1 g2 g3 (by omega) hst) sP rfl fun v61 Y61 h61 => ?_
      rcases h61 with ⟨rfl, rfl, t', c2, hb', rfl, ha', hJ, hP⟩ | ⟨rfl, rfl, t', c2, hb', rfl, ha', hJ, hP⟩
      all_goals
        refine so_ap aQ ?_
        refine oR (rd_bin rfl rfl rfl) <| oM rfl <| oR (rd_neB rfl rfl) <| o_nil <| n_K ?_
        refine s_cond rfl (fun c64 => ?_) (fun c64 => ?_)
        · skip
          try (exfalso; (cases c64); done)
          all_goals
            refine s_seq <| s_region0 fun ops => oA rfl <| o_nil <| n_K <| s_ret <| r_K <| r_blk <| r_K <| r_K <| r_blk <| r_K ?_
            exact leaf_r (rets1 Tryz.results5 (rv_tmp rfl)) (by rfl) sP
        · skip
          rw [← hb']
          refine s_skip <| n_K <| s_seq <| s_region0 fun ops => oM rfl <| o_nil <| n_K ?_
          refine s_cond rfl (fun c65 => ?_) (fun c65 => ?_)
          · skip
            try (exfalso; (cases c65); done)
            all_goals
              refine s_region0 fun ops => oM rfl <| oA rfl <| o_nil <| n_blk <| n_K <| s_region0 fun ops => ?_
              refine oR (rd_add64 rfl rfl (by omega)) ?_
              refine oM rfl <| o_nil <| n_K ?_
              first | exact ⟨(i + 1, t', c2, q), ⟨by simp only; omega, ha', hJ, hP⟩, by simp only; omega, lZ⟩ | exact ⟨(i + 1, t', c2, r1), ⟨by simp only; omega, ha', hJ, hP⟩, by simp only; omega, lZ⟩
          · skip
            try (exfalso; (cases c65); done)
            all_goals
              refine s_skip <| n_blk <| n_K <| s_region0 fun ops => ?_
              refine oR (rd_add64 rfl rfl (by omega)) ?_
              refine oM rfl <| o_nil <| n_K ?_
              first | exact ⟨(i + 1, t', c2, q), ⟨by simp only; omega, ha', hJ, hP⟩, by simp only; omega, lZ⟩ | exact ⟨(i + 1, t', c2, r1), ⟨by simp only; omega, ha', hJ, hP⟩, by simp only; omega, lZ⟩
    · simp only [decide_eq_true_eq, decide_eq_false_iff_not] at c48
      obtain ⟨ar, har, hh, bb, hbb, hnn⟩ := g2.ti
      have hl1 : c1.blocks.length = 20 := g2.len
      refine s_exit <| x_K <| x_K <| x_blk <| n_K <| s_seq <| s_seq <| s_region0 fun ops => oM rfl <| oR (rd_lenS rfl) <| oM rfl <| o_nil <| n_K <| s_block ?_
      refine s_loop2 [5, 9, 68, 69] kQ (fun (st : Nat × Chip) => [(70, .int .i64 st.1)]) (fun (st : Nat × Chip) => tabH aC t1 ++ (chH st.2 ++ (refH r1 ++ (sc.hp tOp ++ (bt.hp tI ++ []))))) (fun (st : Nat × Chip) => st.1 ≤ bt.list.length ∧ Turned c1 st.2 st.1) (fun (st : Nat × Chip) => bt.list.length - st.1) ((0, c1)) ⟨Nat.zero_le _, Turned.refl g2.up⟩ kP sP ?_
      rintro ⟨m, d⟩ ⟨k0, k1⟩
      simp only at k0 k1
      refine s_seq <| s_region0 fun ops => oR (rd_bin rfl rfl rfl) <| o_nil <| n_K <| s_seq ?_
      refine s_cond rfl (fun c71 => ?_) (fun c71 => ?_)
      · simp only [decide_eq_true_eq, decide_eq_false_iff_not] at c71
        obtain ⟨y1, hy⟩ : ∃ y1, bt.list[m]? = some y1 := ⟨_, List.getElem?_eq_getElem (by omega)⟩
        obtain ⟨kk, hkk, hkl⟩ := and_ffff y1
        refine s_skip <| n_K <| s_seq <| s_block <| s_seq <| s_region0 fun ops => oM rfl ?_
        refine oR (rd_ixSl rfl rfl (by omega)) ?_
        refine oR (rd_ldSl (o := 0) rfl pL hy rfl rfl) ?_
        refine oA rfl <| oA rfl <| o_nil <| n_K <| s_seq <| s_region0 fun ops => oM rfl <| oR (rd_bin rfl rfl rfl) <| o_nil <| n_K ?_
        refine s_cond rfl (fun c76 => ?_) (fun c76 => ?_)
        · simp only [decide_eq_true_eq, decide_eq_false_iff_not] at c76
          have hm16 : m < 16 := (by omega)
          obtain ⟨b', hb'⟩ : ∃ b', d.blocks[m / 8]? = some b' := ⟨_, List.getElem?_eq_getElem (by rw [k1.len]; omega)⟩
          refine s_region0 fun ops => oM rfl <| oM rfl ?_
          refine oR (rd_quoN (i := m) (m := 8) rfl rfl (by omega) (by omega)) ?_
          refine oM rfl ?_
          refine oR (rd_remN (i := m) (m := 8) rfl rfl (by omega)) ?_
          refine oM rfl ?_
          refine oR (show Rd _ _ _ _ (.int .i64 (kk : Nat)) from by (rw [← hkk]; exact rd_bin rfl rfl rfl)) ?_
          refine oR (rd_remN (i := kk) (m := 2064) rfl rfl (by omega)) ?_
          refine c_is rfl (flip_fn (c := d) (a := aC) (i := m / 8) (j := m % 8) (k := kk % 2064) (k1.aC.trans g1) hb' (by omega) (by omega)) sP rfl aQ ?_
          refine o_nil <| n_blk <| n_K <| s_region0 fun ops => ?_
          refine oR (rd_add64 rfl rfl (by omega)) ?_
          refine oM rfl <| o_nil <| n_K ?_
          first | exact ⟨(m + 1, setB d (m / 8) (setPg b' (m % 8) (flipP (b'.pages[m % 8]'(by omega)) (kk % 2064)))), ⟨by simp only; omega, k1.flip (by omega) hm16 (by omega) hb'⟩, by simp only; omega, lZ⟩ | exact ⟨(m + 1, d), ⟨by simp only; omega, k1.mono (by omega)⟩, by simp only; omega, lZ⟩
        · simp only [decide_eq_true_eq, decide_eq_false_iff_not] at c76
          refine s_skip <| n_blk <| n_K <| s_region0 fun ops => ?_
          refine oR (rd_add64 rfl rfl (by omega)) ?_
          refine oM rfl <| o_nil <| n_K ?_
          first | exact ⟨(m + 1, setB d (m / 8) (setPg b' (m % 8) (flipP (b'.pages[m % 8]'(by omega)) (kk % 2064)))), ⟨by simp only; omega, k1.flip (by omega) hm16 (by omega) hb'⟩, by simp only; omega, lZ⟩ | exact ⟨(m + 1, d), ⟨by simp only; omega, k1.mono (by omega)⟩, by simp only; omega, lZ⟩
      · simp only [decide_eq_true_eq, decide_eq_false_iff_not] at c71
        obtain ⟨t2, ho2, hu2, hl2⟩ := open_turned hh (by rw [hl1]; exact g3) k1
        have hdl : d.blocks.length = 20 := k1.len.trans hl1
        refine s_exit <| x_K <| x_K <| x_blk <| n_K <| s_seq <| s_region0 fun ops => oM rfl ?_
        refine c_ex rfl (open_b (k1.aC.trans g1) (by omega) ho2) sP rfl fun v89 Y89 h89 => ?_
        obtain ⟨tb, rfl, rfl, htb⟩ := h89
        refine so_ap aQ ?_
        refine oM rfl <| oE rfl rfl <| oE rfl rfl <| oA rfl <| oA rfl <| o_nil <| n_K <| s_seq ?_
        refine s_region [(2, 94), (6, 98)] rfl fun ops y => ?_
        refine oM rfl <| oR (rd_neNil rfl rfl) <| oM rfl ?_
        refine' o_and (j := 2) (k := 2) y rfl rfl rfl rfl rfl rfl rfl (fun hg94 => ?_) ?_
        rotate_left
        · try (simp at hg94; show _)
          refine o_g y rfl rfl ?_
          refine oM rfl ?_
          refine o_g y rfl rfl ?_
          refine oR (rd_bin rfl rfl rfl) ?_
          exact o_nil ⟨rfl, rfl, ⟨_, sP⟩⟩
        refine oM rfl ?_
        refine' o_and (j := 6) (k := 3) y rfl rfl rfl rfl rfl rfl rfl (fun hg98 => ?_) ?_
        rotate_left
        · try (simp at hg98; show _)
          refine o_g y rfl rfl ?_
          refine oM rfl ?_
          refine o_g y rfl rfl ?_
          refine oM rfl ?_
          refine o_g y rfl rfl ?_
          refine c_is rfl (sameR_fn (t := tb) (r := r1) (n := 20) (k1.aC.trans g1) hdl (by decide) g2.refS.1 (by rw [htb]; exact g2.rel.of hu2 hl2)) sP rfl aQ ?_
          exact o_nil ⟨rfl, rfl, ⟨_, sP⟩⟩
        refine oA rfl <| o_nil <| n_K <| s_ret ?_
        exact leaf_r (rets1 Tryz.results5 (rv_tmp rfl)) (by rfl) sP
end Go.Proofs.YtdfidkhbldedlaaGreat
end
