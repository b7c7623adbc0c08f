/- Plain laws: what programs and erases leave; a page is put. -/
import Derived.Test.YtdfidkhbldedlaaGreatQ0
namespace Go.Proofs.YtdfidkhbldedlaaGreat
open Go.K
set_option linter.unusedVariables false
set_option linter.unusedSimpArgs false

/-- A chip that answers. -/
structure Up (c : Chip) : Prop where
  off : c.off = false
  dead : c.dead = false
  out : c.out = false
/-- How many acts that are to come may fail. -/
def FP (c : Chip) : Nat := (c.pf.list.filter fun x => decide (c.pc ≤ x)).length
def FW (c : Chip) : Nat := (c.wf.list.filter fun x => decide (c.wc ≤ x)).length
theorem filter_step (l : List Int) (k : Int) : (l.filter fun x => decide (k + 1 ≤ x)).length + (if hasI l k = true then 1 else 0) ≤ (l.filter fun x => decide (k ≤ x)).length := by
  have h1 : ∀ l : List Int, (l.filter fun x => decide (k + 1 ≤ x)).length ≤ (l.filter fun x => decide (k ≤ x)).length := fun l => by
    induction l with
    | nil => simp
    | cons x l ih =>
      rw [List.filter_cons, List.filter_cons]
      by_cases h : k + 1 ≤ x
      · rw [if_pos (by simpa using h), if_pos (by simp; omega)]; simpa using ih
      · rw [if_neg (by simpa using h)]
        split
        · simp; omega
        · exact ih
  have h2 : ∀ l : List Int, k ∈ l → (l.filter fun x => decide (k + 1 ≤ x)).length + 1 ≤ (l.filter fun x => decide (k ≤ x)).length := fun l => by
    induction l with
    | nil => simp
    | cons x l ih =>
      intro hm
      rw [List.filter_cons, List.filter_cons]
      by_cases e : x = k
      · subst e
        rw [if_neg (by simp; omega), if_pos (by simp)]
        have := h1 l
        simp; omega
      · have hk := ih (by
          cases hm with
          | head => exact absurd rfl e
          | tail _ h => exact h)
        by_cases h : k + 1 ≤ x
        · rw [if_pos (by simpa using h), if_pos (by simp; omega)]; simp; omega
        · rw [if_neg (by simpa using h), if_neg (by simp; omega)]; exact hk
  split
  · rename_i h
    have hm : k ∈ l := by
      have : hasI l k = l.any (· == k) := idxF_any l (· == k)
      rw [this, List.any_eq_true] at h
      obtain ⟨y, h3, h4⟩ := h
      have : y = k := by simpa using h4
      subst this; exact h3
    exact h2 l hm
  · exact h1 l
/-- Counts are small. -/
structure Cnt (c : Chip) (B : Int) : Prop where
  p0 : 0 ≤ c.pc ∧ c.pc ≤ B
  w0 : 0 ≤ c.wc ∧ c.wc ≤ B
theorem failP_eq {c : Chip} {B : Int} (h : Cnt c B) (hB : B < 9000000000000000000) : failP c = hasI c.pf.list c.pc := by
  unfold failP
  have := h.p0
  rw [w64_in (x := c.pc + 1) (by omega), w64_in (by omega)]
  congr 1; omega
theorem failW_eq {c : Chip} {B : Int} (h : Cnt c B) (hB : B < 9000000000000000000) : failW c = hasI c.wf.list c.wc := by
  unfold failW
  have := h.w0
  rw [w64_in (x := c.wc + 1) (by omega), w64_in (by omega)]
  congr 1; omega
/-- A block's pages from its next one on hold nothing. -/
structure BI (b : Blk) : Prop where
  nx : 0 ≤ b.next ∧ b.next ≤ 8
  bl : ∀ (j : Nat) (h : j < 8), b.next ≤ j → b.pages[j] = blankP
/-- What stays of a chip behind acts on one block. -/
structure Fr (a : Nat) (c c' : Chip) : Prop where
  oth : ∀ k, k ≠ a → c'.blocks[k]? = c.blocks[k]?
  len : c'.blocks.length = c.blocks.length
  dead : c'.dead = c.dead
  out : c'.out = c.out
  aP : c'.aP = c.aP
  aC : c'.aC = c.aC
  aB : c'.aB = c.aB
  pf : c'.pf = c.pf
  wf : c'.wf = c.wf
  fp : FP c' ≤ FP c
  fw : FW c' ≤ FW c
  pos : c.after < 0 → c'.after = c.after ∧ c'.off = c.off
  keep : c'.keep = c.keep
theorem Fr.refl (a : Nat) (c : Chip) : Fr a c c := ⟨fun _ _ => rfl, rfl, rfl, rfl, rfl, rfl, rfl, rfl, rfl, Nat.le_refl _, Nat.le_refl _, fun _ => ⟨rfl, rfl⟩, rfl⟩
theorem Fr.trans {a : Nat} {c c' c'' : Chip} (h : Fr a c c') (k : Fr a c' c'') : Fr a c c'' :=
  ⟨fun i hi => (k.oth i hi).trans (h.oth i hi), k.len.trans h.len, k.dead.trans h.dead, k.out.trans h.out, k.aP.trans h.aP, k.aC.trans h.aC, k.aB.trans h.aB, k.pf.trans h.pf, k.wf.trans h.wf, Nat.le_trans k.fp h.fp, Nat.le_trans k.fw h.fw,
    fun hp => by
      obtain ⟨h1, h2⟩ := h.pos hp
      obtain ⟨h3, h4⟩ := k.pos (by omega)
      exact ⟨h3.trans h1, h4.trans h2⟩, k.keep.trans h.keep⟩
theorem mayU {c : Chip} (h : Up c) {i j : Nat} (hi : i < c.blocks.length) (hj : j < 8) : mayE c i j = 0 := may_ok h.off h.dead h.out (by omega) (by omega)
def wrK (b : Blk) (k : Nat) (q : Pg) : Blk := ⟨b.pages.setIfInBounds k q, (k : Int) + 1, b.bad⟩
def cp (c : Chip) : Chip := endsC (actP (cnt c))
theorem wrC_eq {c : Chip} {i j m : Nat} {d : Pg} {b : Blk} (hn : b.next = j) (hj : j < 8) (hp : b.pages[j] = blankP) : wrC c (i : Nat) (j : Nat) d b m (by simpa using hj) = setB (cp c) i (wrK b j (andP m blankP d)) := by
  have e1 : w64 (b.next + 1) = (j : Int) + 1 := by rw [hn]; exact wrap64_in (by omega)
  have e : wrB { b with next := w64 (b.next + 1) } ((j : Nat) : Int).toNat m d (by simpa using hj) = wrK b j (andP m blankP d) := by
    show setPg { b with next := w64 (b.next + 1) } j (andP m b.pages[j] d) = _
    rw [e1, hp]
    unfold setPg wrK
    rfl
  unfold wrC
  rw [e]
  rfl
/-- A page is programmed. -/
theorem prog_step {c : Chip} (up : Up c) {a j : Nat} {b : Blk} {d : Pg} (hb : c.blocks[a]? = some b) (hj : j < 8) (hbad : b.bad = false) (hbi : BI b) (hn : b.next = j) :
    ∃ e m, progC c a j d = (e, setB (cp c) a (wrK b j (andP m blankP d))) ∧ ((e = 30 ∧ endsB c = true) ∨ (e = 33 ∧ m = 129 ∧ endsB c = false ∧ failP c = true) ∨ (e = 0 ∧ m = 258 ∧ endsB c = false ∧ failP c = false)) := by
  have hi : a < c.blocks.length := (List.getElem?_eq_some_iff.1 hb).1
  have hm : mayE c a j = 0 := mayU up hi hj
  have hp := hbi.bl j hj (by omega)
  have hb' : c.blocks[((a : Nat) : Int).toNat]? = some b := by simpa using hb
  cases he : endsB c with
  | true =>
    refine ⟨30, clampN c.keep 258, ?_, .inl ⟨rfl, rfl⟩⟩
    rw [prog_down hm (by simpa using hj) hb' hn.symm he]
    exact congrArg (Prod.mk 30) (wrC_eq hn hj hp)
  | false =>
    cases hf : failP c with
    | true =>
      refine ⟨33, 129, ?_, .inr (.inl ⟨rfl, rfl, rfl, rfl⟩)⟩
      rw [prog_fail hm (by simpa using hj) hb' hn.symm he (by rw [hf]; rfl)]
      exact congrArg (Prod.mk 33) (wrC_eq hn hj hp)
    | false =>
      refine ⟨0, 258, ?_, .inr (.inr ⟨rfl, rfl, rfl, rfl⟩)⟩
      rw [prog_ok hm (by simpa using hj) hb' hn.symm he (by rw [hf, hbad]; rfl)]
      exact congrArg (Prod.mk 0) (wrC_eq hn hj hp)
theorem prog_skip {c : Chip} (up : Up c) {a j : Nat} {b : Blk} {d : Pg} (hb : c.blocks[a]? = some b) (hj : j < 8) (hn : b.next ≠ j) : progC c a j d = (32, c) := by
  have hi : a < c.blocks.length := (List.getElem?_eq_some_iff.1 hb).1
  exact prog_order (mayU up hi hj) (by simpa using hb) (fun e => hn e.symm)
theorem wrK_bi {b : Blk} {j : Nat} {q : Pg} (h : BI b) (hj : j < 8) (hn : b.next = j) : BI (wrK b j q) := by
  refine ⟨by simp only [wrK]; omega, fun i hi hle => ?_⟩
  simp only [wrK] at hle ⊢
  rw [Vector.getElem_setIfInBounds, if_neg (by omega)]
  exact h.bl i hi (by omega)
theorem wrK_at {b : Blk} {j i : Nat} {q : Pg} (hi : i < 8) : (wrK b j q).pages[i] = if j = i then q else b.pages[i] := by
  simp only [wrK]
  rw [Vector.getElem_setIfInBounds]
theorem setB_at {c : Chip} {a : Nat} {b b' : Blk} (hb : c.blocks[a]? = some b') : (setB (cp c) a b).blocks[a]? = some b := by
  have := (List.getElem?_eq_some_iff.1 hb).1
  show (c.blocks.set a b)[a]? = _
  simp [this]
theorem cp_fr {c : Chip} {a : Nat} {b : Blk} {B : Int} (hc : Cnt c B) (hB : B < 9000000000000000000) : Fr a c (setB (cp c) a b) ∧ Cnt (setB (cp c) a b) (B + 1) ∧ (failP c = true → FP (setB (cp c) a b) + 1 ≤ FP c) := by
  have hp := hc.p0
  have hw := hc.w0
  have e : (setB (cp c) a b).pc = c.pc + 1 := by
    show w64 (c.pc + 1) = c.pc + 1
    exact w64_in (by omega)
  have hfs := filter_step c.pf.list c.pc
  have hFP : FP (setB (cp c) a b) + (if hasI c.pf.list c.pc = true then 1 else 0) ≤ FP c := by
    unfold FP
    rw [e]
    exact hfs
  refine ⟨⟨fun k hk => ?_, ?_, rfl, rfl, rfl, rfl, rfl, rfl, rfl, ?_, Nat.le_refl _, fun h => ?_, rfl⟩, ⟨by rw [e]; omega, by show 0 ≤ c.wc ∧ c.wc ≤ B + 1; omega⟩, fun h => ?_⟩
  · exact List.getElem?_set_ne (fun e => hk e.symm)
  · show (c.blocks.set a b).length = _
    simp
  · omega
  · exact ⟨if_pos h, if_pos h⟩
  · rw [failP_eq hc hB] at h
    rw [if_pos h] at hFP
    exact hFP
theorem cp_off {c : Chip} {a : Nat} {b : Blk} (up : Up c) : (setB (cp c) a b).off = endsB c := by
  show (if c.after < 0 then c.off else decide (c.after = 0)) = _
  unfold endsB
  split
  · exact up.off
  · rfl
theorem ends_pos {c : Chip} (h : endsB c = true) : ¬ c.after < 0 := by
  intro h2
  unfold endsB at h
  rw [if_pos h2] at h
  cases h
/-- What a put leaves. -/
structure PutR (c : Chip) (a : Nat) (b : Blk) (q : Pg) (i' e : Int) (c' : Chip) : Prop where
  fr : Fr a c c'
  blk : ∃ b', c'.blocks[a]? = some b' ∧ BI b' ∧ b'.bad = false ∧ b.next ≤ b'.next ∧
    (∀ (j : Nat) (h : j < 8), (j : Int) < b.next → b'.pages[j] = b.pages[j]) ∧
    (∀ (j : Nat) (h : j < 8), b.next ≤ j → b'.pages[j] = blankP ∨ ∃ m, b'.pages[j] = andP m blankP q ∧ (m < 258 ∨ e = 0 ∨ e = 30)) ∧
    (e = 0 → ∃ (j : Nat) (h : j < 8), b.next ≤ j ∧ i' = (j : Int) + 1 ∧ b'.next = (j : Int) + 1 ∧ b'.pages[j] = q)
  pure : FP c = 0 → c.after < 0 → ∀ b', c'.blocks[a]? = some b' → ∀ (j : Nat) (h : j < 8), b.next ≤ j → b'.pages[j] = blankP ∨ b'.pages[j] = q
  how : (e = 30 ∧ c'.off = true ∧ ¬ c.after < 0) ∨ (e = 0 ∧ c'.off = false) ∨ (e = 34 ∧ c'.off = false ∧ i' = 8 ∧ FP c' + (8 - b.next).toNat ≤ FP c)
theorem stands_ok {c : Chip} {a j : Nat} {b : Blk} {q : Pg} (up : Up c) (hb : c.blocks[a]? = some b) (hj : j < 8) (hp : b.pages[j] = q) : standsE c a j q = 0 := by
  have hi : a < c.blocks.length := (List.getElem?_eq_some_iff.1 hb).1
  have hm := mayU up hi hj
  unfold standsE
  rw [read_of hm hb hj, hp]
  simp [hm]
theorem put_spec {a : Nat} {q : Pg} : ∀ (f : Nat) (c : Chip) (i : Nat) (b : Blk) (B : Int), i + f = 8 → Up c → c.blocks[a]? = some b → b.bad = false → BI b → (i : Int) ≤ b.next → Cnt c B → B + f < 8000000000000000000 →
    ∃ i' e c', putGo f c a i q = (i', e, c') ∧ PutR c a b q i' e c' ∧ Cnt c' (B + f)
  | 0, c, i, b, B, hf, up, hb, hbad, hbi, hle, hc, hB => by
    have := hbi.nx
    refine ⟨8, 34, c, rfl, ⟨Fr.refl a c, ⟨b, hb, hbi, hbad, Int.le_refl _, fun _ _ _ => rfl, fun j h h2 => by omega, fun h => by cases h⟩, fun _ _ b' hb' j h h2 => (by rw [hb] at hb'; cases hb'; exact .inl (hbi.bl j h h2)), .inr (.inr ⟨rfl, up.off, rfl, by omega⟩)⟩, by simpa using hc⟩
  | f + 1, c, i, b, B, hf, up, hb, hbad, hbi, hle, hc, hB => by
    have hj : i < 8 := by omega
    by_cases hn : b.next = i
    · obtain ⟨e, m, hp, hcase⟩ := prog_step up (d := q) hb hj hbad hbi hn
      obtain ⟨hfr, hcn, hfp⟩ := cp_fr (a := a) (b := wrK b i (andP m blankP q)) hc (by omega)
      have hoff := cp_off (a := a) (b := wrK b i (andP m blankP q)) up
      have hbk := setB_at (b := wrK b i (andP m blankP q)) hb
      have hbi' := wrK_bi (q := andP m blankP q) hbi hj hn
      generalize hcc : setB (cp c) a (wrK b i (andP m blankP q)) = c1 at *
      have hpg : ∀ (P : Prop), (m < 258 ∨ P) → ∀ (j : Nat) (h : j < 8), b.next ≤ j → (wrK b i (andP m blankP q)).pages[j] = blankP ∨ ∃ m', (wrK b i (andP m blankP q)).pages[j] = andP m' blankP q ∧ (m' < 258 ∨ P) := fun P hP j h h2 => by
        rw [wrK_at h]
        split
        · exact .inr ⟨m, rfl, hP⟩
        · exact .inl (hbi.bl j h h2)
      have hlo : ∀ (j : Nat) (h : j < 8), (j : Int) < b.next → (wrK b i (andP m blankP q)).pages[j] = b.pages[j] := fun j h h2 => by
        rw [wrK_at h, if_neg (by omega)]
      rcases hcase with ⟨rfl, he⟩ | ⟨rfl, rfl, he, hfl⟩ | ⟨rfl, rfl, he, hfl⟩
      · have hs : stepE c a i q = 30 := by unfold stepE; rw [hp, if_neg (show ¬ (30 : Int) = 0 by decide)]
        refine ⟨(i : Int) + 1, 30, c1, ?_, ⟨hfr, ⟨_, hbk, hbi', hbad, by simp only [wrK]; omega, hlo, hpg _ (.inr (.inr rfl)), fun h => by cases h⟩, fun _ ha => absurd ha (ends_pos he), .inl ⟨rfl, by rw [hoff, he], ends_pos he⟩⟩, ⟨by have := hcn.p0; omega, by have := hcn.w0; omega⟩⟩
        unfold putGo
        rw [if_pos (by rw [hs]; decide), hs, hp]
      · have hs : stepE c a i q = 33 := by unfold stepE; rw [hp, if_neg (show ¬ (33 : Int) = 0 by decide)]
        have up' : Up c1 := ⟨by rw [hoff, he], hfr.dead.trans up.dead, hfr.out.trans up.out⟩
        obtain ⟨i', e, c', h1, h2, h3⟩ := put_spec (a := a) (q := q) f c1 (i + 1) (wrK b i (andP 129 blankP q)) (B + 1) (by omega) up' hbk hbad hbi' (by show ((i + 1 : Nat) : Int) ≤ (i : Int) + 1; omega) hcn (by omega)
        have hnx : (wrK b i (andP 129 blankP q)).next = (i : Int) + 1 := rfl
        obtain ⟨b', k1, k2, k3, k4, k5, k6, k7⟩ := h2.blk
        rw [hnx] at k4 k5 k6 k7
        refine ⟨i', e, c', ?_, ⟨hfr.trans h2.fr, ⟨b', k1, k2, k3, by omega, fun j h hlt => by rw [k5 j h (show (j : Int) < (i : Int) + 1 by omega)]; exact hlo j h hlt, fun j h hge => ?_, fun h => ?_⟩, fun h0 _ => (by have := hfp hfl; omega), ?_⟩, ⟨by have := h3.p0; omega, by have := h3.w0; omega⟩⟩
        · unfold putGo
          rw [if_neg (by rw [hs]; decide), hp]
          exact_mod_cast h1
        · by_cases e1 : j = i
          · subst e1
            refine .inr ⟨129, ?_, .inl (by omega)⟩
            rw [k5 j h (show (j : Int) < (j : Int) + 1 by omega), wrK_at h, if_pos rfl]
          · exact k6 j h (by omega)
        · obtain ⟨j, hj8, q1, q2, q3, q4⟩ := k7 h
          exact ⟨j, hj8, by omega, q2, q3, q4⟩
        · rcases h2.how with ⟨q1, q2, q3⟩ | ⟨q1, q2⟩ | ⟨q1, q2, q3, q4⟩
          · refine .inl ⟨q1, q2, fun h => q3 ?_⟩
            rw [(hfr.pos h).1]; exact h
          · exact .inr (.inl ⟨q1, q2⟩)
          · refine .inr (.inr ⟨q1, q2, q3, ?_⟩)
            have := hfp hfl
            rw [hnx] at q4
            omega
      · have up' : Up c1 := ⟨by rw [hoff, he], hfr.dead.trans up.dead, hfr.out.trans up.out⟩
        have hq : (wrK b i (andP 258 blankP q)).pages[i] = q := by rw [wrK_at hj, if_pos rfl]; exact and_full (Nat.le_refl _)
        have hs : stepE c a i q = 0 := by unfold stepE; rw [hp, if_pos rfl]; exact stands_ok up' hbk hj hq
        refine ⟨(i : Int) + 1, 0, c1, ?_, ⟨hfr, ⟨_, hbk, hbi', hbad, by simp only [wrK]; omega, hlo, hpg _ (.inr (.inl rfl)), fun _ => ⟨i, hj, by omega, rfl, rfl, hq⟩⟩, fun _ _ b' hb' j h h2 => (by rw [hbk] at hb'; cases hb'; rw [wrK_at h]; split; exact .inr (and_full (Nat.le_refl _)); exact .inl (hbi.bl j h h2)), .inr (.inl ⟨rfl, up'.off⟩)⟩, ⟨by have := hcn.p0; omega, by have := hcn.w0; omega⟩⟩
        unfold putGo
        rw [if_pos (by rw [hs]; decide), hs, hp]
    · have hp := prog_skip up (d := q) hb hj hn
      have hs : stepE c a i q = 32 := by unfold stepE; rw [hp, if_neg (show ¬ (32 : Int) = 0 by decide)]
      obtain ⟨i', e, c', h1, h2, h3⟩ := put_spec (a := a) (q := q) f c (i + 1) b B (by omega) up hb hbad hbi (by omega) hc (by omega)
      refine ⟨i', e, c', ?_, h2, ⟨by have := h3.p0; omega, by have := h3.w0; omega⟩⟩
      unfold putGo
      rw [if_neg (by rw [hs]; decide), hp]
      exact_mod_cast h1
end Go.Proofs.YtdfidkhbldedlaaGreat
