/- Plain laws: a plan is kept, whatever goes wrong. -/
import Derived.Test.YtdfidkhbldedlaaGreatQ1
import Derived.Test.YtdfidkhbldedlaaGreatM0
namespace Go.Proofs.YtdfidkhbldedlaaGreat
open Go.K
set_option linter.unusedVariables false
set_option linter.unusedSimpArgs false

def ce (c : Chip) : Chip := endsC (actW (cnt c))
structure EraseR (c : Chip) (a : Nat) (b : Blk) (e : Int) (c' : Chip) : Prop where
  fr : Fr a c c'
  blk : ∃ b', c'.blocks[a]? = some b' ∧ BI b' ∧ b'.bad = b.bad ∧ (∀ (j : Nat) (h : j < 8), b'.pages[j] = blankP ∨ b'.pages[j] = b.pages[j]) ∧ (e = 0 → b'.next = 0)
  how : (e = 30 ∧ c'.off = true ∧ ¬ c.after < 0) ∨ (e = 33 ∧ c'.off = false ∧ FW c' + 1 ≤ FW c) ∨ (e = 0 ∧ c'.off = false)
theorem ce_fr {c : Chip} {a : Nat} {b : Blk} {B : Int} (hc : Cnt c B) (hB : B < 9000000000000000000) : Fr a c (setB (ce c) a b) ∧ Cnt (setB (ce c) a b) (B + 1) ∧ (failW c = true → FW (setB (ce c) a b) + 1 ≤ FW c) := by
  have hp := hc.p0
  have hw := hc.w0
  have e : (setB (ce c) a b).wc = c.wc + 1 := by
    show w64 (c.wc + 1) = c.wc + 1
    exact w64_in (by omega)
  have hfs := filter_step c.wf.list c.wc
  have hFW : FW (setB (ce c) a b) + (if hasI c.wf.list c.wc = true then 1 else 0) ≤ FW c := by
    unfold FW
    rw [e]
    exact hfs
  refine ⟨⟨fun k hk => ?_, ?_, rfl, rfl, rfl, rfl, rfl, rfl, rfl, Nat.le_refl _, ?_, fun h => ?_, rfl⟩, ⟨by show 0 ≤ c.pc ∧ c.pc ≤ B + 1; omega, by rw [e]; omega⟩, fun h => ?_⟩
  · exact List.getElem?_set_ne (fun e => hk e.symm)
  · show (c.blocks.set a b).length = _
    simp
  · omega
  · exact ⟨if_pos h, if_pos h⟩
  · rw [failW_eq hc hB] at h
    rw [if_pos h] at hFW
    exact hFW
theorem ce_off {c : Chip} {a : Nat} {b : Blk} (up : Up c) : (setB (ce c) a b).off = endsB c := by
  show (if c.after < 0 then c.off else decide (c.after = 0)) = _
  unfold endsB
  split
  · exact up.off
  · rfl
theorem setBe_at {c : Chip} {a : Nat} {b b' : Blk} (hb : c.blocks[a]? = some b') : (setB (ce c) a b).blocks[a]? = some b := by
  have := (List.getElem?_eq_some_iff.1 hb).1
  show (c.blocks.set a b)[a]? = _
  simp [this]
theorem wipe_at {b : Blk} {m j : Nat} (h : j < 8) : (wipeB b m).pages[j] = if j < m then blankP else b.pages[j] := by simp [wipeB]
/-- A block is erased. -/
theorem erase_spec {c : Chip} {a : Nat} {b : Blk} {B : Int} (up : Up c) (hb : c.blocks[a]? = some b) (hbad : b.bad = false) (hc : Cnt c B) (hB : B < 8000000000000000000) : ∃ e c', eraseC c a = (e, c') ∧ EraseR c a b e c' ∧ Cnt c' (B + 1) := by
  have hi : a < c.blocks.length := (List.getElem?_eq_some_iff.1 hb).1
  have hm : mayE c a 0 = 0 := mayU (j := 0) up hi (by omega)
  have hb' : c.blocks[((a : Nat) : Int).toNat]? = some b := by simpa using hb
  cases he : endsB c with
  | true =>
    refine ⟨30, _, erase_down hm hb' he, ?_⟩
    rw [Int.toNat_natCast]
    obtain ⟨h1, h2, _⟩ := ce_fr (a := a) (b := wipeB { b with next := 8 } (clampN c.keep 8)) hc (by omega)
    exact ⟨⟨h1, ⟨_, setBe_at hb, ⟨⟨by simp [wipeB], by simp [wipeB]⟩, fun j h h2 => (by simp only [wipeB] at h2; omega)⟩, rfl, fun j h => by rw [wipe_at h]; split; exact .inl rfl; exact .inr rfl, fun h => by cases h⟩, .inl ⟨rfl, (ce_off up).trans he, ends_pos he⟩⟩, h2⟩
  | false =>
    cases hf : failW c with
    | true =>
      refine ⟨33, _, erase_fail hm hb' he (by rw [hf]; rfl), ?_⟩
      rw [Int.toNat_natCast]
      obtain ⟨h1, h2, h3⟩ := ce_fr (a := a) (b := { b with next := 8 }) hc (by omega)
      exact ⟨⟨h1, ⟨_, setBe_at hb, ⟨⟨by simp, by simp⟩, fun j h h2 => (by simp only at h2; omega)⟩, rfl, fun j h => .inr rfl, fun h => by cases h⟩, .inr (.inl ⟨rfl, (ce_off up).trans he, h3 hf⟩)⟩, h2⟩
    | false =>
      refine ⟨0, _, erase_ok hm hb' he (by rw [hf, hbad]; rfl), ?_⟩
      rw [Int.toNat_natCast]
      obtain ⟨h1, h2, h3⟩ := ce_fr (a := a) (b := { wipeB { b with next := 8 } 8 with next := 0 }) hc (by omega)
      have hpg : ∀ (j : Nat) (h : j < 8), ({ wipeB { b with next := 8 } 8 with next := 0 } : Blk).pages[j] = blankP := fun j h => by
        show (wipeB { b with next := 8 } 8).pages[j] = blankP
        rw [wipe_at h, if_pos h]
      exact ⟨⟨h1, ⟨_, setBe_at hb, ⟨⟨by simp, by simp⟩, fun j h _ => hpg j h⟩, rfl, fun j h => .inl (hpg j h), fun _ => rfl⟩, .inr (.inr ⟨rfl, (ce_off up).trans he⟩)⟩, h2⟩

/-- The newest plan that a chip holds, and an area in which it stands. -/
structure Hold (c : Chip) (v : Nat) (u l : List Int) (a : Nat) : Prop where
  ok : OkP c.blocks.length u l
  a2 : a < 2
  bs : ∀ k < 2, ∃ b, c.blocks[k]? = some b ∧ BI b ∧ b.bad = false
  le : ∀ k < 2, ∀ b, c.blocks[k]? = some b → ∀ (j : Nat) (h : j < 8) (w : Nat) (u' l' : List Int), RP c.blocks.length b.pages[j] = some (w, u', l') → w ≤ v ∧ (w = v → u' = u ∧ l' = l)
  ex : ∃ b, c.blocks[a]? = some b ∧ ∃ (j : Nat) (h : j < 8), RP c.blocks.length b.pages[j] = some (v, u, l)
theorem blankP_b : blankB blankP = true := blankP_blank
theorem rp_blank {n : Nat} : RP n blankP = none := rp_bl blankP_b
theorem Hold.put {c c' : Chip} {v : Nat} {u l u' l' : List Int} {a k : Nat} {V : Wd} {b : Blk} {i' e : Int} (h : Hold c v u l a) (hk : k < 2) (hb : c.blocks[k]? = some b) (hV : V.toNat = v + 1) (ok : OkP c.blocks.length u' l')
    (r : PutR c k b (planP V c.blocks.length u' l') i' e c') : (e = 0 → Hold c' (v + 1) u' l' k) ∧ (e = 30 → Hold c' v u l a ∨ Hold c' (v + 1) u' l' k) ∧ (e = 34 → Hold c' v u l a) := by
  obtain ⟨b', k1, k2, k3, k4, k5, k6, k7⟩ := r.blk
  have hq := rp_plan (v := V) ok
  rw [hV] at hq
  generalize planP V c.blocks.length u' l' = q at *
  obtain ⟨b0, hb0, hbi, _⟩ := h.bs k hk
  rw [hb] at hb0
  cases hb0
  have hbs : ∀ i < 2, ∃ b, c'.blocks[i]? = some b ∧ BI b ∧ b.bad = false := fun i hi => by
    by_cases e1 : i = k
    · subst e1; exact ⟨b', k1, k2, k3⟩
    · rw [r.fr.oth i e1]; exact h.bs i hi
  have hpg : ∀ (j : Nat) (hj : j < 8), (RP c.blocks.length b'.pages[j] = none ∨ ∃ (hlt : (j : Int) < b.next), b'.pages[j] = b.pages[j]) ∨ (b'.pages[j] = q ∧ (e = 0 ∨ e = 30)) := fun j hj => by
    rcases (show (j : Int) < b.next ∨ b.next ≤ j by omega) with h1 | h1
    · exact .inl (.inr ⟨h1, k5 j hj h1⟩)
    · rcases k6 j hj h1 with h2 | ⟨m, h2, h3⟩
      · exact .inl (.inl (by rw [h2]; exact rp_blank))
      · rcases Nat.lt_or_ge m 258 with hm | hm
        · exact .inl (.inl (by rw [h2]; exact and_torn hm))
        · rw [and_full hm] at h2
          exact .inr ⟨h2, by rcases h3 with h3 | h3; omega; exact h3⟩
  have hnew : (∃ (j : Nat) (hj : j < 8), b'.pages[j] = q) → Hold c' (v + 1) u' l' k := fun ⟨j0, hj0, h0⟩ => by
    refine ⟨by rw [r.fr.len]; exact ok, hk, hbs, fun i hi b2 hb2 j hj w u2 l2 hw => ?_, ⟨b', k1, j0, hj0, by rw [r.fr.len, h0]; exact hq⟩⟩
    rw [r.fr.len] at hw
    by_cases e1 : i = k
    · subst e1
      rw [k1] at hb2
      cases hb2
      rcases hpg j hj with (h1 | ⟨h1, h2⟩) | ⟨h1, _⟩
      · rw [h1] at hw; cases hw
      · rw [h2] at hw
        have := (h.le i hi b hb j hj w u2 l2 hw).1
        exact ⟨by omega, fun e2 => by omega⟩
      · rw [h1, hq] at hw
        simp only [Option.some.injEq, Prod.mk.injEq] at hw
        obtain ⟨h3, h4, h5⟩ := hw
        exact ⟨by omega, fun _ => ⟨h4.symm, h5.symm⟩⟩
    · rw [r.fr.oth i e1] at hb2
      have := (h.le i hi b2 hb2 j hj w u2 l2 hw).1
      exact ⟨by omega, fun e2 => by omega⟩
  have hold : (∀ (j : Nat) (hj : j < 8), RP c.blocks.length b'.pages[j] = none ∨ ∃ (hlt : (j : Int) < b.next), b'.pages[j] = b.pages[j]) → Hold c' v u l a := fun hall => by
    refine ⟨by rw [r.fr.len]; exact h.ok, h.a2, hbs, fun i hi b2 hb2 j hj w u2 l2 hw => ?_, ?_⟩
    · rw [r.fr.len] at hw
      by_cases e1 : i = k
      · subst e1
        rw [k1] at hb2
        cases hb2
        rcases hall j hj with h1 | ⟨h1, h2⟩
        · rw [h1] at hw; cases hw
        · rw [h2] at hw
          exact h.le i hi b hb j hj w u2 l2 hw
      · rw [r.fr.oth i e1] at hb2
        exact h.le i hi b2 hb2 j hj w u2 l2 hw
    · obtain ⟨b2, hb2, j, hj, hr⟩ := h.ex
      rw [r.fr.len]
      by_cases e1 : a = k
      · subst e1
        rw [hb] at hb2
        cases hb2
        have hlt : (j : Int) < b.next := by
          rcases (show (j : Int) < b.next ∨ b.next ≤ j by omega) with h1 | h1
          · exact h1
          · rw [hbi.bl j hj h1, rp_blank] at hr; cases hr
        exact ⟨b', k1, j, hj, by rw [k5 j hj hlt]; exact hr⟩
      · exact ⟨b2, by rw [r.fr.oth a e1]; exact hb2, j, hj, hr⟩
  have hdec : (∃ (j : Nat) (hj : j < 8), b'.pages[j] = q) ∨ (∀ (j : Nat) (hj : j < 8), RP c.blocks.length b'.pages[j] = none ∨ ∃ (hlt : (j : Int) < b.next), b'.pages[j] = b.pages[j]) := by
    by_cases hx : ∃ (j : Nat) (hj : j < 8), b'.pages[j] = q
    · exact .inl hx
    · refine .inr fun j hj => ?_
      rcases hpg j hj with h1 | ⟨h1, _⟩
      · exact h1
      · exact absurd ⟨j, hj, h1⟩ hx
  refine ⟨fun e0 => ?_, fun e0 => ?_, fun e0 => ?_⟩
  · obtain ⟨j, hj, _, _, _, h1⟩ := k7 e0
    exact hnew ⟨j, hj, h1⟩
  · rcases hdec with h1 | h1
    · exact .inr (hnew h1)
    · exact .inl (hold h1)
  · refine hold fun j hj => ?_
    rcases hpg j hj with h1 | ⟨_, h1⟩
    · exact h1
    · omega
theorem Hold.erase {c c' : Chip} {v : Nat} {u l : List Int} {a k : Nat} {b : Blk} {e : Int} (h : Hold c v u l a) (hk : k ≠ a) (hb : c.blocks[k]? = some b) (hbad : b.bad = false) (r : EraseR c k b e c') : Hold c' v u l a := by
  obtain ⟨b', k1, k2, k3, k4, k5⟩ := r.blk
  refine ⟨by rw [r.fr.len]; exact h.ok, h.a2, fun i hi => ?_, fun i hi b2 hb2 j hj w u2 l2 hw => ?_, ?_⟩
  · by_cases e1 : i = k
    · subst e1; exact ⟨b', k1, k2, k3.trans hbad⟩
    · rw [r.fr.oth i e1]; exact h.bs i hi
  · rw [r.fr.len] at hw
    by_cases e1 : i = k
    · subst e1
      rw [k1] at hb2
      cases hb2
      rcases k4 j hj with h1 | h1
      · rw [h1, rp_blank] at hw; cases hw
      · rw [h1] at hw; exact h.le i hi b hb j hj w u2 l2 hw
    · rw [r.fr.oth i e1] at hb2
      exact h.le i hi b2 hb2 j hj w u2 l2 hw
  · obtain ⟨b2, hb2, j, hj, hr⟩ := h.ex
    rw [r.fr.len]
    exact ⟨b2, by rw [r.fr.oth a (fun e1 => hk e1.symm)]; exact hb2, j, hj, hr⟩
/-- A table that is the chip's. -/
def TI (c : Chip) (t : TS) : Prop := ∃ a : Nat, t.area = a ∧ Hold c t.version.toNat t.uses t.lost a ∧ ∃ b, c.blocks[a]? = some b ∧ 0 ≤ t.next ∧ t.next ≤ b.next
/-- What acts on the table's own blocks leave. -/
structure Fr2 (c c' : Chip) : Prop where
  oth : ∀ k, 2 ≤ k → c'.blocks[k]? = c.blocks[k]?
  len : c'.blocks.length = c.blocks.length
  dead : c'.dead = c.dead
  out : c'.out = c.out
  aP : c'.aP = c.aP
  aC : c'.aC = c.aC
  aB : c'.aB = c.aB
  pf : c'.pf = c.pf
  wf : c'.wf = c.wf
  fp : FP c' ≤ FP c
  fw : FW c' ≤ FW c
  pos : c.after < 0 → c'.after = c.after ∧ c'.off = c.off
  keep : c'.keep = c.keep
theorem Fr2.refl (c : Chip) : Fr2 c c := ⟨fun _ _ => rfl, rfl, rfl, rfl, rfl, rfl, rfl, rfl, rfl, Nat.le_refl _, Nat.le_refl _, fun _ => ⟨rfl, rfl⟩, rfl⟩
theorem Fr.two {a : Nat} {c c' : Chip} (h : Fr a c c') (ha : a < 2) : Fr2 c c' := ⟨fun k hk => h.oth k (by omega), h.len, h.dead, h.out, h.aP, h.aC, h.aB, h.pf, h.wf, h.fp, h.fw, h.pos, h.keep⟩
theorem Fr2.trans {c c' c'' : Chip} (h : Fr2 c c') (k : Fr2 c' c'') : Fr2 c c'' :=
  ⟨fun i hi => (k.oth i hi).trans (h.oth i hi), k.len.trans h.len, k.dead.trans h.dead, k.out.trans h.out, k.aP.trans h.aP, k.aC.trans h.aC, k.aB.trans h.aB, k.pf.trans h.pf, k.wf.trans h.wf, Nat.le_trans k.fp h.fp, Nat.le_trans k.fw h.fw,
    fun hp => by
      obtain ⟨h1, h2⟩ := h.pos hp
      obtain ⟨h3, h4⟩ := k.pos (by omega)
      exact ⟨h3.trans h1, h4.trans h2⟩, k.keep.trans h.keep⟩
/-- What a loop of keeping comes to. -/
def KOut (c : Chip) (v : Nat) (u l u' l' : List Int) (a : Nat) (s : KS) : Prop :=
  (s.e = 0 ∧ s.c.off = false ∧ ∃ k, s.area = (k : Nat) ∧ Hold s.c (v + 1) u' l' k ∧ ∃ b, s.c.blocks[k]? = some b ∧ 0 ≤ s.next ∧ s.next ≤ b.next) ∨
  (s.e = 30 ∧ s.c.off = true ∧ ¬ c.after < 0 ∧ (Hold s.c v u l a ∨ ∃ k, Hold s.c (v + 1) u' l' k))
theorem Up.of {c c' : Chip} (h : Up c) (hd : c'.dead = c.dead) (ho : c'.out = c.out) (hf : c'.off = false) : Up c' := ⟨hf, hd.trans h.dead, ho.trans h.out⟩
theorem putC_eq {c : Chip} {a : Int} {i : Nat} {q : Pg} : putC c a i q = putGo (8 - i) c a i q := by
  unfold putC
  congr 1
  omega
theorem loop_spec {v : Nat} {u l u' l' : List Int} {a n : Nat} {V : Wd} (ha : a < 2) (hV : V.toNat = v + 1) (ok : OkP n u' l') :
    ∀ (f : Nat) (s : KS) (B : Int), s.e = 34 → s.c.blocks.length = n → Hold s.c v u l a → Up s.c → FP s.c ≤ 7 → FW s.c < f → Cnt s.c B → B + 100 * f < 8000000000000000000 →
      KOut s.c v u l u' l' a (keepGo f (a : Nat) (planP V n u' l') s) ∧ Fr2 s.c (keepGo f (a : Nat) (planP V n u' l') s).c ∧ Cnt (keepGo f (a : Nat) (planP V n u' l') s).c (B + 9 * f)
  | 0, s, B, he, hn, h, up, hfp, hfw, hc, hB => by omega
  | f + 1, s, B, he, hn, h, up, hfp, hfw, hc, hB => by
    obtain ⟨b, hb, hbi, hbad⟩ := h.bs (1 - a) (by omega)
    obtain ⟨e, c1, h1, h2, h3⟩ := erase_spec up hb hbad hc (by omega)
    have hra : (1 : Int) - (a : Nat) = ((1 - a : Nat) : Int) := by omega
    have hold1 := h.erase (k := 1 - a) (by omega) hb hbad h2
    unfold keepGo
    rw [if_pos he]
    unfold keep1
    simp only []
    rw [hra, h1]
    simp only []
    rcases h2.how with ⟨rfl, q1, q2⟩ | ⟨rfl, q1, q2⟩ | ⟨rfl, q1⟩
    · rw [if_neg (by decide), if_neg (by decide)]
      have hk : keepGo f (a : Nat) (planP V n u' l') ⟨((1 - a : Nat) : Int), s.next, 30, c1⟩ = ⟨((1 - a : Nat) : Int), s.next, 30, c1⟩ := by
        cases f with
        | zero => rfl
        | succ f => unfold keepGo; rw [if_neg (show ¬ (30 : Int) = 34 by decide)]
      rw [hk]
      exact ⟨.inr ⟨rfl, q1, q2, .inl hold1⟩, h2.fr.two (by omega), ⟨by have := h3.p0; simp only; omega, by have := h3.w0; simp only; omega⟩⟩
    · rw [if_neg (by decide), if_pos rfl]
      have up1 := up.of h2.fr.dead h2.fr.out q1
      obtain ⟨r1, r2, r3⟩ := loop_spec ha hV ok f ⟨((1 - a : Nat) : Int), s.next, s.e, c1⟩ (B + 1) he (h2.fr.len.trans hn) hold1 up1 (by have := h2.fr.fp; simp only; omega) (by simp only; omega) h3 (by omega)
      refine ⟨?_, (h2.fr.two (by omega)).trans r2, ⟨by have := r3.p0; omega, by have := r3.w0; omega⟩⟩
      rcases r1 with r1 | ⟨r1, r4, r5, r6⟩
      · exact .inl r1
      · exact .inr ⟨r1, r4, fun hp => r5 (by show c1.after < 0; rw [(h2.fr.pos hp).1]; exact hp), r6⟩
    · rw [if_pos rfl]
      have up1 := up.of h2.fr.dead h2.fr.out q1
      obtain ⟨b1, k1, k2, k3, k4, k5⟩ := h2.blk
      have hp0 : putC c1 ((1 - a : Nat) : Int) 0 (planP V n u' l') = putGo 8 c1 ((1 - a : Nat) : Int) ((0 : Nat) : Int) (planP V n u' l') := putC_eq (i := 0)
      obtain ⟨i', e, c2, p1, p2, p3⟩ := put_spec (a := 1 - a) (q := planP V n u' l') 8 c1 0 b1 (B + 1) (by omega) up1 k1 (k3.trans hbad) k2 (by rw [k5 rfl]; exact Int.le_refl _) h3 (by omega)
      rw [hp0, p1]
      simp only []
      have hlen1 : c1.blocks.length = n := h2.fr.len.trans hn
      have hp := hold1.put (k := 1 - a) (V := V) (u' := u') (l' := l') (by omega) k1 hV (by rw [hlen1]; exact ok) (by rw [hlen1]; exact p2)
      have hkk : e ≠ 34 → keepGo f (a : Nat) (planP V n u' l') ⟨((1 - a : Nat) : Int), i', e, c2⟩ = ⟨((1 - a : Nat) : Int), i', e, c2⟩ := fun hne => by
        cases f with
        | zero => rfl
        | succ f => unfold keepGo; rw [if_neg hne]
      have hfr := (h2.fr.two (by omega)).trans (p2.fr.two (by omega))
      rcases p2.how with ⟨rfl, q2, q3⟩ | ⟨rfl, q2⟩ | ⟨rfl, q2, q3, q4⟩
      · rw [hkk (by decide)]
        refine ⟨.inr ⟨rfl, q2, fun hpo => q3 (by rw [(h2.fr.pos hpo).1]; exact hpo), ?_⟩, hfr, ⟨by have := p3.p0; simp only; omega, by have := p3.w0; simp only; omega⟩⟩
        rcases hp.2.1 rfl with h5 | h5
        · exact .inl h5
        · exact .inr ⟨_, h5⟩
      · rw [hkk (by decide)]
        obtain ⟨b2, m1, m2, m3, m4, m5, m6, m7⟩ := p2.blk
        obtain ⟨j, hj, _, n2, n3, _⟩ := m7 rfl
        exact ⟨.inl ⟨rfl, q2, 1 - a, rfl, hp.1 rfl, b2, m1, by simp only; omega, by simp only; omega⟩, hfr, ⟨by have := p3.p0; simp only; omega, by have := p3.w0; simp only; omega⟩⟩
      · have h9 := k5 rfl
        have h10 := h2.fr.fp
        rw [h9] at q4
        have : (8 - (0 : Int)).toNat = 8 := rfl
        omega
/-- A plan is kept. -/
theorem keep_hold {c : Chip} {t : TS} {u l : List Int} {B : Int} (up : Up c) (h : TI c t) (hv : t.version.toNat + 1 < 18446744073709551616) (ok : OkP c.blocks.length u l) (hfp : FP c ≤ 7) (hfw : FW c ≤ 3) (hc : Cnt c B) (hB : B + 1000 < 8000000000000000000) :
    ∃ e t' c', keepC t u l c = (e, t', c') ∧ Fr2 c c' ∧ Cnt c' (B + 100) ∧
      ((e = 0 ∧ Up c' ∧ TI c' t' ∧ t'.uses = u ∧ t'.lost = l ∧ t'.version.toNat = t.version.toNat + 1) ∨
       (e = 30 ∧ c'.off = true ∧ ¬ c.after < 0 ∧ t' = t ∧ ((∃ a, Hold c' t.version.toNat t.uses t.lost a) ∨ ∃ a, Hold c' (t.version.toNat + 1) u l a))) := by
  obtain ⟨a, ha, hh, b, hb, hn0, hn1⟩ := h
  have hV : (t.version + 1).toNat = t.version.toNat + 1 := by
    rw [BitVec.toNat_add]
    show (t.version.toNat + 1) % 2 ^ 64 = _
    exact Nat.mod_eq_of_lt hv
  obtain ⟨b0, hb0, hbi, hbad⟩ := hh.bs a hh.a2
  rw [hb] at hb0
  cases hb0
  have hnx := hbi.nx
  obtain ⟨i, hi⟩ : ∃ i : Nat, t.next = i := ⟨t.next.toNat, by omega⟩
  obtain ⟨i', e, c1, p1, p2, p3⟩ := put_spec (a := a) (q := planP (t.version + 1) c.blocks.length u l) (8 - i) c i b B (by omega) up hb hbad hbi (by omega) hc (by omega)
  have hp0 : putC c t.area t.next (planP (t.version + 1) c.blocks.length u l) = (i', e, c1) := by rw [ha, hi, putC_eq]; exact p1
  have hp := hh.put (k := a) (V := t.version + 1) (u' := u) (l' := l) hh.a2 hb hV ok p2
  have hS : keepS t u l c = keepGo 4 (a : Nat) (planP (t.version + 1) c.blocks.length u l) ⟨(a : Nat), i', e, c1⟩ := by
    unfold keepS
    simp only []
    rw [hp0, ha]
  have key : KOut c t.version.toNat t.uses t.lost u l a (keepS t u l c) ∧ Fr2 c (keepS t u l c).c ∧ Cnt (keepS t u l c).c (B + 100) := by
    rw [hS]
    have hfr := p2.fr.two hh.a2
    have hkk : e ≠ 34 → keepGo 4 (a : Nat) (planP (t.version + 1) c.blocks.length u l) ⟨(a : Nat), i', e, c1⟩ = ⟨(a : Nat), i', e, c1⟩ := fun hne => by
      unfold keepGo; rw [if_neg hne]
    rcases p2.how with ⟨rfl, q2, q3⟩ | ⟨rfl, q2⟩ | ⟨rfl, q2, q3, q4⟩
    · rw [hkk (by decide)]
      refine ⟨.inr ⟨rfl, q2, q3, ?_⟩, hfr, ⟨by have := p3.p0; simp only; omega, by have := p3.w0; simp only; omega⟩⟩
      rcases hp.2.1 rfl with h5 | h5
      · exact .inl h5
      · exact .inr ⟨_, h5⟩
    · rw [hkk (by decide)]
      obtain ⟨b2, m1, m2, m3, m4, m5, m6, m7⟩ := p2.blk
      obtain ⟨j, hj, _, n2, n3, _⟩ := m7 rfl
      exact ⟨.inl ⟨rfl, q2, a, rfl, hp.1 rfl, b2, m1, by simp only; omega, by simp only; omega⟩, hfr, ⟨by have := p3.p0; simp only; omega, by have := p3.w0; simp only; omega⟩⟩
    · have h10 := p2.fr.fp
      have h11 := p2.fr.fw
      have hlen : c1.blocks.length = c.blocks.length := p2.fr.len
      obtain ⟨r1, r2, r3⟩ := loop_spec (n := c.blocks.length) (V := t.version + 1) (u := t.uses) (l := t.lost) hh.a2 hV ok 4 ⟨(a : Nat), i', 34, c1⟩ (B + 8) rfl hlen (hp.2.2 rfl) (up.of p2.fr.dead p2.fr.out q2) (by simp only; omega) (by simp only; omega) ⟨by have := p3.p0; simp only; omega, by have := p3.w0; simp only; omega⟩ (by omega)
      refine ⟨?_, hfr.trans r2, ⟨by have := r3.p0; omega, by have := r3.w0; omega⟩⟩
      rcases r1 with r1 | ⟨r1, r4, r5, r6⟩
      · exact .inl r1
      · exact .inr ⟨r1, r4, fun hpo => r5 (by show c1.after < 0; rw [(p2.fr.pos hpo).1]; exact hpo), r6⟩
  obtain ⟨k1, k2, k3⟩ := key
  generalize hs : keepS t u l c = s at *
  rcases k1 with ⟨e0, h1, k, h2, h3, b2, h4, h5, h6⟩ | ⟨e0, h1, h2, h3⟩
  · refine ⟨0, ⟨u, l, t.version + 1, s.area, s.next, s.next - 1⟩, s.c, ?_, k2, k3, .inl ⟨rfl, up.of k2.dead k2.out h1, ⟨k, h2, ?_, b2, h4, h5, h6⟩, rfl, rfl, hV⟩⟩
    · unfold keepC
      simp only [hs]
      rw [if_neg (by rw [e0]; decide)]
    · show Hold s.c (t.version + 1).toNat u l k
      rw [hV]; exact h3
  · refine ⟨30, t, s.c, ?_, k2, k3, .inr ⟨rfl, h1, h2, rfl, ?_⟩⟩
    · unfold keepC
      simp only [hs]
      rw [if_pos (by rw [e0]; decide), e0]
    · rcases h3 with h3 | h3
      · exact .inl ⟨a, h3⟩
      · exact .inr h3
/-- A chip is opened. -/
theorem open_hold {c : Chip} {v a : Nat} {u l : List Int} (up : Up c) (h : Hold c v u l a) : ∃ t, openC c = (0, t) ∧ TI c t ∧ t.uses = u ∧ t.lost = l ∧ t.version.toNat = v := by
  have hlen : 2 ≤ c.blocks.length := by have := h.ok.n1; omega
  have hm : mayE c 0 0 = 0 := mayU (i := 0) (j := 0) up (by omega) (by omega)
  have hrd : ∀ k < 2, ∀ b, c.blocks[k]? = some b → ∀ (j : Nat) (hj : j < 8), readP c (k : Nat) (j : Nat) = b.pages[j] := fun k hk b hb j hj => read_of (mayU up (by omega) hj) hb hj
  obtain ⟨b, hb, j, hj, hr⟩ := h.ex
  obtain ⟨t, ho, hi⟩ := openC_some hm h.a2 hj (by rw [hrd a h.a2 b hb j hj]; exact hr)
  refine ⟨t, ho, ?_⟩
  obtain ⟨k, hk⟩ : ∃ k : Nat, t.area = k := ⟨t.area.toNat, by have := hi.area; omega⟩
  have hk2 : k < 2 := by have := hi.area; omega
  obtain ⟨b2, hb2, hbi2, _⟩ := h.bs k hk2
  obtain ⟨⟨r1, r2⟩, r3⟩ := hi.rc
  obtain ⟨j2, hj2⟩ : ∃ j : Nat, t.at' = j := ⟨t.at'.toNat, by omega⟩
  have hj28 : j2 < 8 := by omega
  rw [hk, hj2, hrd k hk2 b2 hb2 j2 hj28] at r3
  have h1 := h.le k hk2 b2 hb2 j2 hj28 _ _ _ r3
  have h2 := hi.le a h.a2 j hj v u l (by rw [hrd a h.a2 b hb j hj]; exact hr)
  have hv : t.version.toNat = v := by omega
  obtain ⟨h3, h4⟩ := h1.2 hv
  refine ⟨⟨k, hk, ?_, b2, hb2, hi.l0.1, ?_⟩, h3, h4, hv⟩
  · rw [hv, h3, h4]
    refine ⟨h.ok, hk2, h.bs, h.le, ⟨b2, hb2, j2, hj28, ?_⟩⟩
    rw [r3, hv, h3, h4]
  · rcases (show t.next ≤ b2.next ∨ b2.next < t.next by omega) with h5 | h5
    · exact h5
    · exfalso
      have hnx := hbi2.nx
      have hl := hi.l0
      have hnb := hi.nb (by omega)
      obtain ⟨i, hi2⟩ : ∃ i : Nat, t.next - 1 = i := ⟨(t.next - 1).toNat, by omega⟩
      rw [hk, hi2, hrd k hk2 b2 hb2 i (by omega), hbi2.bl i (by omega) (by omega), blankP_b] at hnb
      cases hnb
end Go.Proofs.YtdfidkhbldedlaaGreat
