/- Plain laws: what pages of a table's own blocks are, where nothing goes wrong; turned bits in them. -/
import Derived.Test.YtdfidkhbldedlaaGreatQ2
namespace Go.Proofs.YtdfidkhbldedlaaGreat
open Go.K
set_option linter.unusedVariables false
set_option linter.unusedSimpArgs false

/-- All pages of the table's own blocks are such. -/
def PgP (c : Chip) (S : Pg → Prop) : Prop := ∀ a < 2, ∀ b, c.blocks[a]? = some b → ∀ (j : Nat) (h : j < 8), S b.pages[j]
theorem put_pg {c c' : Chip} {a : Nat} {b : Blk} {q : Pg} {i' e : Int} {S : Pg → Prop} (r : PutR c a b q i' e c') (hb : c.blocks[a]? = some b) (h0 : FP c = 0) (ha : c.after < 0) (hS : PgP c S) (hbl : S blankP) (hq : S q) : PgP c' S := fun k hk b2 hb2 j hj => by
  by_cases e1 : k = a
  · subst e1
    obtain ⟨b', k1, _, _, _, k5, _⟩ := r.blk
    rw [k1] at hb2
    cases hb2
    rcases (show (j : Int) < b.next ∨ b.next ≤ j by omega) with h1 | h1
    · rw [k5 j hj h1]; exact hS k hk b hb j hj
    · rcases r.pure h0 ha _ k1 j hj h1 with h2 | h2 <;> rw [h2] <;> assumption
  · rw [r.fr.oth k e1] at hb2
    exact hS k hk b2 hb2 j hj
theorem erase_pg {c c' : Chip} {a : Nat} {b : Blk} {e : Int} {S : Pg → Prop} (r : EraseR c a b e c') (hb : c.blocks[a]? = some b) (hS : PgP c S) (hbl : S blankP) : PgP c' S := fun k hk b2 hb2 j hj => by
  by_cases e1 : k = a
  · subst e1
    obtain ⟨b', k1, _, _, k4, _⟩ := r.blk
    rw [k1] at hb2
    cases hb2
    rcases k4 j hj with h1 | h1
    · rw [h1]; exact hbl
    · rw [h1]; exact hS k hk b hb j hj
  · rw [r.fr.oth k e1] at hb2
    exact hS k hk b2 hb2 j hj
theorem keep_pg {c : Chip} {t : TS} {u l : List Int} {B : Int} {S : Pg → Prop} (up : Up c) (h : TI c t) (hfp : FP c = 0) (hfw : FW c = 0) (ha : c.after < 0) (hc : Cnt c B) (hB : B + 1000 < 8000000000000000000) (hS : PgP c S) (hbl : S blankP) (hq : S (planP (t.version + 1) c.blocks.length u l)) :
    PgP (keepC t u l c).2.2 S := by
  obtain ⟨a, har, hh, b, hb, hn0, hn1⟩ := h
  obtain ⟨b0, hb0, hbi, hbad⟩ := hh.bs a hh.a2
  rw [hb] at hb0
  cases hb0
  have hnx := hbi.nx
  obtain ⟨i, hi⟩ : ∃ i : Nat, t.next = i := ⟨t.next.toNat, by omega⟩
  obtain ⟨i', e, c1, p1, p2, p3⟩ := put_spec (a := a) (q := planP (t.version + 1) c.blocks.length u l) (8 - i) c i b B (by omega) up hb hbad hbi (by omega) hc (by omega)
  have hp0 : putC c t.area t.next (planP (t.version + 1) c.blocks.length u l) = (i', e, c1) := by rw [har, hi, putC_eq]; exact p1
  have hK : (keepC t u l c).2.2 = (keepS t u l c).c := by
    unfold keepC
    simp only []
    split <;> rfl
  have hSS : keepS t u l c = keepGo 4 (a : Nat) (planP (t.version + 1) c.blocks.length u l) ⟨(a : Nat), i', e, c1⟩ := by
    unfold keepS
    simp only []
    rw [hp0, har]
  rw [hK, hSS]
  have hS1 := put_pg p2 hb hfp ha hS hbl hq
  have hlen : c1.blocks.length = c.blocks.length := p2.fr.len
  have hfp1 : FP c1 = 0 := by have := p2.fr.fp; omega
  have hfw1 : FW c1 = 0 := by have := p2.fr.fw; omega
  generalize planP (t.version + 1) c.blocks.length u l = q at *
  rcases p2.how with ⟨rfl, q2, q3⟩ | ⟨rfl, q2⟩ | ⟨rfl, q2, q3, q4⟩
  · exact absurd ha q3
  · unfold keepGo
    rw [if_neg (show ¬ (0 : Int) = 34 by decide)]
    exact hS1
  · have up1 := up.of p2.fr.dead p2.fr.out q2
    have ha1 : c1.after < 0 := by rw [(p2.fr.pos ha).1]; exact ha
    have hbs : ∃ b1, c1.blocks[1 - a]? = some b1 ∧ b1.bad = false := by
      obtain ⟨b1, h1, _, h2⟩ := hh.bs (1 - a) (by omega)
      have := hh.a2
      exact ⟨b1, by rw [p2.fr.oth (1 - a) (by omega)]; exact h1, h2⟩
    obtain ⟨b1, hb1, hbad1⟩ := hbs
    have ha2 := hh.a2
    have hra : (1 : Int) - (a : Nat) = ((1 - a : Nat) : Int) := by omega
    obtain ⟨e2, c2, r1, r2, r3⟩ := erase_spec up1 hb1 hbad1 p3 (by omega)
    have hS2 := erase_pg r2 hb1 hS1 hbl
    unfold keepGo
    rw [if_pos rfl]
    unfold keep1
    simp only []
    rw [hra, r1]
    simp only []
    rcases r2.how with ⟨rfl, m1, m2⟩ | ⟨rfl, m1, m2⟩ | ⟨rfl, m1⟩
    · exact absurd ha1 m2
    · omega
    · rw [if_pos rfl]
      have up2 := up1.of r2.fr.dead r2.fr.out m1
      obtain ⟨b2, k1, k2, k3, k4, k5⟩ := r2.blk
      obtain ⟨i2, e3, c3, s1, s2, s3⟩ := put_spec (a := 1 - a) (q := q) 8 c2 0 b2 (B + (8 - i : Nat) + 1) (by omega) up2 k1 (k3.trans hbad1) k2 (by rw [k5 rfl]; exact Int.le_refl _) r3 (by omega)
      have hp1 : putC c2 ((1 - a : Nat) : Int) 0 q = (i2, e3, c3) := by
        have : putC c2 ((1 - a : Nat) : Int) 0 q = putGo 8 c2 ((1 - a : Nat) : Int) ((0 : Nat) : Int) q := putC_eq (i := 0)
        rw [this]; exact s1
      rw [hp1]
      simp only []
      have hfp2 : FP c2 = 0 := by have := r2.fr.fp; omega
      have ha22 : c2.after < 0 := by rw [(r2.fr.pos ha1).1]; exact ha1
      have hS3 := put_pg s2 k1 hfp2 ha22 hS2 hbl hq
      rcases s2.how with ⟨rfl, n2, n3⟩ | ⟨rfl, n2⟩ | ⟨rfl, n2, n3, n4⟩
      · exact absurd ha22 n3
      · unfold keepGo
        rw [if_neg (show ¬ (0 : Int) = 34 by decide)]
        exact hS3
      · rw [k5 rfl] at n4
        have : (8 - (0 : Int)).toNat = 8 := rfl
        omega
/-! turned bits -/
theorem blank_zeros {k : Nat} (hk : k < 2064) : ∀ i, i ≤ 258 → zerosU (flipP blankP k) i ≤ if k / 8 < i then 1 else 0
  | 0, _ => by simp [zerosU]
  | i + 1, h => by
    have ih := blank_zeros hk i (by omega)
    have h1 : ∀ k < 8, pop8 (~~~ (255#8 ^^^ (1#8 <<< k))) = 1 := by decide
    rw [zerosU_succ, getD_at _ (show i < 258 by omega), flipP_at _ hk (by omega), blank_at (by omega)]
    by_cases e : k / 8 = i
    · rw [if_pos e, h1 _ (by omega), if_pos (by omega)]
      rw [if_neg (by omega)] at ih
      omega
    · rw [if_neg e, pop_all]
      split at ih
      · rw [if_pos (by omega)]; omega
      · rw [if_neg (by omega)]; omega
theorem flip_blank {k : Nat} (hk : k < 2064) : blankB (flipP blankP k) = true := by
  have := blank_zeros hk 258 (Nat.le_refl _)
  unfold blankB
  rw [if_pos (by omega)] at this
  simpa using this
/-- A page that was never written, or a plan's. -/
def PlB (n : Nat) (p : Pg) : Prop := p = blankP ∨ ∃ w u l, OkP n u l ∧ p = planP w n u l
theorem rp_turned {n : Nat} {p : Pg} {k : Nat} (h : PlB n p) (hk : k < 2064) : RP n (flipP p k) = RP n p := by
  rcases h with rfl | ⟨w, u, l, h, rfl⟩
  · rw [rp_bl (flip_blank hk), rp_blank]
  · rw [rp_flip h hk, rp_plan h]
/-- A chip, and it with turned bits in pages of the table's own blocks. -/
structure Turned (c c' : Chip) (m : Nat) : Prop where
  up : Up c'
  len : c'.blocks.length = c.blocks.length
  aC : c'.aC = c.aC
  pg : ∀ a < 2, ∀ b, c.blocks[a]? = some b → ∃ b', c'.blocks[a]? = some b' ∧ ∀ (j : Nat) (h : j < 8), (8 * a + j < m ∧ ∃ k < 2064, b'.pages[j] = flipP b.pages[j] k) ∨ b'.pages[j] = b.pages[j]
  old : ∀ a < 2, ∀ b b', c.blocks[a]? = some b → c'.blocks[a]? = some b' → ∀ (j : Nat) (h : j < 8), m ≤ 8 * a + j → b'.pages[j] = b.pages[j]
theorem Turned.refl {c : Chip} (up : Up c) : Turned c c 0 := ⟨up, rfl, rfl, fun a ha b hb => ⟨b, hb, fun j h => .inr rfl⟩, fun a ha b b' hb hb' j h _ => by rw [hb] at hb'; cases hb'; rfl⟩
theorem Turned.mono {c c' : Chip} {m k : Nat} (h : Turned c c' m) (hk : m ≤ k) : Turned c c' k :=
  ⟨h.up, h.len, h.aC, fun a ha b hb => by
    obtain ⟨b', h1, h2⟩ := h.pg a ha b hb
    exact ⟨b', h1, fun j hj => by
      rcases h2 j hj with ⟨h3, h4⟩ | h3
      · exact .inl ⟨by omega, h4⟩
      · exact .inr h3⟩, fun a ha b b' hb hb' j hj hle => h.old a ha b b' hb hb' j hj (by omega)⟩
theorem setPg_at {b : Blk} {i j : Nat} {p : Pg} (hi : i < 8) : (setPg b j p).pages[i] = if j = i then p else b.pages[i] := by
  unfold setPg
  simp only
  rw [Vector.getElem_setIfInBounds]
theorem Turned.flip {c c' : Chip} {m k : Nat} {b' : Blk} (h : Turned c c' m) (hl : 2 ≤ c.blocks.length) (hm : m < 16) (hk : k < 2064) (hb' : c'.blocks[m / 8]? = some b') : Turned c (setB c' (m / 8) (setPg b' (m % 8) (flipP b'.pages[m % 8] k))) (m + 1) := by
  have hi : m / 8 < c'.blocks.length := (List.getElem?_eq_some_iff.1 hb').1
  have hset : (setB c' (m / 8) (setPg b' (m % 8) (flipP b'.pages[m % 8] k))).blocks[m / 8]? = some (setPg b' (m % 8) (flipP b'.pages[m % 8] k)) := by
    show (c'.blocks.set _ _)[m / 8]? = _
    simp [hi]
  have hoth : ∀ a, a ≠ m / 8 → (setB c' (m / 8) (setPg b' (m % 8) (flipP b'.pages[m % 8] k))).blocks[a]? = c'.blocks[a]? := fun a ha => List.getElem?_set_ne (fun e => ha e.symm)
  refine ⟨⟨h.up.off, h.up.dead, h.up.out⟩, ?_, h.aC, fun a ha b hb => ?_, fun a ha b b2 hb hb2 j hj hle => ?_⟩
  · show (c'.blocks.set _ _).length = _
    rw [List.length_set]; exact h.len
  · by_cases e : a = m / 8
    · subst e
      obtain ⟨b1, h1, h2⟩ := h.pg _ ha b hb
      rw [hb'] at h1
      cases h1
      refine ⟨_, hset, fun j hj => ?_⟩
      rw [setPg_at hj]
      by_cases e2 : m % 8 = j
      · subst e2
        rw [if_pos rfl]
        refine .inl ⟨by omega, k, hk, ?_⟩
        rw [h.old _ ha b b' hb hb' (m % 8) hj (by omega)]
      · rw [if_neg e2]
        rcases h2 j hj with ⟨h3, h4⟩ | h3
        · exact .inl ⟨by omega, h4⟩
        · exact .inr h3
    · rw [hoth a e]
      obtain ⟨b1, h1, h2⟩ := h.pg _ ha b hb
      refine ⟨b1, h1, fun j hj => ?_⟩
      rcases h2 j hj with ⟨h3, h4⟩ | h3
      · exact .inl ⟨by omega, h4⟩
      · exact .inr h3
  · by_cases e : a = m / 8
    · subst e
      rw [hset] at hb2
      cases hb2
      rw [setPg_at hj, if_neg (by omega)]
      exact h.old _ ha b b' hb hb' j hj (by omega)
    · rw [hoth a e] at hb2
      exact h.old a ha b b2 hb hb2 j hj (by omega)
/-- It is opened as it was. -/
theorem open_turned {c c' : Chip} {v a : Nat} {u l : List Int} {m : Nat} (h : Hold c v u l a) (hp : PgP c (PlB c.blocks.length)) (ht : Turned c c' m) : ∃ t, openC c' = (0, t) ∧ t.uses = u ∧ t.lost = l := by
  have hlen : 2 ≤ c.blocks.length := by have := h.ok.n1; omega
  have hlen' : 2 ≤ c'.blocks.length := by rw [ht.len]; exact hlen
  have hm : mayE c' 0 0 = 0 := mayU (i := 0) (j := 0) ht.up (by omega) (by omega)
  have hrd : ∀ k < 2, ∀ b, c.blocks[k]? = some b → ∀ (j : Nat) (hj : j < 8), RP c'.blocks.length (readP c' (k : Nat) (j : Nat)) = RP c.blocks.length b.pages[j] := fun k hk b hb j hj => by
    obtain ⟨b', h1, h2⟩ := ht.pg k hk b hb
    rw [read_of (mayU ht.up (by omega) hj) h1 hj, ht.len]
    rcases h2 j hj with ⟨_, q, hq, h3⟩ | h3
    · rw [h3, rp_turned (hp k hk b hb j hj) hq]
    · rw [h3]
  obtain ⟨b, hb, j, hj, hr⟩ := h.ex
  obtain ⟨t, ho, hi⟩ := openC_some hm h.a2 hj (by rw [hrd a h.a2 b hb j hj]; exact hr)
  refine ⟨t, ho, ?_⟩
  obtain ⟨k, hk⟩ : ∃ k : Nat, t.area = k := ⟨t.area.toNat, by have := hi.area; omega⟩
  have hk2 : k < 2 := by have := hi.area; omega
  obtain ⟨b2, hb2, _⟩ := h.bs k hk2
  obtain ⟨⟨r1, r2⟩, r3⟩ := hi.rc
  obtain ⟨j2, hj2⟩ : ∃ j : Nat, t.at' = j := ⟨t.at'.toNat, by omega⟩
  have hj28 : j2 < 8 := by omega
  rw [hk, hj2, hrd k hk2 b2 hb2 j2 hj28] at r3
  have h1 := h.le k hk2 b2 hb2 j2 hj28 _ _ _ r3
  have h2 := hi.le a h.a2 j hj v u l (by rw [hrd a h.a2 b hb j hj]; exact hr)
  exact h1.2 (by omega)
end Go.Proofs.YtdfidkhbldedlaaGreat
