/- Plain laws of tables: which blocks they name. -/
import Derived.Test.YtdfidkhbldedlaaGreatL0
namespace Go.Proofs.YtdfidkhbldedlaaGreat
open Go.K
set_option linter.unusedVariables false
set_option linter.unusedSimpArgs false

/-- An op of a law's script. -/
structure OpV where
  kind : Int
  logical : Int
  block : Int
  least : Bool
  bit : Int
def opC (o : OpV) : List Value := [.int .i64 o.kind, .int .i64 o.logical, .int .i64 o.block, .bool o.least, .int .i64 o.bit]
instance : Cel OpV := ⟨5, opC, fun _ => rfl, fun _ => rfl⟩

/-! which blocks are bad is never changed -/
def bads (c : Chip) : List Bool := c.blocks.map (·.bad)
theorem bads_set {c : Chip} {i : Nat} {b b' : Blk} (hb : c.blocks[i]? = some b) (h : b'.bad = b.bad) : (c.blocks.set i b').map (·.bad) = c.blocks.map (·.bad) := by
  rw [List.map_set, h]
  apply List.ext_getElem?
  intro j
  rw [List.getElem?_set]
  split
  · rename_i e; subst e
    obtain ⟨h1, h2⟩ := List.getElem?_eq_some_iff.1 hb
    simp [h1, h2]
  · rfl
theorem prog_bads (c : Chip) (i j : Int) (d : Pg) : bads (progC c i j d).2 = bads c := by
  unfold progC
  split
  · split
    · rfl
    · rename_i b hb
      split
      · simp only []
        split
        · refine bads_set (c := endsC (actP (cnt c))) hb ?_; split <;> rfl
        · split
          · refine bads_set (c := endsC (actP (cnt c))) hb ?_; split <;> rfl
          · refine bads_set (c := endsC (actP (cnt c))) hb ?_; split <;> rfl
      · rfl
  · rfl
theorem erase_bads (c : Chip) (i : Int) : bads (eraseC c i).2 = bads c := by
  unfold eraseC
  split
  · split
    · rfl
    · rename_i b hb
      simp only []
      split
      · exact bads_set (c := endsC (actW (cnt c))) hb rfl
      · split
        · exact bads_set (c := endsC (actW (cnt c))) hb rfl
        · exact bads_set (c := endsC (actW (cnt c))) hb rfl
  · rfl
theorem putGo_bads (a : Int) (q : Pg) : ∀ (f : Nat) (c : Chip) (i : Int), bads (putGo f c a i q).2.2 = bads c
  | 0, c, i => rfl
  | f + 1, c, i => by
    unfold putGo
    split
    · exact prog_bads c a i q
    · rw [putGo_bads a q f, prog_bads]
theorem putC_bads (c : Chip) (a i : Int) (q : Pg) : bads (putC c a i q).2.2 = bads c := putGo_bads a q _ c i
theorem keep1_bads (a : Int) (q : Pg) (s : KS) : bads (keep1 a q s).c = bads s.c := by
  unfold keep1
  simp only []
  split
  · rw [putC_bads, erase_bads]
  · split <;> exact erase_bads _ _
theorem keepGo_bads (a : Int) (q : Pg) : ∀ (f : Nat) (s : KS), bads (keepGo f a q s).c = bads s.c
  | 0, s => rfl
  | f + 1, s => by
    unfold keepGo
    split
    · rw [keepGo_bads a q f, keep1_bads]
    · rfl
theorem keepGo_range (a : Int) (q : Pg) : ∀ (f : Nat) (s : KS), (0 ≤ s.next ∧ s.next ≤ 8) → (s.area = a ∨ s.area = 1 - a) → (0 ≤ (keepGo f a q s).next ∧ (keepGo f a q s).next ≤ 8) ∧ ((keepGo f a q s).area = a ∨ (keepGo f a q s).area = 1 - a)
  | 0, s, h, h2 => ⟨h, h2⟩
  | f + 1, s, h, h2 => by
    unfold keepGo
    split
    · refine keepGo_range a q f _ (keep1_ge h) (.inr ?_)
      unfold keep1
      simp only []
      split
      · rfl
      · split <;> rfl
    · exact ⟨h, h2⟩
theorem keepGo_aC (a : Int) (q : Pg) : ∀ (f : Nat) (s : KS), (keepGo f a q s).c.aC = s.c.aC
  | 0, s => rfl
  | f + 1, s => by
    unfold keepGo
    split
    · rw [keepGo_aC a q f, keep1_aC]
    · rfl
theorem keepS_bads (t : TS) (u l : List Int) (c : Chip) : bads (keepS t u l c).c = bads c := by
  unfold keepS
  simp only []
  rw [keepGo_bads, putC_bads]
theorem keepS_aC (t : TS) (u l : List Int) (c : Chip) : (keepS t u l c).c.aC = c.aC := by
  unfold keepS
  simp only []
  rw [keepGo_aC, putC_aC]
theorem keepC_bads (t : TS) (u l : List Int) (c : Chip) : bads (keepC t u l c).2.2 = bads c := by
  unfold keepC
  simp only []
  split <;> exact keepS_bads t u l c
theorem keepC_aC (t : TS) (u l : List Int) (c : Chip) : (keepC t u l c).2.2.aC = c.aC := by
  unfold keepC
  simp only []
  split <;> exact keepS_aC t u l c
theorem keepC_t (t : TS) (u l : List Int) (c : Chip) (hn : 0 ≤ t.next) (ha : 0 ≤ t.area ∧ t.area ≤ 1) :
    (keepC t u l c).2.1 = t ∨ ((keepC t u l c).2.1.uses = u ∧ (keepC t u l c).2.1.lost = l ∧ 0 ≤ (keepC t u l c).2.1.next ∧ (0 ≤ (keepC t u l c).2.1.area ∧ (keepC t u l c).2.1.area ≤ 1)) := by
  have hr : (0 ≤ (keepS t u l c).next ∧ (keepS t u l c).next ≤ 8) ∧ ((keepS t u l c).area = t.area ∨ (keepS t u l c).area = 1 - t.area) := by
    unfold keepS
    simp only []
    exact keepGo_range _ _ _ _ (putC_ge _ _ _ _ hn) (.inl rfl)
  unfold keepC
  simp only []
  split
  · exact .inl rfl
  · refine .inr ⟨rfl, rfl, hr.1.1, ?_⟩
    show 0 ≤ (keepS t u l c).area ∧ (keepS t u l c).area ≤ 1
    rcases hr.2 with h | h <;> rw [h] <;> omega
theorem bads_len {c c' : Chip} (h : bads c' = bads c) : c'.blocks.length = c.blocks.length := by
  have := congrArg List.length h
  simpa [bads] using this
theorem bads_badB {c c' : Chip} (h : bads c' = bads c) (b : Int) : badB c' b = badB c b := by
  unfold badB thereB badAt
  rw [bads_len h]
  have := congrArg (fun l => l[b.toNat]?) h
  simp only [bads, List.getElem?_map] at this
  congr 1
  cases h1 : c.blocks[b.toNat]? <;> cases h2 : c'.blocks[b.toNat]? <;> simp [h1, h2] at this
  · rfl
  · exact this

/-! lists of blocks -/
theorem nodup_le : ∀ {l m : List Int}, l.Nodup → (∀ x ∈ l, x ∈ m) → l.length ≤ m.length
  | [], m, _, _ => Nat.zero_le _
  | x :: l, m, h, hs => by
    have hx := hs x (.head _)
    obtain ⟨h1, h2⟩ := List.nodup_cons.1 h
    have := nodup_le (l := l) (m := m.erase x) h2 (fun y hy => (List.mem_erase_of_ne (fun e => by subst e; exact h1 hy)).2 (hs y (.tail _ hy)))
    have h3 := List.length_erase_of_mem hx
    have h4 := List.length_pos_of_mem hx
    rw [List.length_cons]
    omega
theorem has_mem {l : List Int} {x : Int} : hasI l x = true ↔ x ∈ l := by
  have : hasI l x = l.any (· == x) := idxF_any l (· == x)
  rw [this, List.any_eq_true]
  constructor
  · rintro ⟨y, h1, h2⟩
    have : y = x := by simpa using h2
    subst this; exact h1
  · exact fun h => ⟨x, h, by simp⟩
/-- What Format sees. -/
structure FmtI (c : Chip) (size : Int) (i : Nat) (u l : List Int) : Prop where
  len : (u.length : Int) ≤ size
  un : u.Nodup
  us : ∀ x ∈ u, 2 ≤ x ∧ x < i ∧ badB c x = false
  ln : l.Nodup
  ls : ∀ x ∈ l, 0 ≤ x ∧ x < i ∧ badB c x = true
  lb : ∀ x : Int, 0 ≤ x → x < i → badB c x = true → x ∈ l
  all : badB c 0 = false → badB c 1 = false → (u.length : Int) = size ∨ u.length + l.length + min i 2 = i
theorem nodup_snoc {l : List Int} {x : Int} (h : l.Nodup) (hx : x ∉ l) : (l ++ [x]).Nodup := by
  rw [List.nodup_append]
  exact ⟨h, by simp, fun a ha b hb => by simp at hb; subst hb; intro e; subst e; exact hx ha⟩
theorem fmtI (c : Chip) {size : Int} (hs : 0 ≤ size) : ∀ i, FmtI c size i (fmtU c size i).1 (fmtU c size i).2
  | 0 => ⟨by simpa [fmtU] using hs, by simp [fmtU], by simp [fmtU], by simp [fmtU], by simp [fmtU], fun x h1 h2 => by omega, fun _ _ => .inr (by simp [fmtU])⟩
  | i + 1 => by
    have ih := fmtI c hs i
    unfold fmtU
    simp only []
    generalize hu : (fmtU c size i).1 = u at ih ⊢
    generalize hl : (fmtU c size i).2 = l at ih ⊢
    split
    · rename_i hb
      refine ⟨ih.len, ih.un, fun x hx => ?_, nodup_snoc ih.ln (fun h => by have := ih.ls _ h; omega), fun x hx => ?_, fun x h0 h1 h2 => ?_, fun h0 h1 => ?_⟩
      · have := ih.us x hx; exact ⟨this.1, by omega, this.2.2⟩
      · rcases List.mem_append.1 hx with h | h
        · have := ih.ls x h; exact ⟨this.1, by omega, this.2.2⟩
        · simp at h; subst h; exact ⟨by omega, by omega, hb⟩
      · by_cases he : x = (i : Int)
        · subst he; simp
        · exact List.mem_append_left _ (ih.lb x h0 (by omega) h2)
      · have hi : 2 ≤ i := by
          rcases Nat.lt_or_ge i 2 with h | h
          · rcases (show i = 0 ∨ i = 1 by omega) with rfl | rfl
            · rw [show ((0 : Nat) : Int) = 0 from rfl, h0] at hb; cases hb
            · rw [show ((1 : Nat) : Int) = 1 from rfl, h1] at hb; cases hb
          · exact h
        rcases ih.all h0 h1 with h | h
        · exact .inl h
        · refine .inr ?_; simp only [List.length_append, List.length_cons, List.length_nil]; omega
    · rename_i hb
      have hb' : badB c i = false := by simpa using hb
      split
      · rename_i hc
        simp only [Bool.and_eq_true, decide_eq_true_eq] at hc
        refine ⟨by simp only [List.length_append, List.length_cons, List.length_nil]; omega, nodup_snoc ih.un (fun h => by have := ih.us _ h; omega), fun x hx => ?_, ih.ln, fun x hx => ?_, fun x h0 h1 h2 => ?_, fun h0 h1 => ?_⟩
        · rcases List.mem_append.1 hx with h | h
          · have := ih.us x h; exact ⟨this.1, by omega, this.2.2⟩
          · simp at h; subst h; exact ⟨hc.1, by omega, hb'⟩
        · have := ih.ls x hx; exact ⟨this.1, by omega, this.2.2⟩
        · by_cases he : x = (i : Int)
          · subst he; rw [hb'] at h2; cases h2
          · exact ih.lb x h0 (by omega) h2
        · rcases ih.all h0 h1 with h | h
          · omega
          · refine .inr ?_; simp only [List.length_append, List.length_cons, List.length_nil]; omega
      · rename_i hc
        rw [hu, hl]
        have hlen := ih.len
        refine ⟨ih.len, ih.un, fun x hx => ?_, ih.ln, fun x hx => ?_, fun x h0 h1 h2 => ?_, fun h0 h1 => ?_⟩
        · have := ih.us x hx; exact ⟨this.1, by omega, this.2.2⟩
        · have := ih.ls x hx; exact ⟨this.1, by omega, this.2.2⟩
        · by_cases he : x = (i : Int)
          · subst he; rw [hb'] at h2; cases h2
          · exact ih.lb x h0 (by omega) h2
        · rcases ih.all h0 h1 with h | h
          · exact .inl h
          · rcases Nat.lt_or_ge i 2 with h2 | h2
            · refine .inr ?_; omega
            · refine .inl ?_
              have : ¬ ((u.length : Int) < size) := fun h3 => hc (by simp only [Bool.and_eq_true, decide_eq_true_eq]; exact ⟨by omega, h3⟩)
              omega

/-! a table of a chip of 30 blocks -/
structure ApI (B : Int → Bool) (t : TS) : Prop where
  un : t.uses.Nodup
  len : t.uses.length = 24
  us : ∀ x ∈ t.uses, 2 ≤ x ∧ x < 30 ∧ B x = false ∧ x ∉ t.lost
  ln : t.lost.Nodup
  ls : ∀ x ∈ t.lost, 2 ≤ x ∧ x < 30
  lb : ∀ x : Int, 2 ≤ x → x < 30 → B x = true → x ∈ t.lost
  next : 0 ≤ t.next
  area : 0 ≤ t.area ∧ t.area ≤ 1
theorem ApI.lost4 {B : Int → Bool} {t : TS} (h : ApI B t) : t.lost.length ≤ 4 := by
  have := nodup_le (l := t.uses ++ t.lost) (m := (List.range 28).map fun i => ((i : Nat) : Int) + 2) (by
    rw [List.nodup_append]
    exact ⟨h.un, h.ln, fun a ha b hb e => by subst e; exact (h.us a ha).2.2.2 hb⟩) (fun x hx => by
      have hr : 2 ≤ x ∧ x < 30 := by
        rcases List.mem_append.1 hx with h1 | h1
        · have := h.us x h1; exact ⟨this.1, this.2.1⟩
        · exact h.ls x h1
      exact List.mem_map.2 ⟨(x - 2).toNat, List.mem_range.2 (by omega), by omega⟩)
  simp [h.len] at this
  omega
theorem spare_facts {t : TS} {b : Int} (h : spareB t 30 b = true) : 2 ≤ b ∧ b < 30 ∧ b ∉ t.uses ∧ b ∉ t.lost := by
  unfold spareB at h
  simp only [Bool.and_eq_true, Bool.not_eq_true', decide_eq_true_eq] at h
  obtain ⟨⟨⟨h1, h2⟩, h3⟩, h4⟩ := h
  exact ⟨h1, h2, fun e => (by rw [has_mem.2 e] at h3; cases h3), fun e => (by rw [has_mem.2 e] at h4; cases h4)⟩
theorem ApI.of {B : Int → Bool} {t t' : TS} {u l : List Int} (h : ApI B t) (hk : t' = t ∨ (t'.uses = u ∧ t'.lost = l ∧ 0 ≤ t'.next ∧ (0 ≤ t'.area ∧ t'.area ≤ 1)))
    (un : u.Nodup) (len : u.length = 24) (us : ∀ x ∈ u, 2 ≤ x ∧ x < 30 ∧ B x = false ∧ x ∉ l) (ln : l.Nodup) (ls : ∀ x ∈ l, 2 ≤ x ∧ x < 30) (lb : ∀ x ∈ t.lost, x ∈ l) : ApI B t' := by
  rcases hk with rfl | ⟨rfl, rfl, h1, h2⟩
  · exact h
  · exact ⟨un, len, us, ln, ls, fun x h3 h4 h5 => lb x (h.lb x h3 h4 h5), h1, h2⟩
theorem ApI.lose {B : Int → Bool} {t t' : TS} {b : Int} {l : List Int} (h : ApI B t) (hb : spareB t 30 b = true) (hp : l.Perm (t.lost ++ [b]))
    (hk : t' = t ∨ (t'.uses = t.uses ∧ t'.lost = l ∧ 0 ≤ t'.next ∧ (0 ≤ t'.area ∧ t'.area ≤ 1))) : ApI B t' := by
  obtain ⟨b1, b2, b3, b4⟩ := spare_facts hb
  have hm : ∀ x, x ∈ l ↔ x ∈ t.lost ∨ x = b := fun x => by rw [hp.mem_iff]; simp
  refine h.of hk h.un h.len (fun x hx => ?_) (hp.nodup_iff.2 (nodup_snoc h.ln b4)) (fun x hx => ?_) (fun x hx => (hm x).2 (.inl hx))
  · obtain ⟨h1, h2, h3, h4⟩ := h.us x hx
    exact ⟨h1, h2, h3, fun e => by rcases (hm x).1 e with e | e; exact h4 e; subst e; exact b3 hx⟩
  · rcases (hm x).1 hx with e | e
    · exact h.ls x e
    · subst e; exact ⟨b1, b2⟩
theorem nodup_set {l : List Int} {i : Nat} {b : Int} (h : l.Nodup) (hb : b ∉ l) : (l.set i b).Nodup := by
  rw [List.nodup_iff_pairwise_ne, List.pairwise_iff_getElem]
  rw [List.nodup_iff_pairwise_ne, List.pairwise_iff_getElem] at h
  intro j k hj hk hjk
  simp only [List.length_set] at hj hk
  rw [List.getElem_set, List.getElem_set]
  split
  · split
    · omega
    · intro e; exact hb (by rw [e]; exact List.getElem_mem _)
  · split
    · intro e; exact hb (by rw [← e]; exact List.getElem_mem _)
    · exact h j k hj hk hjk
theorem mem_set {l : List Int} {i : Nat} {b x : Int} (h : l.Nodup) (hi : i < l.length) (hx : x ∈ l.set i b) : x = b ∨ (x ∈ l ∧ x ≠ l[i]) := by
  obtain ⟨j, hj, rfl⟩ := List.getElem_of_mem hx
  simp only [List.length_set] at hj
  rw [List.getElem_set]
  split
  · exact .inl rfl
  · refine .inr ⟨List.getElem_mem _, fun e => ?_⟩
    rename_i hne
    rw [List.nodup_iff_pairwise_ne, List.pairwise_iff_getElem] at h
    rcases Nat.lt_or_gt_of_ne hne with h1 | h1
    · exact h i j hi hj h1 e.symm
    · exact h j i hj hi h1 e
theorem ApI.swap {B : Int → Bool} {t t' : TS} {b i : Int} {l : List Int} (h : ApI B t) (hB : ∀ x, spareB t 30 x = true → B x = false) (hi : 0 ≤ i ∧ i < t.uses.length) (hb : spareB t 30 b = true) (hp : l.Perm (t.lost ++ [at0 t.uses i]))
    (hk : t' = t ∨ (t'.uses = t.uses.set i.toNat b ∧ t'.lost = l ∧ 0 ≤ t'.next ∧ (0 ≤ t'.area ∧ t'.area ≤ 1))) : ApI B t' := by
  obtain ⟨b1, b2, b3, b4⟩ := spare_facts hb
  have hlt : i.toNat < t.uses.length := by omega
  have hat : at0 t.uses i = t.uses[i.toNat] := by simp [at0, List.getD_eq_getElem?_getD, hlt]
  rw [hat] at hp
  have hu := h.us _ (List.getElem_mem hlt)
  have hm : ∀ x, x ∈ l ↔ x ∈ t.lost ∨ x = t.uses[i.toNat] := fun x => by rw [hp.mem_iff]; simp
  refine h.of hk (nodup_set h.un b3) (by rw [List.length_set]; exact h.len) (fun x hx => ?_) (hp.nodup_iff.2 (nodup_snoc h.ln hu.2.2.2)) (fun x hx => ?_) (fun x hx => (hm x).2 (.inl hx))
  · rcases mem_set h.un hlt hx with e | ⟨e, hne⟩
    · subst e
      exact ⟨b1, b2, hB _ hb, fun e => by rcases (hm _).1 e with e | e; exact b4 e; exact b3 (by rw [e]; exact List.getElem_mem hlt)⟩
    · obtain ⟨h1, h2, h3, h4⟩ := h.us x e
      exact ⟨h1, h2, h3, fun e => by rcases (hm x).1 e with e | e; exact h4 e; exact hne e⟩
  · rcases (hm x).1 hx with e | e
    · exact h.ls x e
    · subst e; exact ⟨hu.1, hu.2.1⟩
theorem ApI.spareB {B : Int → Bool} {t : TS} (h : ApI B t) (x : Int) (hx : Go.Proofs.YtdfidkhbldedlaaGreat.spareB t 30 x = true) : B x = false := by
  obtain ⟨b1, b2, b3, b4⟩ := spare_facts hx
  cases hB : B x with
  | false => rfl
  | true => exact absurd (h.lb x b1 b2 hB) b4
/-- The table of a new chip of 30 blocks. -/
theorem new_table {aP aC aB : Nat} {bad : List Int} (hl : bad.length ≤ 4) (h0 : hasI bad 0 = false) (h1 : hasI bad 1 = false) : ∃ c', formatC (newG (-1) 0 aP aC aB 30 bad) = (0, ⟨(fmtT (newG (-1) 0 aP aC aB 30 bad)).uses, (fmtT (newG (-1) 0 aP aC aB 30 bad)).lost, 1, 0, 1, 0⟩, c') ∧
    bads c' = bads (newG (-1) 0 aP aC aB 30 bad) ∧ c'.aC = aC ∧ ApI (hasI bad) ⟨(fmtT (newG (-1) 0 aP aC aB 30 bad)).uses, (fmtT (newG (-1) 0 aP aC aB 30 bad)).lost, 1, 0, 1, 0⟩ := by
  have hlen := new_len (after := -1) (keep := 0) (aP := aP) (aC := aC) (aB := aB) (n := 30) (bad := bad)
  have hsz : fmtSize (newG (-1) 0 aP aC aB 30 bad) = 24 := by unfold fmtSize; rw [hlen]; rfl
  have hI := fmtI (newG (-1) 0 aP aC aB 30 bad) (size := 24) (by omega) 30
  have hu : (fmtT (newG (-1) 0 aP aC aB 30 bad)).uses = (fmtU (newG (-1) 0 aP aC aB 30 bad) 24 30).1 := by rw [fmtT_uses, hsz, hlen]
  have hlo : (fmtT (newG (-1) 0 aP aC aB 30 bad)).lost = (fmtU (newG (-1) 0 aP aC aB 30 bad) 24 30).2 := by rw [fmtT_lost, hsz, hlen]
  rw [← hu, ← hlo] at hI
  have hbd : ∀ x : Int, 0 ≤ x → x < 30 → badB (newG (-1) 0 aP aC aB 30 bad) x = hasI bad x := fun x h2 h3 => new_bad (by omega)
  have hb0 := hbd 0 (by omega) (by omega)
  have hb1 := hbd 1 (by omega) (by omega)
  rw [h0] at hb0
  rw [h1] at hb1
  have hl4 : (fmtT (newG (-1) 0 aP aC aB 30 bad)).lost.length ≤ 4 := Nat.le_trans (nodup_le hI.ln (fun x hx => by
    have := hI.ls x hx
    exact has_mem.1 ((hbd x this.1 (by omega)).symm.trans this.2.2))) hl
  have hlen24 : (fmtT (newG (-1) 0 aP aC aB 30 bad)).uses.length = 24 := by
    have := hI.len
    rcases hI.all hb0 hb1 with h | h <;> omega
  have hnb : fmtBad (newG (-1) 0 aP aC aB 30 bad) = false := by
    unfold fmtBad
    rw [hb0, hb1, hsz, hlen24]
    rfl
  obtain ⟨c', e1, e2⟩ := new_format (after := -1) (keep := 0) (aP := aP) (aC := aC) (aB := aB) (n := 30) (bad := bad) (by omega) (by omega) hnb
  have hblk := new_block (after := -1) (keep := 0) (aP := aP) (aC := aC) (aB := aB) (n := 30) (bad := bad) (i := 0) (by omega)
  refine ⟨c', e1, ?_, by rw [e2]; rfl, ⟨hI.un, hlen24, fun x hx => ?_, hI.ln, fun x hx => ?_, fun x h2 h3 h4 => ?_, (show (0 : Int) ≤ 1 by decide), (show (0 : Int) ≤ 0 ∧ (0 : Int) ≤ 1 by decide)⟩⟩
  · rw [e2]
    refine bads_set (c := newG (-1) 0 aP aC aB 30 bad) hblk ?_
    show false = hasI bad ((0 : Nat) : Int)
    exact h0.symm
  · have := hI.us x hx
    exact ⟨this.1, by omega, (hbd x (by omega) (by omega)).symm.trans this.2.2, fun h => by have h5 := (hI.ls x h).2.2; rw [this.2.2] at h5; cases h5⟩
  · have := hI.ls x hx
    refine ⟨?_, by omega⟩
    rcases (show x < 2 ∨ 2 ≤ x by omega) with h | h
    · rcases (show x = 0 ∨ x = 1 by omega) with rfl | rfl
      · rw [hb0] at this; exact absurd this.2.2 (by simp)
      · rw [hb1] at this; exact absurd this.2.2 (by simp)
    · exact h
  · exact hI.lb x (by omega) (by omega) ((hbd x (by omega) h3).trans h4)
end Go.Proofs.YtdfidkhbldedlaaGreat
