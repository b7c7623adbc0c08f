/- Plain laws of chips and tables: new chips. -/
import Derived.Test.YtdfidkhbldedlaaGreatT0
namespace Go.Proofs.YtdfidkhbldedlaaGreat
open Go.K
set_option linter.unusedVariables false
set_option linter.unusedSimpArgs false

theorem blankP_blank : blankB blankP = true := by kernel_rfl
theorem readF_bl {p : Pg} (h : blankB p = true) : readF p = (0, [], 0, 20) := readF_blank h
theorem readT_bl {p : Pg} {n : Int} (h : blankB p = true) : readT p n = ([], [], 0, false) := by
  unfold readT
  simp only [readF_bl h]
  rw [if_pos (by simp)]
theorem scan_blank {c : Chip} {a : Int} : ∀ i, (∀ j < i, blankB (readP c a (j : Nat)) = true) → scanU c a i = ⟨0, [], [], 0, 0, false⟩
  | 0, _ => rfl
  | i + 1, h => by
    have ih := scan_blank i (fun j hj => h j (by omega))
    have hb := h i (by omega)
    show scan1 c a i (scanU c a i) = _
    rw [ih]
    unfold scan1
    simp only [readT_bl hb, hb, if_true]
    rfl
theorem open_blank {c : Chip} (hm : mayE c 0 0 = 0) (h : ∀ a < 2, ∀ j < 8, blankB (readP c (a : Nat) (j : Nat)) = true) : openC c = (35, ts0) := by
  have h0 := scan_blank 8 (h 0 (by omega))
  have h1 := scan_blank 8 (h 1 (by omega))
  have e1 : openU c 1 = (ts0, false) := by
    show open1 c 0 (openU c 0) = _
    unfold open1
    simp only [h0]
    rfl
  have e2 : openU c 2 = (ts0, false) := by
    show open1 c 1 (openU c 1) = _
    rw [e1]
    unfold open1
    simp only [h1]
    rfl
  unfold openC
  rw [if_neg (by rw [hm]; simp), if_neg (by rw [e2]; simp)]
section
variable {after keep : Int} {aP aC aB n : Nat} {bad : List Int}
abbrev newG (after keep : Int) (aP aC aB n : Nat) (bad : List Int) : Chip := newC false after keep aP aC aB n bad
theorem new_len : (newG after keep aP aC aB n bad).blocks.length = n := newBs_len n bad n
theorem new_there {i : Int} (h : 0 ≤ i ∧ i < n) : thereB (newG after keep aP aC aB n bad) i = true := by
  unfold thereB; rw [new_len]; simp; omega
theorem new_may {i j : Int} (h : 0 ≤ i ∧ i < n) (hj : 0 ≤ j ∧ j < 8) : mayE (newG after keep aP aC aB n bad) i j = 0 := by
  unfold mayE
  rw [new_there h, if_neg (by simp [newG, newC]), if_neg (by simp [newG, newC]), if_neg (by simp; omega)]
theorem new_block {i : Nat} (h : i < n) : (newG after keep aP aC aB n bad).blocks[i]? = some (newB (hasI bad i)) := by
  show (newBs n bad n)[i]? = _
  simp [newBs, h]
theorem newB_at {b : Bool} {k : Nat} (h : k < 8) : (newB b).pages.toList.getD k zeroP = blankP := by
  unfold newB
  rw [show (Vector.replicate 8 blankP).toList = List.replicate 8 blankP from Vector.toList_replicate, List.getD_eq_getElem?_getD, List.getElem?_replicate, if_pos h]
  rfl
theorem new_page {i j : Int} (h : 0 ≤ i ∧ i < n) (hj : 0 ≤ j ∧ j < 8) : readP (newG after keep aP aC aB n bad) i j = blankP := by
  unfold readP
  rw [if_pos (new_may h hj)]
  unfold pageAt
  rw [new_block (show i.toNat < n by omega)]
  have hlt : j.toNat < 8 := by omega
  exact newB_at hlt
theorem new_open (h : 2 ≤ n) : openC (newG after keep aP aC aB n bad) = (35, ts0) :=
  open_blank (new_may (by omega) (by omega)) (fun a ha j hj => by rw [new_page (by omega) (by omega)]; exact blankP_blank)
theorem new_bad {i : Int} (h : 0 ≤ i ∧ i < n) : badB (newG after keep aP aC aB n bad) i = hasI bad i := by
  unfold badB badAt
  rw [new_there h, new_block (show i.toNat < n by omega), show ((i.toNat : Nat) : Int) = i by omega]
  rfl
end
/-! a page is written where nothing stands -/
structure Good (c : Chip) : Prop where
  off : c.off = false
  after : c.after < 0
  dead : c.dead = false
  out : c.out = false
  pf : c.pf.list = []
  wf : c.wf.list = []
theorem andP_blank (d : Pg) : andP 258 blankP d = d := by
  apply Vector.ext
  intro j hj
  have e : (andP 258 blankP d)[j] = blankP[j] &&& d[j] := by simp [andP, hj]
  have b : blankP[j] = BitVec.allOnes 8 := by
    unfold blankP
    rw [Vector.getElem_replicate]
    decide
  rw [e, b, BitVec.allOnes_and]
theorem may_ok {c : Chip} (h1 : c.off = false) (h2 : c.dead = false) (h3 : c.out = false) {i j : Int} (hi : 0 ≤ i ∧ i < c.blocks.length) (hj : 0 ≤ j ∧ j < 8) : mayE c i j = 0 := by
  unfold mayE
  have : thereB c i = true := by unfold thereB; simp; omega
  rw [this, h1, h2, h3]
  simp; omega
theorem has_nil (v : Int) : hasI [] v = false := rfl
def prg (c : Chip) (i j : Nat) (d : Pg) (b : Blk) : Chip := setB (actP (cnt c)) i ⟨b.pages.setIfInBounds j d, (j : Int) + 1, b.bad⟩
theorem ends_good {c : Chip} (h : c.after < 0) : endsC c = c := by
  unfold endsC
  rw [if_pos h, if_pos h]
theorem prog_good {c : Chip} (g : Good c) {i j : Nat} {d : Pg} {b : Blk} (hb : c.blocks[i]? = some b) (hj : j < 8) (hn : b.next = j) (hbad : b.bad = false) (hp : b.pages[j] = blankP) : progC c i j d = (0, prg c i j d b) := by
  have hi : i < c.blocks.length := (List.getElem?_eq_some_iff.1 hb).1
  have hm : mayE c i j = 0 := may_ok g.off g.dead g.out (by omega) (by omega)
  have he : endsB c = false := by unfold endsB; rw [if_pos g.after]
  have hf : (failP c || b.bad) = false := by unfold failP; rw [g.pf, has_nil, hbad]; rfl
  rw [prog_ok (b := b) hm (by simpa using hj) (by simpa using hb) hn.symm he hf]
  have e : wrB { b with next := w64 (b.next + 1) } (j : Int).toNat 258 d (by simpa using hj) = ⟨b.pages.setIfInBounds j d, (j : Int) + 1, b.bad⟩ := by
    have e1 : w64 (b.next + 1) = (j : Int) + 1 := by rw [hn]; exact wrap64_in (by omega)
    have e2 : andP 258 b.pages[j] d = d := by rw [hp]; exact andP_blank d
    show setPg { b with next := w64 (b.next + 1) } j (andP 258 b.pages[j] d) = _
    rw [e2, e1]
    rfl
  unfold wrC
  rw [ends_good (by exact g.after), e]
  rfl
theorem prg_len (c : Chip) (i j : Nat) (d : Pg) (b : Blk) : (prg c i j d b).blocks.length = c.blocks.length := by simp [prg, setB, actP, cnt]
theorem prg_good {c : Chip} (g : Good c) (i j : Nat) (d : Pg) (b : Blk) : Good (prg c i j d b) := ⟨g.off, g.after, g.dead, g.out, g.pf, g.wf⟩
theorem prg_same {c : Chip} {i j : Nat} {d : Pg} {b : Blk} (hi : i < c.blocks.length) : (prg c i j d b).blocks[i]? = some ⟨b.pages.setIfInBounds j d, (j : Int) + 1, b.bad⟩ := by
  simp [prg, setB, actP, cnt, hi]
theorem prg_other {c : Chip} {i k j : Nat} {d : Pg} {b : Blk} (h : i ≠ k) : (prg c i j d b).blocks[k]? = c.blocks[k]? := by
  simp [prg, setB, actP, cnt, List.getElem?_set_ne h]
theorem read_of {c : Chip} {i j : Nat} {b : Blk} (hm : mayE c i j = 0) (hb : c.blocks[i]? = some b) (hj : j < 8) : readP c i j = b.pages[j] := by
  unfold readP pageAt
  rw [if_pos hm, Int.toNat_natCast, hb]
  simp [List.getD_eq_getElem?_getD, hj]
theorem put_good {c : Chip} (g : Good c) {i j : Nat} {d : Pg} {b : Blk} (hb : c.blocks[i]? = some b) (hj : j < 8) (hn : b.next = j) (hbad : b.bad = false) (hp : b.pages[j] = blankP) : putC c i j d = ((j : Int) + 1, 0, prg c i j d b) := by
  have hi : i < c.blocks.length := (List.getElem?_eq_some_iff.1 hb).1
  have hpr := prog_good g hb hj hn hbad hp (d := d)
  have g' := prg_good g i j d b
  have hm' : mayE (prg c i j d b) i j = 0 := may_ok g'.off g'.dead g'.out (by rw [prg_len]; omega) (by omega)
  have hs : stepE c i j d = 0 := by
    unfold stepE
    rw [hpr, if_pos rfl]
    unfold standsE
    rw [read_of hm' (prg_same hi) hj]
    simp [hm']
  rw [putC_stop (by omega) (by rw [hs]; decide), hs, hpr]
/-- A plan is kept where there is a place. -/
theorem keep_good {c : Chip} (g : Good c) {t : TS} {uses lost : List Int} {i j : Nat} {b : Blk} (ha : t.area = i) (hn' : t.next = j) (hb : c.blocks[i]? = some b) (hj : j < 8) (hn : b.next = j) (hbad : b.bad = false) (hp : b.pages[j] = blankP) :
    keepC t uses lost c = (0, ⟨uses, lost, t.version + 1, i, (j : Int) + 1, j⟩, prg c i j (planP (t.version + 1) c.blocks.length uses lost) b) := by
  have hp := put_good g hb hj hn hbad hp (d := planP (t.version + 1) c.blocks.length uses lost)
  have hk : keepS t uses lost c = ⟨i, (j : Int) + 1, 0, prg c i j (planP (t.version + 1) c.blocks.length uses lost) b⟩ := by
    unfold keepS
    simp only [ha, hn', hp]
    rfl
  unfold keepC
  simp only [hk]
  rw [if_neg (by simp)]
  congr 2
  congr 1
  omega
section
variable {after keep : Int} {aP aC aB n : Nat} {bad : List Int}
theorem new_good (ha : after < 0) : Good (newG after keep aP aC aB n bad) := ⟨rfl, ha, rfl, rfl, rfl, rfl⟩
theorem new_fmt0 (h : 2 ≤ n) : fmt0 (newG after keep aP aC aB n bad) = (0, 0, 0) := by
  unfold fmt0; rw [new_open h, if_neg (by decide)]
/-- The table of a new chip. -/
theorem new_format (ha : after < 0) (h : 2 ≤ n) (hb : fmtBad (newG after keep aP aC aB n bad) = false) : ∃ c', formatC (newG after keep aP aC aB n bad) = (0, ⟨(fmtT (newG after keep aP aC aB n bad)).uses, (fmtT (newG after keep aP aC aB n bad)).lost, 1, 0, 1, 0⟩, c') ∧
    c' = prg (newG after keep aP aC aB n bad) 0 0 (planP 1 n (fmtT (newG after keep aP aC aB n bad)).uses (fmtT (newG after keep aP aC aB n bad)).lost) (newB false) := by
  have hbad : hasI bad 0 = false := by
    have := hb
    unfold fmtBad at this
    rw [new_bad (by omega)] at this
    simp at this
    exact this.1.1
  have hblk := new_block (after := after) (keep := keep) (aP := aP) (aC := aC) (aB := aB) (n := n) (bad := bad) (i := 0) (by omega)
  rw [show hasI bad ((0 : Nat) : Int) = false from hbad] at hblk
  have hf := new_fmt0 (after := after) (keep := keep) (aP := aP) (aC := aC) (aB := aB) (bad := bad) h
  have hk := keep_good (new_good (keep := keep) (aP := aP) (aC := aC) (aB := aB) (n := n) (bad := bad) ha) (t := fmtT (newG after keep aP aC aB n bad)) (uses := (fmtT (newG after keep aP aC aB n bad)).uses) (lost := (fmtT (newG after keep aP aC aB n bad)).lost) (i := 0) (j := 0) (by show (fmt0 _).2.1 = _; rw [hf]; rfl) (by show (fmt0 _).2.2 = _; rw [hf]; rfl) hblk (by omega) rfl rfl (by simp [newB])
  have hv : (fmtT (newG after keep aP aC aB n bad)).version = 0 := by show (fmt0 _).1 = _; rw [hf]
  rw [hv, new_len] at hk
  refine ⟨_, ?_, rfl⟩
  unfold formatC
  rw [if_neg (by rw [new_may (by omega) (by omega)]; simp), if_neg (by rw [hb]; simp), if_neg (by rw [hk]; simp), hk]
  rfl
theorem fmtT_uses (c : Chip) : (fmtT c).uses = (fmtU c (fmtSize c) c.blocks.length).1 := rfl
theorem fmtT_lost (c : Chip) : (fmtT c).lost = (fmtU c (fmtSize c) c.blocks.length).2 := rfl
/-- The example of the document. -/
theorem ex_fmtU {aP aC aB : Nat} : fmtU (newG (-1) 0 aP aC aB 16 [3]) 10 16 = ([2, 4, 5, 6, 7, 8, 9, 10, 11, 12], [3]) := by kernel_rfl
theorem ex_format {aP aC aB : Nat} : ∃ c', formatC (newG (-1) 0 aP aC aB 16 [3]) = (0, ⟨[2, 4, 5, 6, 7, 8, 9, 10, 11, 12], [3], 1, 0, 1, 0⟩, c') := by
  have e : fmtU (newG (-1) 0 aP aC aB 16 [3]) (fmtSize (newG (-1) 0 aP aC aB 16 [3])) (newG (-1) 0 aP aC aB 16 [3]).blocks.length = ([2, 4, 5, 6, 7, 8, 9, 10, 11, 12], [3]) := by
    unfold fmtSize
    rw [new_len]
    exact ex_fmtU
  have hu : (fmtT (newG (-1) 0 aP aC aB 16 [3])).uses = [2, 4, 5, 6, 7, 8, 9, 10, 11, 12] := (fmtT_uses _).trans (by rw [e])
  have hl : (fmtT (newG (-1) 0 aP aC aB 16 [3])).lost = [3] := (fmtT_lost _).trans (by rw [e])
  have hb : fmtBad (newG (-1) 0 aP aC aB 16 [3]) = false := by
    unfold fmtBad
    rw [new_bad (by omega), new_bad (by omega), hu]
    unfold fmtSize
    rw [new_len]
    rfl
  obtain ⟨c', h, _⟩ := new_format (after := -1) (keep := 0) (aP := aP) (aC := aC) (aB := aB) (n := 16) (bad := [3]) (by omega) (by omega) hb
  rw [hu, hl] at h
  exact ⟨c', h⟩
theorem openC_err {c : Chip} {e : Int} (hm : mayE c 0 0 = e) (he : e ≠ 0) : openC c = (e, ts0) := by
  unfold openC; rw [hm, if_pos he]
theorem formatC_err {c : Chip} {e : Int} (hm : mayE c 0 0 = e) (he : e ≠ 0) : formatC c = (e, ts0, c) := by
  unfold formatC; rw [hm, if_pos he]
theorem may_off {c : Chip} (h : c.off = true) : mayE c 0 0 = 30 := by unfold mayE; rw [if_pos h]
theorem may_dead {c : Chip} (h : c.off = false) (h2 : c.dead = true) : mayE c 0 0 = 31 := by unfold mayE; rw [if_neg (by rw [h]; simp), if_pos (by rw [h2]; rfl)]
/-- The power ends in an erase. -/
theorem erase_ends {c : Chip} {i : Int} (hm : mayE c i 0 = 0) (ha : c.after = 0) : (eraseC c i).2.off = true ∧ (eraseC c i).2.blocks.length = c.blocks.length := by
  obtain ⟨h0, h1, _⟩ := may_in hm
  have hb : c.blocks[i.toNat]? = some (c.blocks[i.toNat]'(by omega)) := List.getElem?_eq_getElem (by omega)
  have he : endsB c = true := by unfold endsB; rw [if_neg (by omega), ha]; rfl
  rw [erase_down hm hb he]
  constructor
  · show (if c.after < 0 then c.off else decide (c.after = 0)) = true
    rw [if_neg (by omega), ha]; rfl
  · simp [setB, endsC, actW, cnt]
theorem okNew_in {n : Int} {bad : List Int} (h : okNew n bad = true) : 16 ≤ n ∧ n ≤ 40 := by
  unfold okNew at h
  simp only [Bool.and_eq_true, Bool.not_eq_true', Bool.or_eq_false_iff, decide_eq_false_iff_not] at h
  omega
end
end Go.Proofs.YtdfidkhbldedlaaGreat
