/- The plain model of a chip's table. -/
import Derived.Test.YtdfidkhbldedlaaGreatF0
namespace Go.Proofs.YtdfidkhbldedlaaGreat
open Go.K
set_option linter.unusedVariables false
set_option linter.unusedSimpArgs false

def byteI (b : Int) : By := BitVec.ofInt 8 b
def planBody (v : Wd) (blocks : Int) (uses lost : List Int) : List By :=
  numB 8 v ++ (numsB 1 [BitVec.ofInt 64 blocks, BitVec.ofInt 64 (uses.length : Int), BitVec.ofInt 64 (lost.length : Int)] ++ (uses.map byteI ++ (lost.map byteI ++ [])))
def planP (v : Wd) (blocks : Int) (uses lost : List Int) : Pg := (writeF 1 (planBody v blocks uses lost)).1
def intB (b : By) : Int := (b.toNat : Int)
/-- What a record's body tells. -/
def readTB (body : List By) (blocks : Int) : List Int × List Int × Wd × Bool :=
  let a := rdNum 8 body false
  let b := rdNum 1 a.2.1 a.2.2
  if w64 (b.1.toNat : Int) ≠ blocks then ([], [], 0, false) else
  let n := rdNum 1 b.2.1 b.2.2
  let m := rdNum 1 n.2.1 n.2.2
  let u := rdBytes (max (w64 (n.1.toNat : Int)) 0).toNat m.2.1 m.2.2
  let l := rdBytes (max (w64 (m.1.toNat : Int)) 0).toNat u.2.1 u.2.2
  (u.1.map intB, l.1.map intB, a.1, (!l.2.2 && decide ((l.2.1.length : Int) = 0)) && decide (w64 (n.1.toNat : Int) = w64 (w64 (blocks - 2) - 4)))
theorem readTB_no {body : List By} {blocks : Int} {a b : Wd × List By × Bool} (ha : a = rdNum 8 body false) (hb : b = rdNum 1 a.2.1 a.2.2) (h : ¬ w64 (b.1.toNat : Int) = blocks) : readTB body blocks = ([], [], 0, false) := by
  subst hb; subst ha; unfold readTB; simp only []; rw [if_pos h]
theorem readTB_yes {body : List By} {blocks : Int} {a b n m : Wd × List By × Bool} {u l : List By × List By × Bool} (ha : a = rdNum 8 body false) (hb : b = rdNum 1 a.2.1 a.2.2) (h : w64 (b.1.toNat : Int) = blocks)
    (hn : n = rdNum 1 b.2.1 b.2.2) (hm : m = rdNum 1 n.2.1 n.2.2) (hu : u = rdBytes (max (w64 (n.1.toNat : Int)) 0).toNat m.2.1 m.2.2) (hl : l = rdBytes (max (w64 (m.1.toNat : Int)) 0).toNat u.2.1 u.2.2) :
    readTB body blocks = (u.1.map intB, l.1.map intB, a.1, (!l.2.2 && decide ((l.2.1.length : Int) = 0)) && decide (w64 (n.1.toNat : Int) = w64 (w64 (blocks - 2) - 4))) := by
  subst hl; subst hu; subst hm; subst hn; subst hb; subst ha; unfold readTB; simp only []; rw [if_neg (by rw [h]; simp)]
/-- What a page tells, as a plan's: the blocks that are used, the lost ones, the version, whether it is one. -/
def readT (q : Pg) (blocks : Int) : List Int × List Int × Wd × Bool :=
  let f := readF q
  if f.2.2.2 ≠ 0 ∨ f.1 ≠ 1 then ([], [], 0, false) else
  readTB f.2.1 blocks
/-- A table, without where it lies. -/
structure TS where
  uses : List Int
  lost : List Int
  version : Wd
  area : Int
  next : Int
  at' : Int
deriving DecidableEq
/-- Does a page stand as it was written? -/
def standsE (c : Chip) (a i : Int) (q : Pg) : Int := if mayE c a i = 0 ∧ readP c a i ≠ q then 33 else mayE c a i
def stepE (c : Chip) (a i : Int) (q : Pg) : Int := if (progC c a i q).1 = 0 then standsE (progC c a i q).2 a i q else (progC c a i q).1
/-- A page is written into an area, from a place on: the place behind it, the error, the chip. -/
def putGo : Nat → Chip → Int → Int → Pg → Int × Int × Chip
  | 0, c, _, _, _ => (8, 34, c)
  | f + 1, c, a, i, q => if stepE c a i q ≠ 32 ∧ stepE c a i q ≠ 33 then (i + 1, stepE c a i q, (progC c a i q).2) else putGo f (progC c a i q).2 a (i + 1) q
def putC (c : Chip) (a i : Int) (q : Pg) : Int × Int × Chip := putGo (8 - i).toNat c a i q
theorem putC_stop {c : Chip} {a i : Int} {q : Pg} (hi : i < 8) (he : stepE c a i q ≠ 32 ∧ stepE c a i q ≠ 33) : putC c a i q = (i + 1, stepE c a i q, (progC c a i q).2) := by
  unfold putC
  rw [show (8 - i).toNat = (8 - (i + 1)).toNat + 1 by omega, putGo]
  rw [if_pos he]
theorem putC_go {c : Chip} {a i : Int} {q : Pg} (hi : i < 8) (he : ¬ (stepE c a i q ≠ 32 ∧ stepE c a i q ≠ 33)) : putC c a i q = putC (progC c a i q).2 a (i + 1) q := by
  unfold putC
  rw [show (8 - i).toNat = (8 - (i + 1)).toNat + 1 by omega, putGo]
  rw [if_neg he]
theorem putC_end {c : Chip} {a i : Int} {q : Pg} (hi : ¬ i < 8) : putC c a i q = (8, 34, c) := by
  unfold putC
  rw [show (8 - i).toNat = 0 by omega, putGo]
theorem prog_aC (c : Chip) (i j : Int) (d : Pg) : (progC c i j d).2.aC = c.aC := by
  unfold progC
  split
  · split
    · rfl
    · split
      · simp only []
        split
        · rfl
        · split <;> rfl
      · rfl
  · rfl
theorem erase_aC (c : Chip) (i : Int) : (eraseC c i).2.aC = c.aC := by
  unfold eraseC
  split
  · split
    · rfl
    · simp only []
      split
      · rfl
      · split <;> rfl
  · rfl
theorem putGo_aC (a : Int) (q : Pg) : ∀ (f : Nat) (c : Chip) (i : Int), (putGo f c a i q).2.2.aC = c.aC
  | 0, c, i => rfl
  | f + 1, c, i => by
    unfold putGo
    split
    · exact prog_aC c a i q
    · rw [putGo_aC a q f, prog_aC]
theorem putC_aC (c : Chip) (a i : Int) (q : Pg) : (putC c a i q).2.2.aC = c.aC := putGo_aC a q _ c i
theorem putGo_ge (a : Int) (q : Pg) : ∀ (f : Nat) (c : Chip) (i : Int), 0 ≤ i → i + f ≤ 8 → 0 ≤ (putGo f c a i q).1 ∧ (putGo f c a i q).1 ≤ 8
  | 0, c, i, h, _ => ⟨by unfold putGo; simp, by unfold putGo; simp⟩
  | f + 1, c, i, h, h8 => by
    unfold putGo
    split
    · simp only; omega
    · exact putGo_ge a q f _ (i + 1) (by omega) (by omega)
theorem putC_ge (c : Chip) (a i : Int) (q : Pg) (h : 0 ≤ i) : 0 ≤ (putC c a i q).1 ∧ (putC c a i q).1 ≤ 8 := by
  rcases Int.le_total i 8 with h8 | h8
  · exact putGo_ge a q _ c i h (by omega)
  · rw [putC_end (by omega)]; simp
/-- What is known while a plan is kept: the area, the place behind, the error, the chip. -/
structure KS where
  area : Int
  next : Int
  e : Int
  c : Chip
/-- The other area is tried. -/
def keep1 (a : Int) (q : Pg) (s : KS) : KS :=
  let r := eraseC s.c (1 - a)
  if r.1 = 0 then ⟨1 - a, (putC r.2 (1 - a) 0 q).1, (putC r.2 (1 - a) 0 q).2.1, (putC r.2 (1 - a) 0 q).2.2⟩ else if r.1 = 33 then ⟨1 - a, s.next, s.e, r.2⟩ else ⟨1 - a, s.next, r.1, r.2⟩
def keepGo : Nat → Int → Pg → KS → KS
  | 0, _, _, s => s
  | f + 1, a, q, s => if s.e = 34 then keepGo f a q (keep1 a q s) else s
def keepS (t : TS) (uses lost : List Int) (c : Chip) : KS :=
  let q := planP (t.version + 1) c.blocks.length uses lost
  let p := putC c t.area t.next q
  keepGo 4 t.area q ⟨t.area, p.1, p.2.1, p.2.2⟩
/-- A plan is kept: the error, the table, the chip. -/
def keepC (t : TS) (uses lost : List Int) (c : Chip) : Int × TS × Chip :=
  let s := keepS t uses lost c
  if s.e ≠ 0 then (s.e, t, s.c) else (0, ⟨uses, lost, t.version + 1, s.area, s.next, s.next - 1⟩, s.c)
theorem keep1_aC (a : Int) (q : Pg) (s : KS) : (keep1 a q s).c.aC = s.c.aC := by
  unfold keep1
  simp only []
  split
  · rw [putC_aC, erase_aC]
  · split <;> exact erase_aC _ _
theorem keep1_ge {a : Int} {q : Pg} {s : KS} (h : 0 ≤ s.next ∧ s.next ≤ 8) : 0 ≤ (keep1 a q s).next ∧ (keep1 a q s).next ≤ 8 := by
  unfold keep1
  simp only []
  split
  · exact putC_ge _ _ _ _ (Int.le_refl 0)
  · split <;> exact h
/-- What was seen of an area's first pages. -/
structure Sc where
  last : Int
  uses : List Int
  lost : List Int
  newest : Wd
  at' : Int
  any : Bool
def scan1 (c : Chip) (a : Int) (i : Nat) (s : Sc) : Sc :=
  let q := readP c a i
  let last := if blankB q = true then s.last else (i : Int) + 1
  let r := readT q c.blocks.length
  if (r.2.2.2 && (!s.any || decide ((s.newest.toNat : Int) ≤ r.2.2.1.toNat))) = true then ⟨last, r.1, r.2.1, r.2.2.1, i, true⟩ else { s with last := last }
def scanU (c : Chip) (a : Int) : Nat → Sc
  | 0 => ⟨0, [], [], 0, 0, false⟩
  | i + 1 => scan1 c a i (scanU c a i)
def ts0 : TS := ⟨[], [], 0, 0, 0, 0⟩
def open1 (c : Chip) (a : Nat) (t : TS × Bool) : TS × Bool :=
  let s := scanU c a 8
  if (s.any && (!t.2 || decide ((t.1.version.toNat : Int) < s.newest.toNat))) = true then (⟨s.uses, s.lost, s.newest, a, s.last, s.at'⟩, true) else t
def openU (c : Chip) : Nat → TS × Bool
  | 0 => (ts0, false)
  | a + 1 => open1 c a (openU c a)
/-- The table that a chip has: the error, and it. -/
def openC (c : Chip) : Int × TS :=
  if mayE c 0 0 ≠ 0 then (mayE c 0 0, ts0) else if (openU c 2).2 = true then (0, (openU c 2).1) else (35, ts0)
/-- The blocks of a chip that are bad, and those for use. -/
def badB (c : Chip) (b : Int) : Bool := thereB c b && badAt c b
def fmtU (c : Chip) (size : Int) : Nat → List Int × List Int
  | 0 => ([], [])
  | i + 1 =>
    let s := fmtU c size i
    if badB c i = true then (s.1, s.2 ++ [(i : Int)]) else if (decide (2 ≤ (i : Int)) && decide ((s.1.length : Int) < size)) = true then (s.1 ++ [(i : Int)], s.2) else s
/-- What goes on of a table that was there. -/
def fmt0 (c : Chip) : Wd × Int × Int := if (openC c).1 = 0 then ((openC c).2.version, (openC c).2.area, (openC c).2.next) else (0, 0, 0)
def fmtSize (c : Chip) : Int := w64 (w64 ((c.blocks.length : Int) - 2) - 4)
def fmtT (c : Chip) : TS := ⟨(fmtU c (fmtSize c) c.blocks.length).1, (fmtU c (fmtSize c) c.blocks.length).2, (fmt0 c).1, (fmt0 c).2.1, (fmt0 c).2.2, 0⟩
def fmtBad (c : Chip) : Bool := (badB c 0 || badB c 1) || decide (((fmtT c).uses.length : Int) < fmtSize c)
/-- A chip is given a table: the error, the table, the chip. -/
def formatC (c : Chip) : Int × TS × Chip :=
  if mayE c 0 0 ≠ 0 then (mayE c 0 0, ts0, c) else
  if fmtBad c = true then (34, ts0, c) else
  if (keepC (fmtT c) (fmtT c).uses (fmtT c).lost c).1 ≠ 0 then ((keepC (fmtT c) (fmtT c).uses (fmtT c).lost c).1, ts0, (keepC (fmtT c) (fmtT c).uses (fmtT c).lost c).2.2) else keepC (fmtT c) (fmtT c).uses (fmtT c).lost c
theorem scan_last (c : Chip) (a : Int) : ∀ i, 0 ≤ (scanU c a i).last ∧ (scanU c a i).last ≤ i
  | 0 => by simp [scanU]
  | i + 1 => by
    have ih := scan_last c a i
    show 0 ≤ (scan1 c a i (scanU c a i)).last ∧ _
    have : (scan1 c a i (scanU c a i)).last = if blankB (readP c a i) = true then (scanU c a i).last else (i : Int) + 1 := by unfold scan1; simp only []; split <;> rfl
    show 0 ≤ (scan1 c a i (scanU c a i)).last ∧ (scan1 c a i (scanU c a i)).last ≤ _
    rw [this]
    split <;> omega
theorem openU_range (c : Chip) : ∀ k, k ≤ 2 → (0 ≤ (openU c k).1.area ∧ (openU c k).1.area ≤ 1) ∧ 0 ≤ (openU c k).1.next ∧ (openU c k).1.next ≤ 8
  | 0, _ => by simp [openU, ts0]
  | k + 1, h => by
    have ih := openU_range c k (by omega)
    have hl := scan_last c k 8
    show (0 ≤ (open1 c k (openU c k)).1.area ∧ (open1 c k (openU c k)).1.area ≤ 1) ∧ 0 ≤ (open1 c k (openU c k)).1.next ∧ (open1 c k (openU c k)).1.next ≤ 8
    unfold open1
    simp only []
    split
    · simp only; omega
    · exact ih
theorem fmt0_range (c : Chip) : (0 ≤ (fmt0 c).2.1 ∧ (fmt0 c).2.1 ≤ 1) ∧ 0 ≤ (fmt0 c).2.2 ∧ (fmt0 c).2.2 ≤ 8 := by
  unfold fmt0
  split
  · unfold openC
    split
    · simp [ts0]
    · split
      · exact openU_range c 2 (Nat.le_refl _)
      · simp [ts0]
  · simp
theorem fmtU_len (c : Chip) (size : Int) : ∀ i, (fmtU c size i).1.length ≤ i ∧ (fmtU c size i).2.length ≤ i
  | 0 => by simp [fmtU]
  | i + 1 => by
    have ih := fmtU_len c size i
    unfold fmtU
    simp only []
    split
    · simp; omega
    · split
      · simp; omega
      · omega
/-- Is a block a spare? -/
def spareB (t : TS) (n : Int) (b : Int) : Bool := ((decide (2 ≤ b) && decide (b < n)) && !hasI t.uses b) && !hasI t.lost b
def spareU (t : TS) (n : Nat) : Option Nat := (List.range n).find? fun b => spareB t n b
def atT (t : TS) (l : Int) : Int × Bool := if (decide (l < 0) || decide ((t.uses.length : Int) ≤ l)) = true then (0, false) else (at0 t.uses l, true)
def spareV (t : TS) (n : Nat) : Int × Bool := match spareU t n with | some b => ((b : Int), true) | none => (0, false)
theorem spare_found {t : TS} {n i : Nat} (hi : i < n) (hn : ∀ k < i, spareB t n k = false) (h : spareB t n i = true) : spareV t n = ((i : Int), true) := by
  have : spareU t n = some i := by
    unfold spareU
    rw [List.find?_eq_some_iff_append]
    refine ⟨h, List.range i, (List.range' (i + 1) (n - i - 1)), ?_, fun x hx => by rw [hn x (List.mem_range.1 hx)]; rfl⟩
    apply List.ext_getElem
    · simp; omega
    · intro j h1 h2
      rw [List.getElem_range]
      by_cases hj : j < i
      · rw [List.getElem_append_left (by simpa using hj)]; simp
      · by_cases hj2 : j = i
        · subst hj2; rw [List.getElem_append_right (by simp)]; simp
        · rw [List.getElem_append_right (by simp; omega)]
          simp only [List.length_range]
          rw [List.getElem_cons]
          rw [dif_neg (by omega), List.getElem_range']
          omega
  unfold spareV; rw [this]
theorem spare_none {t : TS} {n : Nat} (hn : ∀ k < n, spareB t n k = false) : spareV t n = (0, false) := by
  have : spareU t n = none := by
    unfold spareU
    rw [List.find?_eq_none]
    intro x hx
    rw [hn x (List.mem_range.1 hx)]; simp
  unfold spareV; rw [this]
theorem may_same {c : Chip} {a i : Int} (hb : 2 ≤ c.blocks.length) (ha : 0 ≤ a ∧ a < 2) (hi : 0 ≤ i ∧ i < 8) : mayE c a i = mayE c 0 0 := by
  have h : ∀ a i : Int, 0 ≤ a ∧ a < 2 → 0 ≤ i ∧ i < 8 → ((!thereB c a || decide (i < 0)) || decide (8 ≤ i)) = false := by
    intro a i ha hi
    have h1 : thereB c a = true := by unfold thereB; simp; omega
    have h2 : ¬ i < 0 := by omega
    have h3 : ¬ 8 ≤ i := by omega
    simp [h1, h2, h3]
  unfold mayE
  rw [h a i ha hi, h 0 0 (by omega) (by omega)]
end Go.Proofs.YtdfidkhbldedlaaGreat
