/- The plain model of a chip: pages, blocks, power. -/
import Derived.Test.YtdfidkhbldedlaaGreatB0
namespace Go.Proofs.YtdfidkhbldedlaaGreat
open Go.K
set_option linter.unusedVariables false
set_option linter.unusedSimpArgs false

/-- Cells of bytes. -/
def vbc {n : Nat} (p : Vector By n) : List Value := p.toList.map bv
section
variable {n : Nat} {p : Vector By n}
theorem vbc_len : (vbc p).length = n := by simp [vbc]
theorem cut_vb : cut (vbc p) 0 n = some (vbc p) := by have := cut_whole (vbc p); rwa [vbc_len] at this
theorem vc_vb : vcells (.agg (vbc p).toArray) = some (vbc p) := by
  have : (vbc p).all (·.oneCell') = true := List.all_eq_true.2 fun x hx => by
    obtain ⟨y, _, rfl⟩ := List.mem_map.1 hx; rfl
  simp [vcells, this]
theorem spl_vb {cs : List Value} (h : cs.length = n) : splice cs 0 (vbc p) = some (vbc p) := splice_whole (by rw [vbc_len, h])
theorem nth_vb {i : Nat} (h : i < n) : nth (vbc p) i = some (bv p[i]) := by
  unfold vbc
  rw [nth_map]
  simp [h]
theorem toList_set {n : Nat} (p : Vector By n) (i : Nat) (y : By) (h : i < n) : (p.set i y).toList = p.toList.set i y := by
  apply List.ext_getElem
  · simp
  · intro j h1 h2
    simp [Vector.getElem_set, List.getElem_set]
theorem spl1_vb {i : Nat} (h : i < n) (y : By) : splice (vbc p) i [bv y] = some (vbc (p.set i y)) := by
  have := splice_one (g := bv) (l := p.toList) (y := y) (i := i) (by simpa using h)
  have e : (p.set i y).toList = p.toList.set i y := toList_set p i y h
  rw [vbc, this, vbc, e]
end
abbrev Pg := Vector By 258
/-- a page that holds nothing -/
def blankP : Pg := Vector.replicate 258 255#8
def fillF (i : Nat) : Pg := Vector.ofFn fun j => if j.val < i then 255#8 else 0#8
theorem fillF_0 : List.replicate 258 (Value.int .u8 0) = vbc (fillF 0) := by kernel_rfl
theorem fillF_end : fillF 258 = blankP := by
  apply Vector.ext
  intro i hi
  simp [fillF, blankP, hi]
theorem fillF_step {i : Nat} (h : i < 258) : splice (vbc (fillF i)) i [.int .u8 255] = some (vbc (fillF (i + 1))) := by
  have h1 := spl1_vb (p := fillF i) h 255#8
  have h2 : (fillF i).set i 255#8 = fillF (i + 1) := by
    apply Vector.ext
    intro j hj
    rw [Vector.getElem_set]
    by_cases hij : i = j
    · subst hij; simp [fillF]
    · have : (j < i) ↔ (j < i + 1) := by omega
      simp [hij, fillF, this]
  rw [h2] at h1
  exact h1
structure Blk where
  pages : Vector Pg 8
  next : Int
  bad : Bool
def pgsc (v : Vector Pg 8) : List Value := v.toList.flatMap vbc
def blkc (b : Blk) : List Value := pgsc b.pages ++ [.int .i64 b.next, .bool b.bad]
def rowc (l : List Blk) : List Value := l.flatMap blkc
theorem pgsc_len (v : Vector Pg 8) : (pgsc v).length = 2064 := by
  have := row_len (f := vbc) (n := 258) v.toList (fun x _ => vbc_len)
  rw [pgsc, this]; simp
theorem blkc_len (b : Blk) : (blkc b).length = 2066 := by simp [blkc, pgsc_len]

/-- A chip: what it is, and where it lies (its power's block, its own, its blocks'; which acts fail). -/
structure Chip where
  off : Bool
  after : Int
  keep : Int
  blocks : List Blk
  dead : Bool
  out : Bool
  pc : Int
  wc : Int
  count : Int
  aP : Nat
  aC : Nat
  aB : Nat
  pf : Sl Int
  wf : Sl Int
abbrev pwc (c : Chip) : List Value := [.bool c.off, .int .i64 c.after, .int .i64 c.keep]
abbrev chc (c : Chip) : List Value :=
  [.pointer (some ⟨c.aP, 0, none⟩), .slice (some ⟨c.aB, 0, none⟩) c.blocks.length c.blocks.length, .bool c.dead, .bool c.out, c.pf.val, .int .i64 c.pc, c.wf.val, .int .i64 c.wc, .int .i64 c.count]
def thereB (c : Chip) (i : Int) : Bool := decide (0 ≤ i) && decide (i < c.blocks.length)
def mayE (c : Chip) (i j : Int) : Int := if c.off = true then 30 else if (!(!c.dead && !c.out)) = true then 31 else if ((!thereB c i || decide (j < 0)) || decide (8 ≤ j)) = true then 1 else 0
def zeroP : Pg := Vector.replicate 258 0#8
theorem zeroP_eq : List.replicate 258 (Value.int .u8 0) = vbc zeroP := by kernel_rfl
def pageAt (c : Chip) (i j : Int) : Pg := match c.blocks[i.toNat]? with | some b => b.pages.toList.getD j.toNat zeroP | none => zeroP
def readP (c : Chip) (i j : Int) : Pg := if mayE c i j = 0 then pageAt c i j else zeroP
theorem may_in {c : Chip} {i j : Int} (h : mayE c i j = 0) : 0 ≤ i ∧ i < c.blocks.length ∧ 0 ≤ j ∧ j < 8 ∧ c.off = false ∧ c.dead = false ∧ c.out = false := by
  unfold mayE thereB at h
  split at h
  · omega
  · split at h
    · omega
    · split at h
      · omega
      · rename_i h1 h2 h3
        simp at h1 h2 h3
        refine ⟨by omega, by omega, by omega, by omega, h1, ?_, ?_⟩ <;> simp [h2]
theorem cut_page {c : Chip} {i j : Int} (h0 : 0 ≤ i) (h1 : i < c.blocks.length) (h2 : 0 ≤ j) (h3 : j < 8) : cut (rowc c.blocks) (i.toNat * 2066 + j.toNat * 258) 258 = some (vbc (pageAt c i j)) := by
  have hi : i.toNat < c.blocks.length := by omega
  have hb : c.blocks[i.toNat]? = some c.blocks[i.toNat] := List.getElem?_eq_getElem hi
  have hj : j.toNat < c.blocks[i.toNat].pages.toList.length := by simp; omega
  have hp : c.blocks[i.toNat].pages.toList[j.toNat]? = some (pageAt c i j) := by
    unfold pageAt
    rw [hb]
    simp only [List.getD_eq_getElem?_getD, List.getElem?_eq_getElem hj, Option.getD_some]
  refine cut_row (fun b _ => blkc_len b) hb ?_
  refine cut_left ?_ _
  have := cut_row (f := vbc) (n := 258) (o := 0) (m := 258) (fun x _ => vbc_len) hp cut_vb
  rw [Nat.add_zero] at this; exact this

/-- An act is counted: does the power end in it? -/
def endsC (c : Chip) : Chip := { c with off := if c.after < 0 then c.off else decide (c.after = 0), after := if c.after < 0 then c.after else w64 (c.after - 1) }
theorem pwc_pos {c : Chip} (h : c.after < 0) : pwc (endsC c) = pwc c := by simp [pwc, endsC, h]
theorem pwc_neg {c : Chip} (h : 0 ≤ c.after) : pwc (endsC c) = [.bool (decide (c.after = 0)), .int .i64 (w64 (c.after - 1)), .int .i64 c.keep] := by
  have : ¬ c.after < 0 := by omega
  simp [pwc, endsC, this]
def endsB (c : Chip) : Bool := if c.after < 0 then false else decide (c.after = 0)

/-- the first m bytes are written onto a page -/
def andP (m : Nat) (p d : Pg) : Pg := Vector.ofFn fun j => if j.val < m then p[j] &&& d[j] else p[j]
theorem andP_0 (p d : Pg) : andP 0 p d = p := by
  apply Vector.ext; intro j hj; simp [andP]
theorem andP_step {m : Nat} (h : m < 258) (p d : Pg) : (andP m p d).set m (p[m] &&& d[m]) = andP (m + 1) p d := by
  apply Vector.ext
  intro j hj
  rw [Vector.getElem_set]
  by_cases hij : m = j
  · subst hij; simp [andP]
  · have : (j < m) ↔ (j < m + 1) := by omega
    simp [hij, andP, this]
theorem andP_at {m : Nat} (h : m < 258) (p d : Pg) : (andP m p d)[m] = p[m] := by simp [andP]
def setPg (b : Blk) (i : Nat) (p : Pg) : Blk := { b with pages := b.pages.setIfInBounds i p }
theorem pages_at {b : Blk} {i : Nat} (hi : i < 8) : b.pages.toList[i]? = some b.pages[i] := by
  rw [List.getElem?_eq_getElem (by simpa using hi)]; simp
theorem toList_setPg (b : Blk) {i : Nat} (hi : i < 8) (p : Pg) : (setPg b i p).pages.toList = b.pages.toList.set i p := by
  apply List.ext_getElem
  · simp [setPg]
  · intro j h1 h2
    simp [setPg, Vector.getElem_setIfInBounds, List.getElem_set]
theorem row_byte {l : List Blk} {k i j : Nat} {b : Blk} (hk : l[k]? = some b) (hi : i < 8) (hj : j < 258) : nth (rowc l) (k * 2066 + (i * 258 + j)) = some (bv b.pages[i][j]) := by
  rw [rowc, nth_row (n := 2066) (fun b _ => blkc_len b) hk (by omega), blkc, nth_left (by rw [pgsc_len]; omega), pgsc, nth_row (n := 258) (fun x _ => vbc_len) (pages_at hi) hj, nth_vb hj]
theorem row_setPg {l : List Blk} {k i o : Nat} {b : Blk} {vs : List Value} {q : Pg} (hk : l[k]? = some b) (hi : i < 8) (hs : splice (vbc b.pages[i]) o vs = some (vbc q)) : splice (rowc l) (k * 2066 + (i * 258 + o)) vs = some (rowc (l.set k (setPg b i q))) := by
  refine splice_row (f := blkc) (n := 2066) (fun b _ => blkc_len b) hk ?_
  have h1 : splice (pgsc b.pages) (i * 258 + o) vs = some (pgsc (setPg b i q).pages) := by
    rw [pgsc, pgsc, toList_setPg b hi q]
    exact splice_row (f := vbc) (n := 258) (fun x _ => vbc_len) (pages_at hi) hs
  exact splice_left h1 _
/-- how many bytes, or pages: within the bounds -/
def clampN (n m : Int) : Nat := (min (max n 0) m).toNat
/-- the block behind a write of the first bytes of a page -/
def wrB (b : Blk) (i m : Nat) (d : Pg) (hi : i < 8) : Blk := setPg b i (andP m b.pages[i] d)
theorem wrB_0 (b : Blk) (i : Nat) (d : Pg) (hi : i < 8) : wrB b i 0 d hi = b := by
  unfold wrB setPg
  rw [andP_0]
  have : b.pages.setIfInBounds i b.pages[i] = b.pages := by
    apply Vector.ext
    intro j hj
    rw [Vector.getElem_setIfInBounds]
    split
    · rename_i h; subst h; rfl
    · rfl
  rw [this]
theorem wr_at {l : List Blk} {k i j : Nat} {b : Blk} {d : Pg} (hk : l[k]? = some b) (hi : i < 8) (hj : j < 258) : nth (rowc (l.set k (wrB b i j d hi))) (k * 2066 + (i * 258 + j)) = some (bv b.pages[i][j]) := by
  have hkl := (List.getElem?_eq_some_iff.1 hk).1
  have h2 : (l.set k (wrB b i j d hi))[k]? = some (wrB b i j d hi) := by simp [hkl]
  rw [row_byte h2 hi hj]
  have : (wrB b i j d hi).pages[i] = andP j b.pages[i] d := by simp [wrB, setPg]
  rw [this, andP_at hj]
theorem wr_step {l : List Blk} {k i j : Nat} {b : Blk} {d : Pg} (hk : l[k]? = some b) (hi : i < 8) (hj : j < 258) : splice (rowc (l.set k (wrB b i j d hi))) (k * 2066 + (i * 258 + j)) [bv (b.pages[i][j] &&& d[j])] = some (rowc (l.set k (wrB b i (j + 1) d hi))) := by
  have hkl := (List.getElem?_eq_some_iff.1 hk).1
  have h2 : (l.set k (wrB b i j d hi))[k]? = some (wrB b i j d hi) := by simp [hkl]
  have h3 : (wrB b i j d hi).pages[i] = andP j b.pages[i] d := by simp [wrB, setPg]
  have h4 := row_setPg (o := j) (vs := [bv (b.pages[i][j] &&& d[j])]) (q := andP (j + 1) b.pages[i] d) h2 hi (by rw [h3, ← andP_step hj]; exact spl1_vb hj _)
  rw [h4]
  simp [wrB, setPg]
/-- the block whose first pages hold nothing -/
def wipeB (b : Blk) (m : Nat) : Blk := { b with pages := Vector.ofFn fun j => if j.val < m then blankP else b.pages[j] }
theorem wipeB_0 (b : Blk) : wipeB b 0 = b := by
  unfold wipeB
  have : (Vector.ofFn fun j : Fin 8 => if j.val < 0 then blankP else b.pages[j]) = b.pages := by
    apply Vector.ext; intro j hj; simp
  rw [this]
theorem wipeB_step (b : Blk) {m : Nat} (h : m < 8) : setPg (wipeB b m) m blankP = wipeB b (m + 1) := by
  unfold wipeB setPg
  congr 1
  apply Vector.ext
  intro j hj
  rw [Vector.getElem_setIfInBounds]
  by_cases hij : m = j
  · subst hij; simp
  · have : (j < m) ↔ (j < m + 1) := by omega
    simp [hij, this]
theorem wipe_step {l : List Blk} {k j : Nat} {b : Blk} (hk : l[k]? = some b) (hj : j < 8) : splice (rowc (l.set k (wipeB b j))) (k * 2066 + (j * 258 + 0)) (vbc blankP) = some (rowc (l.set k (wipeB b (j + 1)))) := by
  have hkl := (List.getElem?_eq_some_iff.1 hk).1
  have h2 : (l.set k (wipeB b j))[k]? = some (wipeB b j) := by simp [hkl]
  have h4 := row_setPg (o := 0) (vs := vbc blankP) (q := blankP) h2 hj (spl_vb vbc_len)
  rw [h4, wipeB_step b hj]
  simp
theorem row_next {l : List Blk} {k : Nat} {b : Blk} (hk : l[k]? = some b) : nth (rowc l) (k * 2066 + 2064) = some (.int .i64 b.next) := by
  rw [rowc, nth_row (n := 2066) (fun b _ => blkc_len b) hk (by omega), blkc]
  have := nth_right (b := pgsc b.pages) (d := [.int .i64 b.next, .bool b.bad]) (o := 0)
  rw [pgsc_len] at this
  exact this
theorem row_bad {l : List Blk} {k : Nat} {b : Blk} (hk : l[k]? = some b) : nth (rowc l) (k * 2066 + 2065) = some (.bool b.bad) := by
  rw [rowc, nth_row (n := 2066) (fun b _ => blkc_len b) hk (by omega), blkc]
  have := nth_right (b := pgsc b.pages) (d := [.int .i64 b.next, .bool b.bad]) (o := 1)
  rw [pgsc_len] at this
  exact this
theorem row_setNext {l : List Blk} {k : Nat} {b : Blk} (n : Int) (hk : l[k]? = some b) : splice (rowc l) (k * 2066 + 2064) [.int .i64 n] = some (rowc (l.set k { b with next := n })) := by
  refine splice_row (f := blkc) (n := 2066) (fun b _ => blkc_len b) hk ?_
  have := splice_right (a := pgsc b.pages) (d := [.int .i64 b.next, .bool b.bad]) (o := 0) (c := [.int .i64 n]) (r := [.int .i64 n, .bool b.bad]) rfl
  rw [pgsc_len] at this
  exact this
theorem row_setBad {l : List Blk} {k : Nat} {b : Blk} (v : Bool) (hk : l[k]? = some b) : splice (rowc l) (k * 2066 + 2065) [.bool v] = some (rowc (l.set k { b with bad := v })) := by
  refine splice_row (f := blkc) (n := 2066) (fun b _ => blkc_len b) hk ?_
  have := splice_right (a := pgsc b.pages) (d := [.int .i64 b.next, .bool b.bad]) (o := 1) (c := [.bool v]) (r := [.int .i64 b.next, .bool v]) rfl
  rw [pgsc_len] at this
  exact this
theorem there_in {c : Chip} {i : Int} (h : thereB c i = true) : 0 ≤ i ∧ i < c.blocks.length := by
  unfold thereB at h; simp at h; omega
theorem there_get {c : Chip} {i : Int} (h : thereB c i = true) : ∃ b, c.blocks[i.toNat]? = some b := by
  have := there_in h
  exact ⟨_, List.getElem?_eq_getElem (by omega)⟩
def badAt (c : Chip) (i : Int) : Bool := match c.blocks[i.toNat]? with | some b => b.bad | none => false
theorem bad_at {c : Chip} {i : Int} (h : thereB c i = true) : nth (rowc c.blocks) (i.toNat * 2066 + 2065) = some (.bool (badAt c i)) := by
  obtain ⟨b, hb⟩ := there_get h
  rw [row_bad hb, badAt, hb]
/-- An act of a kind is counted: does it fail? -/
def actP (c : Chip) : Chip := { c with pc := w64 (c.pc + 1) }
def failP (c : Chip) : Bool := hasI c.pf.list (w64 (w64 (c.pc + 1) - 1))
def actW (c : Chip) : Chip := { c with wc := w64 (c.wc + 1) }
def failW (c : Chip) : Bool := hasI c.wf.list (w64 (w64 (c.wc + 1) - 1))
def cnt (c : Chip) : Chip := { c with count := w64 (c.count + 1) }
def setB (c : Chip) (i : Nat) (b : Blk) : Chip := { c with blocks := c.blocks.set i b }
/-- A program: the error's number, and the chip behind it. -/
def progC (c : Chip) (i j : Int) (d : Pg) : Int × Chip :=
  if mayE c i j = 0 then
    match c.blocks[i.toNat]? with
    | none => (1, c)
    | some b =>
      if j = b.next then
        let b1 : Blk := { b with next := w64 (b.next + 1) }
        let c1 : Chip := endsC (actP (cnt c))
        let wr (m : Nat) : Chip := setB c1 i.toNat (if h : j.toNat < 8 then wrB b1 j.toNat m d h else b1)
        if endsB c = true then (30, wr (clampN c.keep 258)) else if (failP c || b.bad) = true then (33, wr 129) else (0, wr 258)
      else (32, c)
  else (mayE c i j, c)
/-- An erase. -/
def eraseC (c : Chip) (i : Int) : Int × Chip :=
  if mayE c i 0 = 0 then
    match c.blocks[i.toNat]? with
    | none => (1, c)
    | some b =>
      let b1 : Blk := { b with next := 8 }
      let c1 : Chip := endsC (actW (cnt c))
      if endsB c = true then (30, setB c1 i.toNat (wipeB b1 (clampN c.keep 8))) else if (failW c || b.bad) = true then (33, setB c1 i.toNat b1) else (0, setB c1 i.toNat { wipeB b1 8 with next := 0 })
  else (mayE c i 0, c)
def zeroB : Blk := ⟨Vector.replicate 8 zeroP, 0, false⟩
theorem zeroB_eq : List.replicate 2064 (Value.int .u8 0) ++ [.int .i64 0, .bool false] = blkc zeroB := by kernel_rfl
theorem zrep_row (n : Nat) : zrep n (blkc zeroB) = rowc (List.replicate n zeroB) := by
  induction n with
  | zero => rfl
  | succ n ih => simp only [zrep, ih, List.replicate_succ, rowc, List.flatMap_cons]
/-- A blank block. -/
def newB (bad : Bool) : Blk := ⟨Vector.replicate 8 blankP, 0, bad⟩
def newBs (n : Nat) (bad : List Int) (i : Nat) : List Blk := (List.range n).map fun j => if j < i then newB (hasI bad j) else zeroB
theorem newBs_0 (n : Nat) (bad : List Int) : newBs n bad 0 = List.replicate n zeroB := by
  apply List.ext_getElem
  · simp [newBs]
  · intro j h1 h2; simp [newBs]
theorem newBs_len (n : Nat) (bad : List Int) (i : Nat) : (newBs n bad i).length = n := by simp [newBs]
theorem newBs_at {n i : Nat} (bad : List Int) (h : i < n) : (newBs n bad i)[i]? = some zeroB := by simp [newBs, h]
theorem newBs_step {n i : Nat} (bad : List Int) (h : i < n) : (newBs n bad i).set i (newB (hasI bad i)) = newBs n bad (i + 1) := by
  apply List.ext_getElem
  · simp [newBs]
  · intro j h1 h2
    rw [List.getElem_set]
    by_cases hij : i = j
    · subst hij; simp [newBs]
    · have : (j < i) ↔ (j < i + 1) := by omega
      simp [hij, newBs, this]
theorem wipe_zero (b : Bool) : wipeB { zeroB with bad := b } 8 = newB b := by
  unfold wipeB newB zeroB
  congr 1
def okNew (n : Int) (bad : List Int) : Bool := !(decide (n < 16) || decide (40 < n)) && bad.all fun x => decide (0 ≤ x) && decide (x < n)
def newC (off : Bool) (after keep : Int) (aP aC aB : Nat) (n : Nat) (bad : List Int) : Chip := ⟨off, after, keep, newBs n bad n, false, false, 0, 0, 0, aP, aC, aB, .nil, .nil⟩
def idxF (xs : List Int) (p : Int → Bool) : Int := match xs.findIdx? p with | some k => k | none => -1
theorem idxF_at {xs : List Int} {p : Int → Bool} (i : Int) (h0 : 0 ≤ i) (h1 : i < xs.length) (hn : ∀ k : Int, 0 ≤ k → k < i → p (at0 xs k) = false) (he : p (at0 xs i) = true) : idxF xs p = i := by
  have : xs.findIdx? p = some i.toNat := by
    rw [List.findIdx?_eq_some_iff_getElem]
    refine ⟨by omega, ?_, ?_⟩
    · simpa [at0, List.getD_eq_getElem?_getD, show i.toNat < xs.length by omega] using he
    · intro j hj
      have := hn j (by omega) (by omega)
      simpa [at0, List.getD_eq_getElem?_getD, show j < xs.length by omega] using this
  simp [idxF, this]; omega
theorem idxF_none {xs : List Int} {p : Int → Bool} (hn : ∀ k : Int, 0 ≤ k → k < xs.length → p (at0 xs k) = false) : idxF xs p = -1 := by
  have : xs.findIdx? p = none := by
    rw [List.findIdx?_eq_none_iff]
    intro x hx
    obtain ⟨k, hk, rfl⟩ := List.getElem_of_mem hx
    have := hn k (by omega) (by omega)
    simpa [at0, List.getD_eq_getElem?_getD, hk] using this
  simp [idxF, this]
theorem idxF_any (xs : List Int) (p : Int → Bool) : decide (0 ≤ idxF xs p) = xs.any p := by
  unfold idxF
  cases h : xs.findIdx? p with
  | none =>
    rw [List.findIdx?_eq_none_iff] at h
    have : xs.any p = false := by rw [List.any_eq_false]; intro x hx; simpa using h x hx
    rw [this]; rfl
  | some k =>
    rw [List.findIdx?_eq_some_iff_getElem] at h
    obtain ⟨h1, h2, _⟩ := h
    have : xs.any p = true := List.any_eq_true.2 ⟨_, List.getElem_mem h1, h2⟩
    rw [this]; simp
theorem prog_may {c : Chip} {i j : Int} {d : Pg} (h : ¬ mayE c i j = 0) : progC c i j d = (mayE c i j, c) := by unfold progC; rw [if_neg h]
theorem prog_order {c : Chip} {i j : Int} {d : Pg} {b : Blk} (h : mayE c i j = 0) (hb : c.blocks[i.toNat]? = some b) (hn : ¬ j = b.next) : progC c i j d = (32, c) := by
  unfold progC; rw [if_pos h, hb]; simp only []; rw [if_neg hn]
def wrC (c : Chip) (i j : Int) (d : Pg) (b : Blk) (m : Nat) (h : j.toNat < 8) : Chip := setB (endsC (actP (cnt c))) i.toNat (wrB { b with next := w64 (b.next + 1) } j.toNat m d h)
theorem prog_down {c : Chip} {i j : Int} {d : Pg} {b : Blk} (h : mayE c i j = 0) (h8 : j.toNat < 8) (hb : c.blocks[i.toNat]? = some b) (hn : j = b.next) (he : endsB c = true) : progC c i j d = (30, wrC c i j d b (clampN c.keep 258) h8) := by
  unfold progC; rw [if_pos h, hb]; simp only []; rw [if_pos hn, if_pos he, dif_pos h8]; rfl
theorem prog_fail {c : Chip} {i j : Int} {d : Pg} {b : Blk} (h : mayE c i j = 0) (h8 : j.toNat < 8) (hb : c.blocks[i.toNat]? = some b) (hn : j = b.next) (he : endsB c = false) (hf : (failP c || b.bad) = true) : progC c i j d = (33, wrC c i j d b 129 h8) := by
  unfold progC; rw [if_pos h, hb]; simp only []; rw [if_pos hn, if_neg (by rw [he]; exact Bool.false_ne_true), if_pos hf, dif_pos h8]; rfl
theorem prog_ok {c : Chip} {i j : Int} {d : Pg} {b : Blk} (h : mayE c i j = 0) (h8 : j.toNat < 8) (hb : c.blocks[i.toNat]? = some b) (hn : j = b.next) (he : endsB c = false) (hf : (failP c || b.bad) = false) : progC c i j d = (0, wrC c i j d b 258 h8) := by
  unfold progC; rw [if_pos h, hb]; simp only []; rw [if_pos hn, if_neg (by rw [he]; exact Bool.false_ne_true), if_neg (by rw [hf]; exact Bool.false_ne_true), dif_pos h8]; rfl
theorem erase_may {c : Chip} {i : Int} (h : ¬ mayE c i 0 = 0) : eraseC c i = (mayE c i 0, c) := by unfold eraseC; rw [if_neg h]
theorem erase_down {c : Chip} {i : Int} {b : Blk} (h : mayE c i 0 = 0) (hb : c.blocks[i.toNat]? = some b) (he : endsB c = true) : eraseC c i = (30, setB (endsC (actW (cnt c))) i.toNat (wipeB { b with next := 8 } (clampN c.keep 8))) := by
  unfold eraseC; rw [if_pos h, hb]; simp only []; rw [if_pos he]
theorem erase_fail {c : Chip} {i : Int} {b : Blk} (h : mayE c i 0 = 0) (hb : c.blocks[i.toNat]? = some b) (he : endsB c = false) (hf : (failW c || b.bad) = true) : eraseC c i = (33, setB (endsC (actW (cnt c))) i.toNat { b with next := 8 }) := by
  unfold eraseC; rw [if_pos h, hb]; simp only []; rw [if_neg (by rw [he]; exact Bool.false_ne_true), if_pos hf]
theorem erase_ok {c : Chip} {i : Int} {b : Blk} (h : mayE c i 0 = 0) (hb : c.blocks[i.toNat]? = some b) (he : endsB c = false) (hf : (failW c || b.bad) = false) : eraseC c i = (0, setB (endsC (actW (cnt c))) i.toNat { wipeB { b with next := 8 } 8 with next := 0 }) := by
  unfold eraseC; rw [if_pos h, hb]; simp only []; rw [if_neg (by rw [he]; exact Bool.false_ne_true), if_neg (by rw [hf]; exact Bool.false_ne_true)]
end Go.Proofs.YtdfidkhbldedlaaGreat
