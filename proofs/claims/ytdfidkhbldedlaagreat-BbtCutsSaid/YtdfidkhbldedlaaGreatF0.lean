/- The plain laws of records in pages. -/
import Derived.Test.YtdfidkhbldedlaaGreatP0
namespace Go.Proofs.YtdfidkhbldedlaaGreat
open Go.K
set_option linter.unusedVariables false
set_option linter.unusedSimpArgs false

def putV {n : Nat} (p : Vector By n) (o : Nat) (xs : List By) : Vector By n := Vector.ofFn fun j => if o ≤ j.val ∧ j.val < o + xs.length then xs.getD (j.val - o) 0 else p[j]
theorem putV_at {n : Nat} (p : Vector By n) (o : Nat) (xs : List By) (j : Nat) (h : j < n) : (putV p o xs)[j] = if o ≤ j ∧ j < o + xs.length then xs.getD (j - o) 0 else p[j] := by simp [putV]
theorem vbc_get {n : Nat} (p : Vector By n) (i : Nat) : (vbc p)[i]? = if h : i < n then some (bv p[i]) else none := by
  unfold vbc
  rw [List.getElem?_map]
  by_cases h : i < n
  · simp [h]
  · rw [List.getElem?_eq_none (by simpa using h)]
    simp [h]
theorem cells_get (xs : List By) (i : Nat) : (cells xs)[i]? = (xs[i]?).map bv := by rw [cells_by, List.getElem?_map]
theorem cells_len1 (xs : List By) : (cells xs).length = xs.length := by rw [cells_by, List.length_map]
theorem spl_put {n : Nat} {p : Vector By n} {o : Nat} {xs : List By} (h : o + xs.length ≤ n) : splice (vbc p) o (cells xs) = some (vbc (putV p o xs)) := by
  refine splice_of ?_ (by rw [cells_len1, vbc_len]; exact h)
  apply List.ext_getElem?
  intro i
  rw [vbc_get]
  by_cases hi : i < n
  · rw [dif_pos hi, putV_at _ _ _ _ hi]
    by_cases h1 : i < o
    · rw [if_neg (by omega), List.append_assoc, List.getElem?_append_left (by rw [List.length_take, vbc_len]; omega), List.getElem?_take, if_pos h1, vbc_get, dif_pos hi]
    · by_cases h2 : i < o + xs.length
      · rw [if_pos ⟨by omega, h2⟩, List.append_assoc, List.getElem?_append_right (by rw [List.length_take, vbc_len]; omega), List.getElem?_append_left (by rw [cells_len1, List.length_take, vbc_len]; omega), List.length_take, vbc_len, Nat.min_eq_left (by omega), cells_get, List.getElem?_eq_getElem (by omega)]
        simp only [Option.map_some, List.getD_eq_getElem?_getD, List.getElem?_eq_getElem (show i - o < xs.length by omega), Option.getD_some]
      · rw [if_neg (by omega), List.getElem?_append_right (by rw [List.length_append, cells_len1, List.length_take, vbc_len]; omega), List.getElem?_drop, List.length_append, cells_len1, List.length_take, vbc_len, Nat.min_eq_left (by omega), vbc_get]
        have e : o + xs.length + (i - (o + xs.length)) = i := by omega
        simp only [e, hi, dif_pos]
  · rw [dif_neg hi, List.getElem?_eq_none]
    simp only [List.length_append, List.length_take, List.length_drop, cells_len1, vbc_len]
    omega
/-- A record's data, without its sum. -/
def dat0 (kind : By) (body : List By) : Dat := putV ((zeroD.set 0 kind).set 1 (BitVec.ofNat 8 body.length)) 2 body
def crcOf (d : Dat) : BitVec 32 := crcOn 0 [d.toList.take 252]
def sumD (d : Dat) : Dat := putV d 252 (numB 4 ((crcOf d).setWidth 64))
def datW (kind : By) (body : List By) : Dat := sumD (dat0 kind body)
def pageOf (d : Dat) : Pg := putV (putV zeroP 0 d.toList) 256 (numB 2 (BitVec.ofNat 64 (checkN d)))
def pageW (kind : By) (body : List By) : Pg := pageOf (datW kind body)
/-- May a record be so? -/
def wrong (kind : By) (body : List By) : Bool := (decide ((kind.toNat : Int) = 0) || decide ((kind.toNat : Int) = 255)) || decide ((240 : Int) < body.length)
def writeF (kind : By) (body : List By) : Pg × Int := if wrong kind body = true then (zeroP, 1) else (pageW kind body, 0)
/-- How many bits of the first bytes are 0. -/
def zerosU (p : Pg) (i : Nat) : Nat := (List.range i).foldl (fun s j => s + pop8 (~~~ (p.toList.getD j 0))) 0
theorem zerosU_succ (p : Pg) (i : Nat) : zerosU p (i + 1) = zerosU p i + pop8 (~~~ (p.toList.getD i 0)) := by simp [zerosU, List.range_succ]
theorem zerosU_le (p : Pg) : ∀ i, zerosU p i ≤ 8 * i := by
  intro i
  induction i with
  | zero => simp [zerosU]
  | succ i ih => rw [zerosU_succ]; have := pop8_le (~~~ (p.toList.getD i 0)); omega
def blankB (p : Pg) : Bool := decide (zerosU p 258 ≤ 1)
def datOf (p : Pg) : Dat := Vector.ofFn fun j => p[j]
theorem cut_dat (p : Pg) : cut (vbc p) 0 256 = some (vbc (datOf p)) := by
  refine cut_iff.2 ⟨?_, by rw [vbc_len]; omega⟩
  apply List.ext_getElem?
  intro i
  rw [List.drop_zero, List.getElem?_take, vbc_get, vbc_get]
  by_cases h : i < 256
  · rw [dif_pos h, if_pos h, dif_pos (by omega)]
    simp [datOf]
  · rw [dif_neg h, if_neg h]
def chkOf (p : Pg) : Nat := (valUp ((p.toList.drop 256).take 2) 2).toNat % 65536
def sizeOf' (d : Dat) : Nat := d[1].toNat
def bodyOf (d : Dat) : List By := if d[1].toNat ≤ 240 then (d.toList.drop 2).take d[1].toNat else []
/-- What is read of a page: the kind, the body, how many bits were mended, the error. -/
def readF (p : Pg) : By × List By × Int × Int :=
  if blankB p = true then (0, [], 0, 20) else
  let above := popN (chkOf p &&& 57344)
  if 1 < above then (0, [], 0, 21) else
  let f := hamFix (datOf p) (chkOf p)
  if f.2.2 ≠ 0 then (0, [], 0, f.2.2) else
  let w := writeF f.1[0] (bodyOf f.1)
  if w.2 ≠ 0 ∨ 240 < f.1[1].toNat ∨ w.1.toList.take 256 ≠ f.1.toList then (0, [], 0, 21)
  else (f.1[0], bodyOf f.1, f.2.1 + above, 0)
theorem readF_blank {p : Pg} (h : blankB p = true) : readF p = (0, [], 0, 20) := by unfold readF; rw [if_pos h]
theorem readF_above {p : Pg} (h : blankB p = false) (h2 : 1 < popN (chkOf p &&& 57344)) : readF p = (0, [], 0, 21) := by
  unfold readF; rw [if_neg (by rw [h]; exact Bool.false_ne_true)]; simp only []; rw [if_pos h2]
theorem readF_fix {p : Pg} (h : blankB p = false) (h2 : ¬ 1 < popN (chkOf p &&& 57344)) (h3 : ¬ (hamFix (datOf p) (chkOf p)).2.2 = 0) : readF p = (0, [], 0, (hamFix (datOf p) (chkOf p)).2.2) := by
  unfold readF; rw [if_neg (by rw [h]; exact Bool.false_ne_true)]; simp only []; rw [if_neg h2, if_pos h3]
theorem readF_bad {p : Pg} {f : Dat × Int × Int} (hf : hamFix (datOf p) (chkOf p) = f) (h : blankB p = false) (h2 : ¬ 1 < popN (chkOf p &&& 57344)) (h3 : f.2.2 = 0)
    (h4 : (writeF f.1[0] (bodyOf f.1)).2 ≠ 0 ∨ 240 < f.1[1].toNat ∨ (writeF f.1[0] (bodyOf f.1)).1.toList.take 256 ≠ f.1.toList) : readF p = (0, [], 0, 21) := by
  subst hf
  unfold readF; rw [if_neg (by rw [h]; exact Bool.false_ne_true)]; simp only []; rw [if_neg h2, if_neg (by rw [h3]; simp), if_pos h4]
theorem readF_ok {p : Pg} {f : Dat × Int × Int} (hf : hamFix (datOf p) (chkOf p) = f) (h : blankB p = false) (h2 : ¬ 1 < popN (chkOf p &&& 57344)) (h3 : f.2.2 = 0)
    (h4 : ¬ ((writeF f.1[0] (bodyOf f.1)).2 ≠ 0 ∨ 240 < f.1[1].toNat ∨ (writeF f.1[0] (bodyOf f.1)).1.toList.take 256 ≠ f.1.toList)) : readF p = (f.1[0], bodyOf f.1, f.2.1 + (popN (chkOf p &&& 57344) : Nat), 0) := by
  subst hf
  unfold readF; rw [if_neg (by rw [h]; exact Bool.false_ne_true)]; simp only []; rw [if_neg h2, if_neg (by rw [h3]; simp), if_neg h4]
theorem or3_t {a b c : Prop} [Decidable a] [Decidable b] [Decidable c] (h : ((!decide a || decide b) || !decide c) = true) : ¬ a ∨ b ∨ ¬ c := by
  by_cases ha : a <;> by_cases hb : b <;> by_cases hc : c <;> simp_all
theorem or3_f {a b c : Prop} [Decidable a] [Decidable b] [Decidable c] (h : ((!decide a || decide b) || !decide c) = false) : a ∧ ¬ b ∧ c := by
  by_cases ha : a <;> by_cases hb : b <;> by_cases hc : c <;> simp_all
theorem chkOf_lt (p : Pg) : chkOf p < 65536 := by unfold chkOf; omega
theorem andNot16 {n : Nat} (hn : n < 65536) : ibits .andNot .u16 n 8191 = ((n &&& 57344 : Nat) : Int) := by
  show IntKind.u16.wrap ((BitVec.ofInt 16 (n : Int) &&& ~~~ BitVec.ofInt 16 8191).toNat : Int) = _
  rw [BitVec.ofInt_natCast, show ~~~ BitVec.ofInt 16 8191 = BitVec.ofNat 16 57344 from by decide, BitVec.toNat_and, BitVec.toNat_ofNat, BitVec.toNat_ofNat, Nat.mod_eq_of_lt (show n < 2 ^ 16 from hn), Nat.mod_eq_of_lt (show 57344 < 2 ^ 16 by decide)]
  exact wrapN_u .u16 rfl (Nat.lt_of_le_of_lt Nat.and_le_left hn)
theorem conv_16 (x : Wd) : IntKind.u16.wrap (x.toNat : Int) = ((x.toNat % 65536 : Nat) : Int) := by
  rw [wrap_u .u16 rfl, BitVec.ofInt_natCast, BitVec.toNat_ofNat]; rfl
theorem fixN_le (d : Dat) (c : Nat) : 0 ≤ (hamFix d c).2.1 ∧ (hamFix d c).2.1 ≤ 1 := by
  unfold hamFix
  simp only []
  split
  · exact ⟨by simp, by simp⟩
  · split
    · exact ⟨by simp, by simp⟩
    · split
      · exact ⟨by simp, by simp⟩
      · split <;> exact ⟨by simp, by simp⟩
end Go.Proofs.YtdfidkhbldedlaaGreat
