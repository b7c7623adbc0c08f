/- Plain laws: what pages tell of plans; which plan is found when a chip is opened. -/
import Derived.Test.YtdfidkhbldedlaaGreatF3
import Derived.Test.YtdfidkhbldedlaaGreatL0
namespace Go.Proofs.YtdfidkhbldedlaaGreat
open Go.K
set_option linter.unusedVariables false
set_option linter.unusedSimpArgs false

theorem shrN_nat (x : Wd) : ∀ i, (shrN x i).toNat = x.toNat / 2 ^ (8 * i)
  | 0 => by simp [shrN]
  | i + 1 => by
    unfold shrN
    rw [BitVec.toNat_ushiftRight, Nat.shiftRight_eq_div_pow, shrN_nat x i, Nat.div_div_eq_div_mul, ← Nat.pow_add, Nat.mul_succ]
theorem numB_at {k i : Nat} (x : Wd) (h : i < k) : (numB k x).getD i 0 = (shrN x i).setWidth 8 := by
  simp [numB, List.getD_eq_getElem?_getD, h]
theorem val_num {k : Nat} (x : Wd) (hk : k ≤ 8) : ∀ i, i ≤ k → (valUp (numB k x) i).toNat = x.toNat % 2 ^ (8 * i)
  | 0, _ => by simp [valUp, Nat.mod_one]
  | i + 1, h => by
    have ih := val_num x hk i (by omega)
    have hlt : x.toNat % 2 ^ (8 * i) < 2 ^ (8 * i) := Nat.mod_lt _ (Nat.two_pow_pos _)
    have hb : ((shrN x i).setWidth 8).toNat = x.toNat / 2 ^ (8 * i) % 256 := by rw [BitVec.toNat_setWidth, shrN_nat]
    have hb2 := ((shrN x i).setWidth 8).isLt
    have hs : ((((shrN x i).setWidth 8).setWidth 64 : Wd) <<< (8 * i)).toNat = 2 ^ (8 * i) * ((shrN x i).setWidth 8).toNat := by
      rw [BitVec.toNat_shiftLeft, BitVec.toNat_setWidth, Nat.shiftLeft_eq, Nat.mod_eq_of_lt (show ((shrN x i).setWidth 8).toNat < 2 ^ 64 by omega), Nat.mul_comm]
      apply Nat.mod_eq_of_lt
      calc 2 ^ (8 * i) * ((shrN x i).setWidth 8).toNat < 2 ^ (8 * i) * 2 ^ 8 := Nat.mul_lt_mul_of_pos_left hb2 (Nat.two_pow_pos _)
        _ = 2 ^ (8 * i + 8) := (Nat.pow_add 2 (8 * i) 8).symm
        _ ≤ 2 ^ 64 := Nat.pow_le_pow_right (by omega) (by omega)
    rw [valUp_succ, numB_at x (by omega), BitVec.toNat_or, ih, hs, Nat.or_comm, ← Nat.two_pow_add_eq_or_of_lt hlt, hb]
    rw [show 8 * (i + 1) = 8 * i + 8 by omega, Nat.pow_add, Nat.mod_mul, show (2 : Nat) ^ 8 = 256 from rfl]
    omega
theorem val_num8 (x : Wd) : valUp (numB 8 x) 8 = x := by
  apply BitVec.eq_of_toNat_eq
  rw [val_num x (by omega) 8 (by omega)]
  exact Nat.mod_eq_of_lt x.isLt
theorem val_num1 {n : Nat} (h : n < 256) : (valUp (numB 1 (BitVec.ofInt 64 (n : Int))) 1).toNat = n := by
  rw [val_num _ (by omega) 1 (by omega), BitVec.ofInt_natCast, BitVec.toNat_ofNat]
  omega
theorem rdNum_app {k : Nat} {xs r : List By} {bad : Bool} (h : xs.length = k) : rdNum k (xs ++ r) bad = (valUp xs k, r, bad) := by
  unfold rdNum
  rw [if_neg (by simp; omega), List.take_left' h, List.drop_left' h]
theorem rdBytes_app {k : Nat} {xs r : List By} {bad : Bool} (h : xs.length = k) : rdBytes k (xs ++ r) bad = (xs, r, bad) := by
  unfold rdBytes
  rw [if_neg (by simp; omega), List.take_left' h, List.drop_left' h]
theorem byte_back {l : List Int} (h : ∀ x ∈ l, 0 ≤ x ∧ x < 256) : (l.map byteI).map intB = l := by
  rw [List.map_map]
  have : ∀ x ∈ l, (intB ∘ byteI) x = x := fun x hx => by
    have := h x hx
    show ((BitVec.ofInt 8 x).toNat : Int) = x
    rw [BitVec.toNat_ofInt]
    omega
  rw [List.map_congr_left this, List.map_id']
/-- May a plan be kept? -/
structure OkP (n : Nat) (u l : List Int) : Prop where
  n1 : 16 ≤ n
  n2 : n ≤ 40
  ul : u.length + 6 = n
  ll : l.length ≤ 40
  ur : ∀ x ∈ u, 0 ≤ x ∧ x < 256
  lr : ∀ x ∈ l, 0 ≤ x ∧ x < 256
theorem w64_in {x : Int} (h : 0 ≤ x ∧ x < 9223372036854775808) : w64 x = x := wrap64_in (by omega)
theorem readTB_plan {v : Wd} {n : Nat} {u l : List Int} (h : OkP n u l) : readTB (planBody v n u l) n = (u, l, v, true) := by
  have h1 := h.n1
  have h2 := h.n2
  have h3 := h.ul
  have h4 := h.ll
  have hn : ∀ m : Nat, m < 256 → w64 ((valUp (numB 1 (BitVec.ofInt 64 (m : Int))) 1).toNat : Int) = m := fun m hm => by
    rw [val_num1 hm]; exact w64_in (by omega)
  have e : planBody v n u l = numB 8 v ++ (numB 1 (BitVec.ofInt 64 (n : Int)) ++ (numB 1 (BitVec.ofInt 64 (u.length : Int)) ++ (numB 1 (BitVec.ofInt 64 (l.length : Int)) ++ (u.map byteI ++ (l.map byteI ++ []))))) := by
    unfold planBody numsB
    simp only [List.flatMap_cons, List.flatMap_nil, List.append_nil, List.append_assoc]
  rw [e]
  refine (readTB_yes (rdNum_app (numB_len 8 v)).symm (rdNum_app (numB_len 1 _)).symm (hn n (by omega)) (rdNum_app (numB_len 1 _)).symm (rdNum_app (numB_len 1 _)).symm (u := (u.map byteI, l.map byteI ++ [], false)) (l := (l.map byteI, [], false)) ?_ ?_).trans ?_
  · simp only
    rw [hn u.length (by omega)]
    exact (rdBytes_app (by rw [List.length_map]; omega)).symm
  · simp only
    rw [hn l.length (by omega)]
    exact (rdBytes_app (by rw [List.length_map]; omega)).symm
  · simp only
    rw [byte_back h.ur, byte_back h.lr, val_num8, hn u.length (by omega)]
    have : w64 (w64 ((n : Int) - 2) - 4) = (n : Int) - 6 := by
      rw [w64_in (x := (n : Int) - 2) (by omega)]
      have := w64_in (x := (n : Int) - 2 - 4) (by omega)
      rw [this]; omega
    rw [this]
    simp
    omega
theorem plan_len (v : Wd) (n : Int) (u l : List Int) : (planBody v n u l).length = 11 + u.length + l.length := by
  unfold planBody
  simp [numB_len, numsB_len]
  omega
theorem plan_right {v : Wd} {n : Nat} {u l : List Int} (h : OkP n u l) : wrong 1 (planBody v n u l) = false := by
  have h2 := h.n2
  have h3 := h.ul
  have h4 := h.ll
  unfold wrong
  rw [plan_len]
  simp
  omega
theorem planP_eq {v : Wd} {n : Nat} {u l : List Int} (h : OkP n u l) : planP v n u l = pageW 1 (planBody v n u l) := by
  unfold planP writeF
  rw [if_neg (by rw [plan_right h]; simp)]
/-- What a page tells: the version, and the plan. -/
def RP (n : Nat) (p : Pg) : Option (Nat × List Int × List Int) := if (readT p n).2.2.2 = true then some ((readT p n).2.2.1.toNat, (readT p n).1, (readT p n).2.1) else none
theorem readT_of {p : Pg} {n : Nat} {v : Wd} {u l : List Int} {m : Int} (h : OkP n u l) (hr : readF p = (1, planBody v n u l, m, 0)) : readT p n = (u, l, v, true) := by
  unfold readT
  simp only [hr]
  rw [if_neg (by simp)]
  exact readTB_plan h
theorem rp_of {p : Pg} {n : Nat} {v : Wd} {u l : List Int} {m : Int} (h : OkP n u l) (hr : readF p = (1, planBody v n u l, m, 0)) : RP n p = some (v.toNat, u, l) := by
  unfold RP
  rw [readT_of h hr, if_pos rfl]
theorem rp_plan {n : Nat} {v : Wd} {u l : List Int} (h : OkP n u l) : RP n (planP v n u l) = some (v.toNat, u, l) := by
  rw [planP_eq h]; exact rp_of h (readF_page (plan_right h))
theorem rp_flip {n : Nat} {v : Wd} {u l : List Int} {i : Nat} (h : OkP n u l) (hi : i < 2064) : RP n (flipP (planP v n u l) i) = some (v.toNat, u, l) := by
  rw [planP_eq h]; exact rp_of h (readF_flip (plan_right h) hi)
theorem rp_none {p : Pg} {n : Nat} (h : (readF p).2.2.2 ≠ 0) : RP n p = none := by
  have e : readT p n = ([], [], 0, false) := by
    unfold readT
    simp only []
    rw [if_pos (.inl h)]
  unfold RP
  rw [e, if_neg (by simp)]
theorem rp_torn {p : Pg} {n : Nat} (h : p[257] = 255#8) : RP n p = none := rp_none (readF_torn h)
theorem rp_bl {p : Pg} {n : Nat} (h : blankB p = true) : RP n p = none := rp_none (by rw [readF_blank h]; decide)
theorem blank_at {j : Nat} (h : j < 258) : blankP[j] = 255#8 := by
  unfold blankP
  rw [Vector.getElem_replicate]
theorem andP_get {m : Nat} {p d : Pg} {j : Nat} (h : j < 258) : (andP m p d)[j] = if j < m then p[j] &&& d[j] else p[j] := by simp [andP]
theorem and_torn {m n : Nat} {d : Pg} (h : m < 258) : RP n (andP m blankP d) = none := by
  apply rp_torn
  have : (andP m blankP d)[257] = blankP[257] := by
    rw [andP_get, if_neg (by omega)]
  rw [this, blank_at (by omega)]
theorem and_full {m : Nat} {d : Pg} (h : 258 ≤ m) : andP m blankP d = d := by
  apply Vector.ext
  intro j hj
  rw [andP_get hj, if_pos (by omega), blank_at hj]
  exact BitVec.allOnes_and

/-! what is seen of an area -/
structure ScI (c : Chip) (a : Int) (k : Nat) (s : Sc) : Prop where
  l0 : 0 ≤ s.last ∧ s.last ≤ k
  bl : ∀ i < k, s.last ≤ i → blankB (readP c a (i : Nat)) = true
  nb : 0 < s.last → blankB (readP c a (s.last - 1)) = false
  no : s.any = false → ∀ i < k, RP c.blocks.length (readP c a (i : Nat)) = none
  yes : s.any = true → (0 ≤ s.at' ∧ s.at' < k) ∧ RP c.blocks.length (readP c a s.at') = some (s.newest.toNat, s.uses, s.lost)
  le : s.any = true → ∀ i < k, ∀ w u l, RP c.blocks.length (readP c a (i : Nat)) = some (w, u, l) → w ≤ s.newest.toNat
theorem rp_some {n : Nat} {p : Pg} (h : (readT p n).2.2.2 = true) : RP n p = some ((readT p n).2.2.1.toNat, (readT p n).1, (readT p n).2.1) := if_pos h
theorem rp_no {n : Nat} {p : Pg} (h : ¬ (readT p n).2.2.2 = true) : RP n p = none := if_neg h
theorem scan_spec (c : Chip) (a : Int) : ∀ k, ScI c a k (scanU c a k)
  | 0 => ⟨by simp [scanU], fun i hi => by omega, fun h => by simp [scanU] at h, fun _ i hi => by omega, fun h => by simp [scanU] at h, fun h => by simp [scanU] at h⟩
  | k + 1 => by
    have ih := scan_spec c a k
    show ScI c a (k + 1) (scan1 c a k (scanU c a k))
    generalize scanU c a k = s at ih
    have hlast : ∀ la : Int, la = (if blankB (readP c a (k : Nat)) = true then s.last else (k : Int) + 1) → (0 ≤ la ∧ la ≤ (k + 1 : Nat)) ∧ (∀ i < k + 1, la ≤ i → blankB (readP c a (i : Nat)) = true) ∧ (0 < la → blankB (readP c a (la - 1)) = false) := fun la hla => by
      have h0 := ih.l0
      split at hla
      · rename_i hb
        subst hla
        refine ⟨by omega, fun i hi hle => ?_, ih.nb⟩
        by_cases e : i = k
        · subst e; exact hb
        · exact ih.bl i (by omega) hle
      · rename_i hb
        subst hla
        refine ⟨by omega, fun i hi hle => by omega, fun _ => ?_⟩
        rw [show (k : Int) + 1 - 1 = (k : Int) by omega]
        simpa using hb
    unfold scan1
    simp only []
    split
    · rename_i hc
      simp only [Bool.and_eq_true, Bool.or_eq_true, Bool.not_eq_true', decide_eq_true_eq] at hc
      obtain ⟨h1, h2, h3⟩ := hlast _ rfl
      have hr := rp_some (n := c.blocks.length) (p := readP c a (k : Nat)) hc.1
      refine ⟨h1, h2, h3, fun h => (by cases h), fun _ => ⟨⟨by simp only; omega, by simp only; omega⟩, hr⟩, fun _ i hi w u l hw => ?_⟩
      by_cases e : i = k
      · subst e
        rw [hr] at hw
        simp only [Option.some.injEq, Prod.mk.injEq] at hw
        exact Nat.le_of_eq hw.1.symm
      · rcases hc.2 with h4 | h4
        · rw [ih.no h4 i (by omega)] at hw; cases hw
        · cases ha : s.any with
          | false => rw [ih.no ha i (by omega)] at hw; cases hw
          | true => have := ih.le ha i (by omega) w u l hw; simp only; omega
    · rename_i hc
      simp only [Bool.and_eq_true, Bool.or_eq_true, Bool.not_eq_true', decide_eq_true_eq] at hc
      obtain ⟨h1, h2, h3⟩ := hlast _ rfl
      refine ⟨h1, h2, h3, fun h i hi => ?_, fun h => ?_, fun h i hi w u l hw => ?_⟩
      · by_cases e : i = k
        · subst e; exact rp_no (fun h5 => hc ⟨h5, .inl h⟩)
        · exact ih.no h i (by omega)
      · obtain ⟨h4, h5⟩ := ih.yes h
        exact ⟨⟨h4.1, by simp only; omega⟩, h5⟩
      · by_cases e : i = k
        · subst e
          by_cases h5 : (readT (readP c a (i : Nat)) c.blocks.length).2.2.2 = true
          · rw [rp_some h5] at hw
            simp only [Option.some.injEq, Prod.mk.injEq] at hw
            have : ¬ ((s.newest.toNat : Int) ≤ (readT (readP c a (i : Nat)) c.blocks.length).2.2.1.toNat) := fun h6 => hc ⟨h5, .inr h6⟩
            simp only; omega
          · rw [rp_no h5] at hw; cases hw
        · exact ih.le h i (by omega) w u l hw
/-- What is known of a table that was opened. -/
structure OpI (c : Chip) (k : Nat) (t : TS) : Prop where
  area : 0 ≤ t.area ∧ t.area < k
  rc : (0 ≤ t.at' ∧ t.at' < 8) ∧ RP c.blocks.length (readP c t.area t.at') = some (t.version.toNat, t.uses, t.lost)
  le : ∀ a < k, ∀ i < 8, ∀ w u l, RP c.blocks.length (readP c (a : Nat) (i : Nat)) = some (w, u, l) → w ≤ t.version.toNat
  l0 : 0 ≤ t.next ∧ t.next ≤ 8
  bl : ∀ i < 8, t.next ≤ (i : Nat) → blankB (readP c t.area (i : Nat)) = true
  nb : 0 < t.next → blankB (readP c t.area (t.next - 1)) = false
theorem open_spec (c : Chip) : ∀ k, ((openU c k).2 = false → ∀ a < k, ∀ i < 8, RP c.blocks.length (readP c (a : Nat) (i : Nat)) = none) ∧ ((openU c k).2 = true → OpI c k (openU c k).1)
  | 0 => ⟨fun _ a ha => by omega, fun h => by simp [openU] at h⟩
  | k + 1 => by
    obtain ⟨ih1, ih2⟩ := open_spec c k
    have hs := scan_spec c k 8
    show ((open1 c k (openU c k)).2 = false → _) ∧ ((open1 c k (openU c k)).2 = true → OpI c (k + 1) (open1 c k (openU c k)).1)
    generalize openU c k = t at ih1 ih2
    unfold open1
    simp only []
    generalize scanU c k 8 = s at hs
    split
    · rename_i hc
      simp only [Bool.and_eq_true, Bool.or_eq_true, Bool.not_eq_true', decide_eq_true_eq] at hc
      refine ⟨fun h => (by cases h), fun _ => ⟨by simp only; omega, hs.yes hc.1, fun a ha i hi w u l hw => ?_, hs.l0, hs.bl, hs.nb⟩⟩
      by_cases e : a = k
      · subst e; exact hs.le hc.1 i hi w u l hw
      · rcases hc.2 with h | h
        · rw [ih1 h a (by omega) i hi] at hw; cases hw
        · cases hf : t.2 with
          | false => rw [ih1 hf a (by omega) i hi] at hw; cases hw
          | true => have := (ih2 hf).le a (by omega) i hi w u l hw; simp only; omega
    · rename_i hc
      simp only [Bool.and_eq_true, Bool.or_eq_true, Bool.not_eq_true', decide_eq_true_eq] at hc
      refine ⟨fun h a ha i hi => ?_, fun h => ?_⟩
      · by_cases e : a = k
        · subst e
          cases hy : s.any with
          | false => exact hs.no hy i hi
          | true => exact absurd ⟨hy, .inl h⟩ hc
        · exact ih1 h a (by omega) i hi
      · have o := ih2 h
        refine ⟨⟨o.area.1, by have := o.area.2; omega⟩, o.rc, fun a ha i hi w u l hw => ?_, o.l0, o.bl, o.nb⟩
        by_cases e : a = k
        · subst e
          cases hy : s.any with
          | false => rw [hs.no hy i hi] at hw; cases hw
          | true =>
            have h1 := hs.le hy i hi w u l hw
            have h2 : ¬ ((t.1.version.toNat : Int) < s.newest.toNat) := fun h3 => hc ⟨hy, .inr h3⟩
            omega
        · exact o.le a (by omega) i hi w u l hw
theorem openC_some {c : Chip} (hm : mayE c 0 0 = 0) {a i : Nat} {w : Nat} {u l : List Int} (ha : a < 2) (hi : i < 8) (hr : RP c.blocks.length (readP c (a : Nat) (i : Nat)) = some (w, u, l)) : ∃ t, openC c = (0, t) ∧ OpI c 2 t := by
  obtain ⟨h1, h2⟩ := open_spec c 2
  cases hf : (openU c 2).2 with
  | false => rw [h1 hf a ha i hi] at hr; cases hr
  | true =>
    refine ⟨(openU c 2).1, ?_, h2 hf⟩
    unfold openC
    rw [if_neg (by rw [hm]; simp), if_pos hf]
end Go.Proofs.YtdfidkhbldedlaaGreat
