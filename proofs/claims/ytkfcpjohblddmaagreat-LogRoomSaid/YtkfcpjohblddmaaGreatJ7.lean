/- What holds of chips, tables, disks and logs, for all of them; the conditions are the statement's own: part 7. -/
import Derived.Test.YtkfcpjohblddmaaGreatJ5
import Derived.Test.YtkfcpjohblddmaaGreatJ6
section
/- The law LogWear. -/
namespace Go.Proofs.YtkfcpjohblddmaaGreat
open Go.K
set_option linter.unusedVariables false
set_option linter.unusedSimpArgs false
instance und58 : Und Tryz.prog 58 (.map 3 4) := ⟨Tryz.underlying58⟩
instance agg58 : Agg Tryz.prog 58 false := ⟨⟨_, Tryz.underlying58, rfl⟩⟩
instance siz58 : Siz Tryz.prog 58 1 := ⟨by kernel_rfl⟩
instance zv4 : ZerV Tryz.prog 4 (.bool false) := ⟨by kernel_rfl⟩
instance fld48_0 : Fld Tryz.prog 48 0 0 := ⟨⟨_, _, 0, Tryz.underlying48, rfl, by kernel_rfl, rfl⟩⟩
instance byt45 : Byt Tryz.prog 45 8 := ⟨by kernel_rfl⟩
instance ent7 : Ent Tryz.prog 7 := ⟨fun _ _ => by kernel_rfl⟩
set_option maxRecDepth 20000
set_option maxHeartbeats 1000000
/-! blocks that were seen, as a map -/
def sawL (l : List Int) : List (Int × Value) := l.map fun x => (x, .bool true)
theorem saw_get : ∀ (l : List Int) (k : Int) (i : Nat), mfind (sawL l) k i = none ∧ k ∉ l ∨ (∃ j, mfind (sawL l) k i = some (j, .bool true)) ∧ k ∈ l
  | [], k, i => .inl ⟨rfl, by simp⟩
  | x :: l, k, i => by
    show (if k = x then _ else mfind (sawL l) k (i + 1)) = none ∧ _ ∨ (∃ j, (if k = x then _ else mfind (sawL l) k (i + 1)) = _) ∧ _
    by_cases h : k = x
    · subst h
      rw [if_pos rfl]
      exact .inr ⟨⟨i, rfl⟩, by simp⟩
    · rw [if_neg h]
      rcases saw_get l k (i + 1) with ⟨h1, h2⟩ | ⟨⟨j, h1⟩, h2⟩
      · exact .inl ⟨h1, by simp [h, h2]⟩
      · exact .inr ⟨⟨j, h1⟩, by simp [h2]⟩
theorem saw_mget (l : List Int) (k : Int) : mget (.bool false) (sawL l) k = .bool (decide (k ∈ l)) := by
  unfold mget
  rcases saw_get l k 0 with ⟨h1, h2⟩ | ⟨⟨j, h1⟩, h2⟩
  · rw [h1]; simp [h2]
  · rw [h1]; simp [h2]
theorem saw_new {l : List Int} {k : Int} (h : k ∉ l) : mfind (sawL l) k 0 = none := by
  rcases saw_get l k 0 with ⟨h1, _⟩ | ⟨_, h2⟩
  · exact h1
  · exact absurd h2 h
theorem saw_add (l : List Int) (k : Int) : sawL (l ++ [k]) = sawL l ++ [(k, .bool true)] := by simp [sawL]
theorem rd_saw {P : Program} {E : Env} {H : Hp} {t kt et : TypeId} {x y : Operand} {b : Nat} {l : List Int} {k : Int} {r : Bool} [ht : Und P t (.map kt et)] [hk : Und P kt (.int .i64)] [hz : ZerV P et (.bool false)]
    (hx : ev E x = some (.map (some b))) (hy : ev E y = some (.int .i64 k)) (hm : (b, r, mapO .i64 (sawL l)) ∈ H) : Rd P E H (.lookup t x y false) (.bool (decide (k ∈ l))) := by
  rw [← saw_mget]; exact rd_lookup hx hy hm
theorem rd_minW {P : Program} {E : Env} {H : Hp} {x y : Operand} {ts : Array TypeId} {a b : Wd} (hx : ev E x = some (wv a)) (hy : ev E y = some (wv b)) : Rd P E H (.call ⟨.builtin .min, #[x, y], ts⟩) (wv (if a.toNat ≤ b.toNat then a else b)) := by
  have h := rd_min (P := P) (H := H) (ts := ts) hx hy
  have e : (Value.int .u64 (min (a.toNat : Int) (b.toNat : Int))) = wv (if a.toNat ≤ b.toNat then a else b) := by
    unfold wv
    congr 1
    split <;> omega
  rw [← e]
  exact h
abbrev tW64 : TypeId := 45
theorem zrep_w (n : Nat) : zrep n [Value.int .u64 0] = cells (List.replicate n (0 : Wd)) := by
  induction n with
  | zero => rfl
  | succ n ih =>
    show [Value.int .u64 0] ++ zrep n [Value.int .u64 0] = cells ((0 : Wd) :: List.replicate n 0)
    rw [ih]
    rfl
def wdAt (l : List Wd) (j : Nat) : Wd := l.getD j 0
theorem wdAt_get {l : List Wd} {j : Nat} (h : j < l.length) : l[j]? = some (wdAt l j) := by simp [wdAt, List.getD_eq_getElem?_getD, h]
theorem wdAt_set {l : List Wd} {i j : Nat} {x : Wd} (h : i < l.length) : wdAt (l.set i x) j = if j = i then x else wdAt l j := by
  unfold wdAt
  simp only [List.getD_eq_getElem?_getD, List.getElem?_set]
  by_cases e : j = i
  · subst e; simp [h]
  · rw [if_neg (fun h => e h.symm), if_neg e]
/-! rounds of six records -/
structure Rnd6 (nb : Nat) (bs : List LB) (last : Int) (R : Nat → List Pg) (m : Nat) : Prop where
  ns : NS bs nb R
  al : ∀ j < nb, (bAt bs j).seq.toNat ≠ 0 → (m = 0 ∨ (j : Int) ≠ last) → (R j).length = 6
  la : 0 < m → ∃ l : Nat, last = l ∧ (R l).length = m
section
variable {n nb k : Nat} {q : Qt} {i b m : Nat} {d : Dsk} {bs bs' : List LB} {last last' e : Int} {V : Nat → Blk} {R R' : Nat → List Pg} {p : Pg} {pb pj : Int}
theorem AppY.rnd (h : AppY nb bs last R p e pb pj last' bs' R') (hX : LX n nb k q d bs last V R) (f : Rnd6 nb bs last R m) (hm : m < 6) :
    (e = 40 ∧ freeN bs nb = 0 ∧ bs' = bs) ∨ (e = 0 ∧ Rnd6 nb bs' last' R' (m + 1) ∧ ∃ to : Nat, pb = to ∧ to < nb ∧
      ((m = 0 ∧ pj = 2 ∧ (bAt bs to).seq.toNat = 0 ∧ ∀ j < nb, (bAt bs j).seq.toNat = 0 → (bAt bs to).wear.toNat ≤ (bAt bs j).wear.toNat) ∨ (m ≠ 0 ∧ pj ≠ 2))) := by
  have hl := hX.len
  have hns := h.ns hl f.ns
  cases h with
  | @into l h1 h2 h3 h4 h5 =>
    have hm0 : m ≠ 0 := fun e => by have := f.al l h2 h3 (.inl e); omega
    obtain ⟨l', h6, h7⟩ := f.la (by omega)
    have : l' = l := by omega
    subst this
    refine .inr ⟨rfl, ⟨hns, fun j hj hs hor => ?_, fun _ => ⟨l', h6, ?_⟩⟩, l', rfl, h2, .inr ⟨hm0, by omega⟩⟩
    · have hjl : j ≠ l' := by rcases hor with h | h <;> omega
      unfold upR
      rw [bAt_set (by omega), if_neg hjl] at hs
      rw [if_neg hjl]
      exact f.al j hj hs (.inr (by omega))
    · unfold upR
      rw [if_pos rfl, List.length_append, h7]
      rfl
  | none h1 h2 => exact .inl ⟨rfl, toU_free.1 h2, rfl⟩
  | @fresh to h1 h2 h3 h4 h5 h6 h7 =>
    have hm0 : m = 0 := by
      by_cases e : m = 0
      · exact e
      · obtain ⟨l', h8, h9⟩ := f.la (by omega)
        rcases h1.len hX f.ns with h | ⟨l, h10, h11⟩
        · omega
        · have : l' = l := by omega
          subst this
          omega
    subst hm0
    refine .inr ⟨rfl, ⟨hns, fun j hj hs hor => ?_, fun _ => ⟨to, rfl, ?_⟩⟩, to, rfl, h3, .inl ⟨rfl, rfl, h4, h5⟩⟩
    · have hjl : j ≠ to := by rcases hor with h | h <;> omega
      unfold upR
      rw [bAt_set (by omega), if_neg hjl] at hs
      rw [if_neg hjl]
      exact f.al j hj hs (.inl rfl)
    · unfold upR
      rw [if_pos rfl]
      rfl
theorem Rnd6.turn (f : Rnd6 nb bs last R 6) : Rnd6 nb bs last R 0 := by
  refine ⟨f.ns, fun j hj hs _ => ?_, fun h => by omega⟩
  by_cases e : (j : Int) = last
  · obtain ⟨l, h1, h2⟩ := f.la (by omega)
    have : l = j := by omega
    subst this
    exact h2
  · exact f.al j hj hs (.inr e)
theorem Rnd6.drop (f : Rnd6 nb bs last R 0) (hb : b < bs.length) {w : Wd} : Rnd6 nb (bs.set b (wiped w)) last' (upR R b []) 0 := by
  refine ⟨drop_ns hb f.ns, fun j hj hs _ => ?_, fun h => by omega⟩
  rw [bAt_set hb] at hs
  by_cases e : j = b
  · rw [if_pos e] at hs; exact absurd rfl hs
  · rw [if_neg e] at hs
    unfold upR
    rw [if_neg e]
    exact f.al j hj hs (.inl rfl)
theorem rnd0 (h0 : ∀ j < nb, bAt bs j = wiped 1) : Rnd6 nb bs (-1) (fun _ => []) 0 :=
  ⟨fun j hj hs => by rw [h0 j hj] at hs; exact absurd rfl hs, fun j hj hs => by rw [h0 j hj] at hs; exact absurd rfl hs, fun h => by omega⟩
/-- The least wear of the first free blocks. -/
structure LeastI (bs : List LB) (m : Nat) (x : Wd) : Prop where
  le : ∀ j < m, (bAt bs j).seq.toNat = 0 → x.toNat ≤ (bAt bs j).wear.toNat
  at' : x = 1152921504606846976 ∨ ∃ j < m, (bAt bs j).seq.toNat = 0 ∧ (bAt bs j).wear = x
theorem LeastI.skip {x : Wd} (h : LeastI bs m x) (hs : (bAt bs m).seq.toNat ≠ 0) : LeastI bs (m + 1) x := by
  refine ⟨fun j hj hz => ?_, ?_⟩
  · by_cases e : j = m
    · subst e; exact absurd hz hs
    · exact h.le j (by omega) hz
  · rcases h.at' with h | ⟨j, h1, h2⟩
    · exact .inl h
    · exact .inr ⟨j, by omega, h2⟩
theorem LeastI.step {x : Wd} (h : LeastI bs m x) (hs : (bAt bs m).seq.toNat = 0) : LeastI bs (m + 1) (if x.toNat ≤ (bAt bs m).wear.toNat then x else (bAt bs m).wear) := by
  refine ⟨fun j hj hz => ?_, ?_⟩
  · by_cases e : j = m
    · subst e; split <;> omega
    · have := h.le j (by omega) hz
      split <;> omega
  · split
    · rcases h.at' with h | ⟨j, h1, h2⟩
      · exact .inl h
      · exact .inr ⟨j, by omega, h2⟩
    · exact .inr ⟨m, by omega, hs, rfl⟩
theorem LeastI.eq {x : Wd} (h : LeastI bs nb x) {to : Nat} (ht : to < nb) (hz : (bAt bs to).seq.toNat = 0) (hm : ∀ j < nb, (bAt bs j).seq.toNat = 0 → (bAt bs to).wear.toNat ≤ (bAt bs j).wear.toNat) (hw : (bAt bs to).wear.toNat < 1000) : (bAt bs to).wear = x := by
  have h1 := h.le to ht hz
  apply BitVec.eq_of_toNat_eq
  rcases h.at' with rfl | ⟨j, h2, h3, rfl⟩
  · exact absurd h1 (by show ¬ (1152921504606846976 ≤ _); omega)
  · have := hm j h2 h3; omega
/-- The blocks of segments that were told. -/
def segBs (l : List Seg) : List Int := l.map (·.b)
theorem segX_blocks {L : Nat → Nat} : ∀ k, ((segX bs L k).map fun y : SV => y.1).Nodup ∧ ∀ x : Int, x ∈ ((segX bs L k).map fun y : SV => y.1) → ∃ j : Nat, x = j ∧ j < k
  | 0 => ⟨List.nodup_nil, fun x hx => by cases hx⟩
  | k + 1 => by
    obtain ⟨h1, h2⟩ := segX_blocks (L := L) k
    unfold segX
    rw [List.map_append]
    split
    · simp only [List.map_nil, List.append_nil]
      exact ⟨h1, fun x hx => by obtain ⟨j, e, hj⟩ := h2 x hx; exact ⟨j, e, by omega⟩⟩
    · simp only [List.map_cons, List.map_nil]
      refine ⟨List.nodup_append.2 ⟨h1, by simp, fun x hx y hy => ?_⟩, fun x hx => ?_⟩
      · rw [List.mem_singleton.1 hy]
        obtain ⟨j, e, hj⟩ := h2 x hx
        omega
      · rcases List.mem_append.1 hx with h | h
        · obtain ⟨j, e, hj⟩ := h2 x h; exact ⟨j, e, by omega⟩
        · rw [List.mem_singleton.1 h]; exact ⟨k, rfl, by omega⟩
theorem segBs_map (l : List Seg) : segBs l = (l.map segV).map (·.1) := by
  unfold segBs
  rw [List.map_map]
  rfl
section
variable {l : List Seg} {L : Nat → Nat}
theorem segs_nodup (hp : (l.map segV).Perm (segX bs L nb)) : (segBs l).Nodup := by
  rw [segBs_map]
  exact ((hp.map _).nodup_iff).2 (segX_blocks nb).1
theorem segs_at (hp : (l.map segV).Perm (segX bs L nb)) {i : Nat} {x : Seg} (hx : l[i]? = some x) : ∃ j : Nat, x.b = j ∧ j < nb ∧ (bAt bs j).seq.toNat ≠ 0 ∧ x.wear = (bAt bs j).wear := by
  have hm : segV x ∈ segX bs L nb := hp.mem_iff.1 (List.mem_map.2 ⟨x, List.mem_of_getElem? hx, rfl⟩)
  obtain ⟨j, hj, h1, h2⟩ := segX_mem.1 hm
  exact ⟨j, congrArg (fun y : SV => y.1) h2, hj, h1, congrArg (fun y : SV => y.2.2.1) h2⟩
theorem segs_saw (hp : (l.map segV).Perm (segX bs L nb)) {j : Nat} (hj : j < nb) : ((j : Int) ∈ segBs l) ↔ (bAt bs j).seq.toNat ≠ 0 := by
  rw [segBs_map, (hp.map _).mem_iff, List.mem_map]
  constructor
  · rintro ⟨x, hx, e⟩
    obtain ⟨j', _, h1, h2⟩ := segX_mem.1 hx
    have h3 : x.1 = (j' : Int) := congrArg (fun y : SV => y.1) h2
    have : j' = j := by omega
    subst this
    exact h1
  · intro h
    exact ⟨_, segX_mem.2 ⟨j, hj, h, rfl⟩, rfl⟩
theorem segBs_take {i : Nat} {x : Seg} (hx : l[i]? = some x) : segBs (l.take (i + 1)) = segBs (l.take i) ++ [x.b] := by
  unfold segBs
  rw [List.take_add_one, hx]
  simp
theorem segBs_new (h : (segBs l).Nodup) {i : Nat} {x : Seg} (hx : l[i]? = some x) : x.b ∉ segBs (l.take i) := fun hm => by
  obtain ⟨hi, rfl⟩ := List.getElem?_eq_some_iff.1 hx
  obtain ⟨y, hy, e⟩ := List.mem_map.1 hm
  obtain ⟨j, hj, e2⟩ := List.getElem_of_mem hy
  rw [List.length_take] at hj
  rw [List.getElem_take] at e2
  unfold segBs at h
  rw [List.nodup_iff_pairwise_ne, List.pairwise_map, List.pairwise_iff_getElem] at h
  exact h j i (by omega) hi (by omega) (by rw [e2]; exact e)
end
end
theorem wear8_fn {dr : Sl Int} : Does Tryz.prog 7 [dr.val] (dr.hp tI ++ []) (fun v H => v = .bool true) := by
  refine fn_enter (n := 187) Tryz.func7 Tryz.ntmps7 rfl (Nat.le_of_ble_eq_true rfl) <| s_seq <| s_region0 fun ops => oA rfl <| o_nil <| n_K <| s_seq <| s_seq <| s_region0 fun ops => ?_
  refine c_is rfl (speaks8_fn) sP rfl aQ ?_
  refine oR (rd_not rfl) <| o_nil <| n_K ?_
  refine s_condF rfl ?_
  refine s_skip <| n_K <| s_seq <| s_seq <| s_region0 fun ops => oM rfl <| oR (rd_lenS rfl) <| oR (rd_bin rfl rfl rfl) <| o_nil <| n_K ?_
  refine s_cond rfl (fun c28 => ?_) (fun c28 => ?_)
  · simp only [decide_eq_true_eq, decide_eq_false_iff_not] at c28
    refine s_seq <| s_region0 fun ops => oA rfl <| o_nil <| n_K <| s_ret <| r_K ?_
    exact leaf_r (rets1 Tryz.results7 (rv_tmp rfl)) (by rfl) sP
  · simp only [decide_eq_true_eq, decide_eq_false_iff_not] at c28
    have hdr : dr.list.length ≤ 40 := (by omega)
    refine s_skip <| n_K <| s_seq <| s_region0 fun ops => ?_
    refine c_ex rfl (laidX_fn (m := 16) (nb := 10) (q := q3) q3_ne (by decide) rfl) sP rfl fun v29 Y29 h29 => ?_
    obtain ⟨lg, bb, d, bs, V, rfl, rfl, hX, h0, hF⟩ := h29
    refine so_ap aQ ?_
    refine oA rfl <| o_nil <| n_K <| s_seq <| s_seq <| s_region0 fun ops => oM rfl <| oR (rd_eqNil rfl rfl) <| o_nil <| n_K ?_
    refine s_condF rfl ?_
    refine s_skip <| n_K <| s_seq <| s_region0 fun ops => oM rfl <| oN rfl <| oF rfl ?_
    refine oR (rd_ld rfl mM rfl) ?_
    refine c_is rfl ((dk_len (d := d)).to (by rw [hX.ulen]) rfl) sP rfl aQ ?_
    refine o_make rfl rfl (by decide) rfl fun b37 => ?_
    rw [zrep_w]
    refine oA rfl <| o_nil <| n_K <| s_seq <| s_seq <| s_region0 fun ops => oM rfl <| oR (rd_lenS rfl) <| oM rfl <| o_nil <| n_K <| s_block ?_
    refine s_loop2 [0, 3, 4, 39] kQ (fun (st : Nat × Sl Wd) => [(40, .int .i64 st.1)]) (fun (st : Nat × Sl Wd) => (lg, true, C (lgC d.dk bb 10 (-1)) tLg) :: (bb, true, C (lbs bs) tLB) :: (dkH d ++ (st.2.hp tW64 ++ (dr.hp tI ++ [])))) (fun (st : Nat × Sl Wd) => st.1 ≤ 10 ∧ st.2.val = .slice (some ⟨b37, 0, none⟩) 10 10 ∧ st.2.isOwn = true ∧ st.2.list.length = 10 ∧ ∀ j < st.1, wdAt st.2.list j = 1) (fun (st : Nat × Sl Wd) => 10 - st.1) ((0, Sl.own b37 (List.replicate 10 (0 : Wd)) 10 [] ⟨by simp, Nat.le_refl _, by simp⟩)) ⟨Nat.zero_le _, rfl, rfl, rfl, fun j hj => by cases hj⟩ kP (by rw [Sl.hp_own]; exact sP) ?_
    rintro ⟨i, w⟩ ⟨g0, g1, g2, g3, g4⟩
    simp only at g0 g1 g2 g3 g4
    refine s_seq <| s_region0 fun ops => oR (rd_bin rfl rfl rfl) <| o_nil <| n_K <| s_seq ?_
    refine s_cond rfl (fun c41 => ?_) (fun c41 => ?_)
    · simp only [decide_eq_true_eq, decide_eq_false_iff_not] at c41
      have hi : i < 10 := (by omega)
      have hgi := wdAt_get (l := w.list) (j := i) (by omega)
      refine s_skip <| n_K <| s_seq <| s_block <| s_seq <| s_region0 fun ops => oM rfl <| oA rfl <| o_nil <| n_K <| s_region0 fun ops => oM rfl <| oM rfl ?_
      refine oR (rd_ixSl (s := w) (by rw [g1]; rfl) rfl (by omega)) ?_
      refine o_storeSl (s := w) (o := 0) (z' := (1 : Wd)) rfl rfl uL g2 hgi rfl rfl rfl (by rw [off_own g2]; exact Nat.zero_add _) ?_
      refine o_nil <| n_blk <| n_K <| s_region0 fun ops => ?_
      refine oR (rd_add64 rfl rfl (by omega)) ?_
      refine oM rfl <| o_nil <| n_K ?_
      exact ⟨(i + 1, w.set i 1), ⟨by simp only; omega, by rw [Sl.set_val]; exact g1, Sl.set_isOwn _ _ _ g2, by simp only; rw [Sl.set_list _ _ _ g2, List.length_set]; exact g3, fun j hj => by simp only at hj ⊢; rw [Sl.set_list _ _ _ g2, wdAt_set (by omega)]; split; rfl; exact g4 j (by omega)⟩, (by simp only; omega), lZ⟩
    · simp only [decide_eq_true_eq, decide_eq_false_iff_not] at c41
      have hi : i = 10 := (by omega)
      subst hi
      refine s_exit <| x_K <| x_K <| x_blk <| n_K <| s_seq <| s_seq <| s_region0 fun ops => oM rfl <| oR (rd_lenS rfl) <| oM rfl <| o_nil <| n_K <| s_block ?_
      refine s_loop2 [3, 4, 47, 48] kQ (fun (st : Nat × Dsk × List LB × Int × Sl Wd) => [(49, .int .i64 st.1)]) (fun (st : Nat × Dsk × List LB × Int × Sl Wd) => (lg, true, C (lgC st.2.1.dk bb 10 st.2.2.2.1) tLg) :: (bb, true, C (lbs st.2.2.1) tLB) :: (dkH st.2.1 ++ (st.2.2.2.2.hp tW64 ++ (dr.hp tI ++ [])))) (fun (st : Nat × Dsk × List LB × Int × Sl Wd) => st.1 ≤ dr.list.length ∧ st.2.2.2.2.val = .slice (some ⟨b37, 0, none⟩) 10 10 ∧ st.2.2.2.2.isOwn = true ∧ st.2.2.2.2.list.length = 10 ∧ (∀ j < 10, wdAt st.2.2.2.2.list j = (bAt st.2.2.1 j).wear ∧ (bAt st.2.2.1 j).wear.toNat ≤ st.1 + 1) ∧ ∃ V R, LX 16 10 (2000 + 520 * st.1) q3 st.2.1 st.2.2.1 st.2.2.2.1 V R ∧ Rnd6 10 st.2.2.1 st.2.2.2.1 R 0) (fun (st : Nat × Dsk × List LB × Int × Sl Wd) => dr.list.length - st.1) ((0, d, bs, -1, w)) ⟨Nat.zero_le _, g1, g2, g3, fun j hj => by simp only; rw [g4 j hj, h0 j hj]; exact ⟨rfl, Nat.le_refl _⟩, V, _, hX, rnd0 h0⟩ kP sP ?_
      rintro ⟨m, d1, cs, la, w1⟩ ⟨k0, k1, k2, k3, k4, V1, R1, k5, k6⟩
      simp only at k0 k1 k2 k3 k4 k5 k6
      refine s_seq <| s_region0 fun ops => oR (rd_bin rfl rfl rfl) <| o_nil <| n_K <| s_seq ?_
      refine s_cond rfl (fun c50 => ?_) (fun c50 => ?_)
      · simp only [decide_eq_true_eq, decide_eq_false_iff_not] at c50
        have hm : m < dr.list.length := (by omega)
        obtain ⟨z, hz⟩ : ∃ z, dr.list[m]? = some z := ⟨_, List.getElem?_eq_getElem hm⟩
        refine s_skip <| n_K <| s_seq <| s_block <| s_seq <| s_region0 fun ops => ?_
        refine oR (rd_ixSl rfl rfl (by omega)) ?_
        refine oR (rd_ldSl (o := 0) rfl pL hz rfl rfl) ?_
        refine oA rfl <| o_nil <| n_K <| s_seq <| s_region0 fun ops => oA rfl <| o_nil <| n_K <| s_seq <| s_region0 fun ops => ?_
        refine o_makeMap .i64 rfl fun b53 => ?_
        refine oA rfl <| o_nil <| n_K <| s_seq <| s_seq <| s_region0 fun ops => oM rfl ?_
        refine c_ex rfl (segmentsX_fn k5 (by omega)) sP rfl fun v55 Y55 h55 => ?_
        obtain ⟨s, l0, rfl, rfl, _, hso, hsp, _, _, hsl⟩ := h55
        refine so_ap aQ ?_
        refine oR (rd_lenS rfl) <| oM rfl <| o_nil <| n_K <| s_block ?_
        refine s_loop2 [3, 4, 7, 8, 9, 47, 48, 49, 55, 56] kQ (fun (x : Nat) => [(57, .int .i64 x)]) (fun (x : Nat) => (b53, true, mapO .i64 (sawL (segBs (s.list.take x)))) :: (s.hp tSeg ++ ((lg, true, C (lgC d1.dk bb 10 la) tLg) :: (bb, true, C (lbs cs) tLB) :: (dkH d1 ++ (w1.hp tW64 ++ (dr.hp tI ++ [])))))) (fun (x : Nat) => x ≤ s.list.length) (fun (x : Nat) => s.list.length - x) ((0 : Nat)) (Nat.zero_le _) kP sP ?_
        rintro x hx0
        refine s_seq <| s_region0 fun ops => oR (rd_bin rfl rfl rfl) <| o_nil <| n_K <| s_seq ?_
        refine s_cond rfl (fun c58 => ?_) (fun c58 => ?_)
        · simp only [decide_eq_true_eq, decide_eq_false_iff_not] at c58
          have hx1 : x < s.list.length := (by omega)
          obtain ⟨y, hy⟩ : ∃ y, s.list[x]? = some y := ⟨_, List.getElem?_eq_getElem hx1⟩
          refine s_skip <| n_K <| s_seq <| s_block <| s_seq <| s_region0 fun ops => ?_
          refine oR (rd_ixSl (s := s) rfl rfl (by omega)) ?_
          refine oR (rd_ldSlA (s := s) (o := 0) rfl pL hy rfl rfl) ?_
          refine o_alloc rfl fun b11 => ?_
          refine o_store rfl rfl uD rfl rfl rfl ?_
          refine o_nil <| n_K <| s_region0 fun ops => oM rfl <| oF rfl ?_
          refine oR (rd_ld rfl mM rfl) ?_
          refine o_mapNew rfl rfl rfl (saw_new (segBs_new (segs_nodup hsp) hy)) uD ?_
          refine o_nil <| n_blk <| n_K <| s_region0 fun ops => ?_
          refine oR (rd_add64 rfl rfl (by omega)) ?_
          refine oM rfl <| o_nil <| n_K ?_
          exact ⟨x + 1, (by omega), (by omega), kP, kP, _, (by rw [segBs_take hy, saw_add]; exact sP)⟩
        · simp only [decide_eq_true_eq, decide_eq_false_iff_not] at c58
          have hx1 : x = s.list.length := (by omega)
          subst hx1
          rw [List.take_length]
          refine s_exit <| x_K <| x_K <| x_blk <| n_K <| s_seq <| s_seq <| s_region0 fun ops => oM rfl <| oR (rd_lenS rfl) <| oM rfl <| o_nil <| n_K <| s_block ?_
          refine s_loop2 [3, 4, 7, 9, 47, 48, 49, 65, 66] kQ (fun (st : Nat × Wd) => [(67, .int .i64 st.1), (8, wv st.2)]) (fun (st : Nat × Wd) => (b53, true, mapO .i64 (sawL (segBs s.list))) :: ((lg, true, C (lgC d1.dk bb 10 la) tLg) :: (bb, true, C (lbs cs) tLB) :: (dkH d1 ++ (w1.hp tW64 ++ (dr.hp tI ++ []))))) (fun (st : Nat × Wd) => st.1 ≤ 10 ∧ LeastI cs st.1 st.2) (fun (st : Nat × Wd) => 10 - st.1) ((0, 1152921504606846976)) ⟨Nat.zero_le _, ⟨fun j hj => (by cases hj), .inl rfl⟩⟩ kP sP ?_
          rintro ⟨x, lw⟩ ⟨q0, q1⟩
          simp only at q0 q1
          refine s_seq <| s_region0 fun ops => oR (rd_bin rfl rfl rfl) <| o_nil <| n_K <| s_seq ?_
          refine s_cond rfl (fun c68 => ?_) (fun c68 => ?_)
          · simp only [decide_eq_true_eq, decide_eq_false_iff_not] at c68
            have hx1 : x < 10 := (by omega)
            have hgx := wdAt_get (l := w1.list) (j := x) (by omega)
            have hsx := segs_saw hsp hx1
            have hwx := (k4 x hx1).1
            refine s_skip <| n_K <| s_seq <| s_block <| s_seq <| s_region0 fun ops => oM rfl ?_
            refine oR (rd_ixSl (s := w1) (by rw [k1]; rfl) rfl (by omega)) ?_
            refine oR (rd_ldSl (s := w1) (o := 0) (v := wv (bAt cs x).wear) rfl pL hgx (by rw [hwx]; rfl) rfl) ?_
            refine oA rfl <| oA rfl <| o_nil <| n_K <| s_seq <| s_region0 fun ops => oM rfl <| oM rfl ?_
            refine oR (rd_saw rfl rfl mM) ?_
            refine oR (rd_not rfl) <| o_nil <| n_K ?_
            refine s_cond rfl (fun c75 => ?_) (fun c75 => ?_)
            · skip
              have hz0 : (bAt cs x).seq.toNat = 0 := (by have h9 : ¬ ((x : Nat) : Int) ∈ segBs s.list := (by simpa using c75); exact Decidable.byContradiction fun h8 => h9 (hsx.2 h8))
              refine s_region0 fun ops => oM rfl <| oM rfl <| oR (rd_minW rfl rfl) <| oA rfl <| o_nil <| n_blk <| n_K <| s_region0 fun ops => ?_
              refine oR (rd_add64 rfl rfl (by omega)) ?_
              refine oM rfl <| o_nil <| n_K ?_
              first | exact ⟨(x + 1, (if lw.toNat ≤ (bAt cs x).wear.toNat then lw else (bAt cs x).wear)), ⟨by simp only; omega, q1.step hz0⟩, (by simp only; omega), lZ⟩ | exact ⟨(x + 1, lw), ⟨by simp only; omega, q1.skip hz0⟩, (by simp only; omega), lZ⟩
            · skip
              have hz0 : (bAt cs x).seq.toNat ≠ 0 := (by have h9 : ((x : Nat) : Int) ∈ segBs s.list := (by simpa using c75); exact hsx.1 h9)
              refine s_skip <| n_blk <| n_K <| s_region0 fun ops => ?_
              refine oR (rd_add64 rfl rfl (by omega)) ?_
              refine oM rfl <| o_nil <| n_K ?_
              first | exact ⟨(x + 1, (if lw.toNat ≤ (bAt cs x).wear.toNat then lw else (bAt cs x).wear)), ⟨by simp only; omega, q1.step hz0⟩, (by simp only; omega), lZ⟩ | exact ⟨(x + 1, lw), ⟨by simp only; omega, q1.skip hz0⟩, (by simp only; omega), lZ⟩
          · simp only [decide_eq_true_eq, decide_eq_false_iff_not] at c68
            have hx1 : x = 10 := (by omega)
            subst hx1
            refine s_exit <| x_K <| x_K <| x_blk <| n_K <| s_seq <| s_seq <| s_region0 fun ops => oA rfl <| o_nil <| n_K <| s_block ?_
            refine s_loop2 [3, 4, 7, 8, 9, 47, 48, 49] kQ (fun (st : Nat × Dsk × List LB × Int) => [(14, .int .i64 st.1)]) (fun (st : Nat × Dsk × List LB × Int) => (b53, true, mapO .i64 (sawL (segBs s.list))) :: ((lg, true, C (lgC st.2.1.dk bb 10 st.2.2.2) tLg) :: (bb, true, C (lbs st.2.2.1) tLB) :: (dkH st.2.1 ++ (w1.hp tW64 ++ (dr.hp tI ++ []))))) (fun (st : Nat × Dsk × List LB × Int) => st.1 ≤ 6 ∧ (st.1 = 0 → st.2.2.1 = cs) ∧ (∀ j, (bAt st.2.2.1 j).wear = (bAt cs j).wear) ∧ ∃ V R, LX 16 10 (2000 + 520 * m + 80 * st.1) q3 st.2.1 st.2.2.1 st.2.2.2 V R ∧ Rnd6 10 st.2.2.1 st.2.2.2 R st.1) (fun (st : Nat × Dsk × List LB × Int) => 6 - st.1) ((0, d1, cs, la)) ⟨Nat.zero_le _, fun _ => rfl, fun _ => rfl, V1, R1, k5, k6⟩ kP sP ?_
            rintro ⟨rr, d2, cs2, la2⟩ ⟨p0, p1, p2, V2, R2, p3, p4⟩
            simp only at p0 p1 p2 p3 p4
            refine s_seq <| s_seq <| s_region0 fun ops => oM rfl <| oR (rd_bin rfl rfl rfl) <| o_nil <| n_K ?_
            refine s_cond rfl (fun c81 => ?_) (fun c81 => ?_)
            · simp only [decide_eq_true_eq, decide_eq_false_iff_not] at c81
              have hy6 : rr < 6 := (by omega)
              refine s_skip <| n_K <| s_seq <| s_block <| s_seq <| s_region0 fun ops => oM rfl <| oM rfl ?_
              refine oR (show Rd _ _ _ _ (bv (byteI z)) from by (unfold bv; rw [← byte_i64]; exact rd_convI rfl)) ?_
              refine o_bslice_k rfl rfl rfl rfl fun b88 => ?_
              refine o_bslice_k rfl rfl rfl rfl fun b89 => ?_
              refine c_ex rfl (app1_fn p3 (by omega) (by decide) (kind := 20) (x := byteI z) (b := b89) (a := b88) (right1 (by decide))) sP rfl fun v90 Y90 h90 => ?_
              obtain ⟨d3, cs3, la3, e, pb, pj, R3, rfl, rfl, hY, _, V3, hX3⟩ := h90
              have hy := hY.rnd p3 p4 hy6
              refine so_ap aQ ?_
              refine oM rfl <| oE rfl rfl <| oE rfl rfl ?_
              refine o_alloc rfl fun b15 => ?_
              refine o_store rfl rfl uD rfl rfl rfl ?_
              refine oA rfl <| o_nil <| n_K <| s_seq <| s_seq <| s_region0 fun ops => oM rfl <| oR (rd_bin rfl rfl rfl) <| o_nil <| n_K ?_
              refine s_cond rfl (fun c94 => ?_) (fun c94 => ?_)
              · skip
                have c94 : e ≠ 0 := (by simpa using c94)
                obtain ⟨rfl, hfz, rfl⟩ := hy.resolve_right (fun h9 => c94 h9.1)
                refine s_seq ?_
                refine s_region [(2, 97)] rfl fun ops y => ?_
                refine oM rfl <| oR (rd_bin rfl rfl rfl) <| oM rfl ?_
                refine' o_and (j := 2) (k := 3) y rfl rfl rfl rfl rfl rfl rfl (fun hg97 => ?_) ?_
                rotate_left
                · try (simp at hg97; show _)
                  refine o_g y rfl rfl ?_
                  refine oM rfl ?_
                  refine o_g y rfl rfl ?_
                  refine c_is rfl ((free_fn (nb := 10) hX3.len (by decide)).to (by rw [hfz]) rfl) sP rfl aQ ?_
                  refine o_g y rfl rfl ?_
                  refine oR (rd_bin rfl rfl rfl) ?_
                  exact o_nil ⟨rfl, rfl, ⟨_, sP⟩⟩
                refine oA rfl <| o_nil <| n_K <| s_ret <| r_K <| r_blk <| r_K <| r_K <| r_blk <| r_K <| r_blk <| r_K <| r_K <| r_blk ?_
                refine r_K ?_
                exact leaf_r (rets1 Tryz.results7 (rv_tmp rfl)) (by simp) sP
              · skip
                have c94 : e = 0 := (by simpa using c94)
                obtain ⟨_, hR3, to, rfl, hto, hcase⟩ := hy.resolve_left (fun h9 => by rw [c94] at h9; exact absurd h9.1 (by decide))
                have hgw := wdAt_get (l := w1.list) (j := to) (by omega)
                refine s_skip <| n_K <| s_seq ?_
                refine s_region [(3, 105), (11, 113)] rfl fun ops y => ?_
                refine oF rfl ?_
                refine oR (rd_ld rfl mM rfl) ?_
                refine oR (rd_bin rfl rfl rfl) <| oM rfl ?_
                refine' o_and (j := 3) (k := 13) y rfl rfl rfl rfl rfl rfl rfl (fun hg105 => ?_) ?_
                rotate_left
                · try (simp at hg105; show _)
                  refine o_g y rfl rfl ?_
                  refine oM rfl ?_
                  refine o_g y rfl rfl ?_
                  refine oF rfl ?_
                  refine o_g y rfl rfl ?_
                  refine oR (rd_ld rfl mM rfl) ?_
                  refine o_g y rfl rfl ?_
                  refine oR (rd_ixSl (s := w1) (by rw [k1]; rfl) rfl (by omega)) ?_
                  refine o_g y rfl rfl ?_
                  refine oR (rd_ldSl (s := w1) (o := 0) (v := wv (wdAt w1.list to)) rfl pL hgw rfl rfl) ?_
                  refine o_g y rfl rfl ?_
                  refine oM rfl ?_
                  refine o_g y rfl rfl ?_
                  refine oR (rd_bin rfl rfl rfl) ?_
                  refine o_g y rfl rfl ?_
                  refine oM rfl ?_
                  refine' o_or (j := 11) (k := 4) y rfl rfl rfl rfl rfl rfl rfl (fun hg113 => ?_) ?_
                  rotate_left
                  · try (simp at hg113; show _)
                    refine o_g y rfl rfl ?_
                    refine oM rfl ?_
                    refine o_g y rfl rfl ?_
                    refine oF rfl ?_
                    refine o_g y rfl rfl ?_
                    refine oR (rd_ld rfl mM rfl) ?_
                    refine o_g y rfl rfl ?_
                    refine oR (rd_saw rfl rfl mM) ?_
                    exact o_nil ⟨rfl, rfl, ⟨_, sP⟩⟩
                  exact o_nil ⟨rfl, rfl, ⟨_, sP⟩⟩
                refine o_nil <| n_K ?_
                refine s_cond rfl (fun c119 => ?_) (fun c119 => ?_)
                · skip
                  exact absurd c119 (by rcases hcase with ⟨rfl, rfl, hz0, hmin⟩ | ⟨_, hne⟩; (rw [p1 rfl] at hz0 hmin; have hlw := q1.eq hto hz0 hmin (by have := (k4 to hto).2; omega); rw [(k4 to hto).1, hlw]; have hns : ((to : Nat) : Int) ∉ segBs s.list := (fun h9 => (segs_saw hsp hto).1 h9 hz0); simp [hns]); simp [hne])
                · skip
                  refine s_skip <| n_blk <| n_K <| s_region0 fun ops => oM rfl ?_
                  refine oR (rd_add64 rfl rfl (by omega)) ?_
                  refine oA rfl <| o_nil <| n_K ?_
                  exact ⟨(rr + 1, d3, cs3, la3), ⟨by simp only; omega, fun h9 => absurd h9 (Nat.succ_ne_zero _), fun j => by simp only; rw [hY.wear p3.len, p2 j], V3, R3, hX3.mono (by simp only; omega), hR3⟩, (by simp only; omega), lZ⟩
            · simp only [decide_eq_true_eq, decide_eq_false_iff_not] at c81
              have hy6 : rr = 6 := (by omega)
              subst hy6
              have p5 := p4.turn
              refine s_exit <| x_K <| x_K <| x_blk <| n_K <| s_seq <| s_region0 fun ops => oM rfl ?_
              refine c_ex rfl (segmentsX_fn p3 (by omega)) sP rfl fun v121 Y121 h121 => ?_
              obtain ⟨s2, l2, rfl, rfl, _, hso2, hsp2, _, _, hsl2⟩ := h121
              have hwk : ∀ j < 10, wdAt w1.list j = (bAt cs2 j).wear := (fun j hj => by rw [p2 j]; exact (k4 j hj).1)
              refine so_ap aQ ?_
              refine oA rfl <| o_nil <| n_K <| s_seq <| s_seq <| s_region0 fun ops => oM rfl <| oR (rd_lenS rfl) <| oM rfl <| o_nil <| n_K <| s_block ?_
              refine s_loop2 [3, 4, 7, 17, 47, 48, 49, 122, 123] kQ (fun (x : Nat) => [(124, .int .i64 x)]) (fun (x : Nat) => s2.hp tSeg ++ ((lg, true, C (lgC d2.dk bb 10 la2) tLg) :: (bb, true, C (lbs cs2) tLB) :: (dkH d2 ++ (w1.hp tW64 ++ (dr.hp tI ++ []))))) (fun (x : Nat) => x ≤ s2.list.length) (fun (x : Nat) => s2.list.length - x) ((0 : Nat)) (Nat.zero_le _) kP sP ?_
              rintro x hx0
              refine s_seq <| s_region0 fun ops => oR (rd_bin rfl rfl rfl) <| o_nil <| n_K <| s_seq ?_
              refine s_cond rfl (fun c125 => ?_) (fun c125 => ?_)
              · simp only [decide_eq_true_eq, decide_eq_false_iff_not] at c125
                have hx1 : x < s2.list.length := (by omega)
                obtain ⟨yy, hyy⟩ : ∃ yy, s2.list[x]? = some yy := ⟨_, List.getElem?_eq_getElem hx1⟩
                obtain ⟨j, hj1, hj2, hj3, hj4⟩ := segs_at hsp2 hyy
                have hgj := wdAt_get (l := w1.list) (j := yy.b.toNat) (by omega)
                have hwj : wdAt w1.list yy.b.toNat = yy.wear := (by rw [hj4, hj1]; exact hwk j hj2)
                refine s_skip <| n_K <| s_seq <| s_block <| s_seq <| s_region0 fun ops => ?_
                refine oR (rd_ixSl (s := s2) rfl rfl (by omega)) ?_
                refine oR (rd_ldSlA (s := s2) (o := 0) rfl pL hyy rfl rfl) ?_
                refine o_alloc rfl fun b19 => ?_
                refine o_store rfl rfl uD rfl rfl rfl ?_
                refine o_nil <| n_K <| s_seq ?_
                refine s_draw [] [(8, [(0, false), (1, false), (2, false), (3, false), (4, false), (5, false), (6, false), (7, false)])] (by kernel_rfl) rfl fun ops w0 H0 y => ?_
                refine p_all <| xF rfl ?_
                refine xR (rd_ld rfl mM rfl) ?_
                refine xM rfl <| xF rfl ?_
                refine xR (rd_ld rfl mM rfl) ?_
                refine xR (rd_ixSl (s := w1) (by rw [k1]; rfl) rfl (by omega)) ?_
                refine xR (rd_ldSl (s := w1) (o := 0) (v := wv yy.wear) rfl pL hgj (by rw [hwj]; rfl) rfl) ?_
                refine xR (rd_bin rfl rfl rfl) <| x_nil <| p_end <| n_K ?_
                refine s_cond rfl (fun c135 => ?_) (fun c135 => ?_)
                · skip
                  try (exfalso; (simp at c135); done)
                  all_goals
                    refine s_seq <| s_region0 fun ops => oA rfl <| o_nil <| n_K <| s_ret <| r_blk <| r_K <| r_K <| r_blk <| r_K <| r_blk <| r_K <| r_K ?_
                    refine r_blk <| r_K ?_
                    exact leaf_r (rets1 Tryz.results7 (rv_tmp rfl)) (by rfl) sP
                · skip
                  refine s_skip <| n_blk <| n_K <| s_region0 fun ops => ?_
                  refine oR (rd_add64 rfl rfl (by omega)) ?_
                  refine oM rfl <| o_nil <| n_K ?_
                  exact ⟨x + 1, (by omega), (by omega), lZ⟩
              · simp only [decide_eq_true_eq, decide_eq_false_iff_not] at c125
                have hx1 : x = s2.list.length := (by omega)
                obtain ⟨l6, hl6, _⟩ := p4.la (by omega)
                have hu6 := p3.used hl6
                have hf6 : freeN cs2 10 < 10 := (by have h7 := freeN_le cs2 10; by_cases h8 : freeN cs2 10 = 10; (exfalso; have h9 := (segs_saw hsp2 hu6.1).2 hu6.2.seq; rw [show s2.list = [] from List.length_eq_zero_iff.1 (by omega)] at h9; cases h9); omega)
                have hs0 : s2.list.length ≠ 0 := (by omega)
                obtain ⟨zz, hzz⟩ : ∃ zz, zz = z.fdiv (2 ^ (min (1 : Int).toNat IntKind.i64.bits)) := ⟨_, rfl⟩
                obtain ⟨kk, hkk, hkl⟩ := and_ffff zz
                refine s_exit <| x_K <| x_K <| x_blk <| n_K <| s_seq <| s_region0 fun ops => oM rfl <| oR (rd_bin rfl rfl rfl) <| oR (rd_bin rfl rfl rfl) <| o_nil <| n_K ?_
                refine s_cond rfl (fun c139 => ?_) (fun c139 => ?_)
                · skip
                  have hkm : kk % s2.list.length < s2.list.length := Nat.mod_lt _ (by omega)
                  obtain ⟨y2, hy2⟩ : ∃ y2, s2.list[kk % s2.list.length]? = some y2 := ⟨_, List.getElem?_eq_getElem hkm⟩
                  obtain ⟨j2, hj21, hj22, hj23, hj24⟩ := segs_at hsp2 hy2
                  have hg2 := wdAt_get (l := w1.list) (j := j2) (by omega)
                  refine s_seq <| s_region0 fun ops => oM rfl <| oM rfl ?_
                  refine oR (show Rd _ _ _ _ (.int .i64 zz) from by (rw [hzz]; exact rd_shr rfl rfl (by omega))) ?_
                  refine oR (show Rd _ _ _ _ (.int .i64 (kk : Nat)) from by (rw [← hkk]; exact rd_bin rfl rfl rfl)) ?_
                  refine oM rfl <| oR (rd_lenS rfl) ?_
                  refine oR (rd_remN (i := kk) (m := s2.list.length) rfl rfl hs0) ?_
                  refine oR (rd_ixSl (s := s2) rfl rfl (by omega)) ?_
                  refine oF rfl ?_
                  refine oR (rd_ldSl (s := s2) (o := 0) (v := .int .i64 (j2 : Nat)) rfl pL hy2 (by show some (Value.int .i64 y2.b) = _; rw [hj21]) rfl) ?_
                  refine oA rfl <| o_nil <| n_K <| s_seq <| s_seq <| s_region0 fun ops => oM rfl <| oM rfl ?_
                  refine c_ex rfl (drop_fn (d := d2) (bb := bb) (last := la2) (bs := cs2) p3.dv (by omega) (by decide) p3.acc p3.num p3.len (b := (j2 : Nat))) sP rfl fun v152 Y152 h152 => ?_
                  obtain ⟨t5, c5, cs5, la5, e5, rfl, rfl, hD⟩ := h152
                  obtain ⟨rfl, rfl, _, V5, hX5⟩ := p3.drop hj22 hD hj23
                  have hR5 := p5.drop (last' := la5) (b := j2) (w := (bAt cs2 j2).wear + 1) (by rw [p3.len]; omega)
                  have hlen2 := p3.len
                  refine so_ap aQ ?_
                  refine oR (rd_bin rfl rfl rfl) <| o_nil <| n_K ?_
                  refine s_cond rfl (fun c153 => ?_) (fun c153 => ?_)
                  · skip
                    try (exfalso; (simp at c153); done)
                    all_goals
                      refine s_seq <| s_region0 fun ops => oA rfl <| o_nil <| n_K <| s_ret <| r_K <| r_blk <| r_K <| r_K <| r_blk <| r_K ?_
                      exact leaf_r (rets1 Tryz.results7 (rv_tmp rfl)) (by rfl) sP
                  · skip
                    refine s_skip <| n_K <| s_region0 fun ops => oM rfl <| oM rfl ?_
                    refine oR (rd_ixSl (s := w1) (by rw [k1]; rfl) rfl (by omega)) ?_
                    refine oR (rd_ldSl (s := w1) (o := 0) (v := wv (wdAt w1.list j2)) rfl pL hg2 rfl rfl) ?_
                    refine oR (rd_inc64 rfl rfl) ?_
                    refine oR (rd_ixSl (s := w1) (by rw [k1]; rfl) rfl (by omega)) ?_
                    refine o_storeSl (s := w1) (o := 0) (z' := wdAt w1.list j2 + 1) rfl rfl uL k2 hg2 rfl rfl rfl (by rw [off_own k2]; exact Nat.zero_add _) ?_
                    refine o_nil <| n_blk <| n_K <| s_region0 fun ops => ?_
                    refine oR (rd_add64 rfl rfl (by omega)) ?_
                    refine oM rfl <| o_nil <| n_K ?_
                    first | exact ⟨(m + 1, ⟨d2.dk, t5, c5⟩, cs2.set j2 (wiped ((bAt cs2 j2).wear + 1)), la5, w1.set j2 (wdAt w1.list j2 + 1)), ⟨by simp only; omega, by simp only; rw [Sl.set_val]; exact k1, Sl.set_isOwn _ _ _ k2, by simp only; rw [Sl.set_list _ _ _ k2, List.length_set]; exact k3, fun j hj => (by simp only; rw [Sl.set_list _ _ _ k2, wdAt_set (by omega), bAt_set (by omega)]; have h7 := (k4 j hj).2; (by_cases h8 : j = j2); (subst h8; rw [if_pos rfl, if_pos rfl, hwk j hj]; refine ⟨rfl, ?_⟩; rw [← p2 j] at h7; show ((bAt cs2 j).wear + 1).toNat ≤ _; rw [BitVec.toNat_add]; show ((bAt cs2 j).wear.toNat + 1) % 2 ^ 64 ≤ _; omega); (rw [if_neg h8, if_neg h8]; refine ⟨hwk j hj, ?_⟩; rw [p2 j]; omega)), V5, _, hX5.mono (by simp only; omega), hR5⟩, (by simp only; omega), lZ⟩ | exact ⟨(m + 1, d2, cs2, la2, w1), ⟨by simp only; omega, k1, k2, k3, fun j hj => (by have h7 := (k4 j hj).2; simp only; refine ⟨hwk j hj, ?_⟩; rw [p2 j]; omega), V2, R2, p3.mono (by simp only; omega), p5⟩, (by simp only; omega), lZ⟩
                · skip
                  refine s_skip <| n_blk <| n_K <| s_region0 fun ops => ?_
                  refine oR (rd_add64 rfl rfl (by omega)) ?_
                  refine oM rfl <| o_nil <| n_K ?_
                  first | exact ⟨(m + 1, ⟨d2.dk, t5, c5⟩, cs2.set j2 (wiped ((bAt cs2 j2).wear + 1)), la5, w1.set j2 (wdAt w1.list j2 + 1)), ⟨by simp only; omega, by simp only; rw [Sl.set_val]; exact k1, Sl.set_isOwn _ _ _ k2, by simp only; rw [Sl.set_list _ _ _ k2, List.length_set]; exact k3, fun j hj => (by simp only; rw [Sl.set_list _ _ _ k2, wdAt_set (by omega), bAt_set (by omega)]; have h7 := (k4 j hj).2; (by_cases h8 : j = j2); (subst h8; rw [if_pos rfl, if_pos rfl, hwk j hj]; refine ⟨rfl, ?_⟩; rw [← p2 j] at h7; show ((bAt cs2 j).wear + 1).toNat ≤ _; rw [BitVec.toNat_add]; show ((bAt cs2 j).wear.toNat + 1) % 2 ^ 64 ≤ _; omega); (rw [if_neg h8, if_neg h8]; refine ⟨hwk j hj, ?_⟩; rw [p2 j]; omega)), V5, _, hX5.mono (by simp only; omega), hR5⟩, (by simp only; omega), lZ⟩ | exact ⟨(m + 1, d2, cs2, la2, w1), ⟨by simp only; omega, k1, k2, k3, fun j hj => (by have h7 := (k4 j hj).2; simp only; refine ⟨hwk j hj, ?_⟩; rw [p2 j]; omega), V2, R2, p3.mono (by simp only; omega), p5⟩, (by simp only; omega), lZ⟩
      · simp only [decide_eq_true_eq, decide_eq_false_iff_not] at c50
        refine s_exit <| x_K <| x_K <| x_blk <| n_K <| s_seq <| s_region0 fun ops => oM rfl <| oN rfl <| oF rfl ?_
        refine oR (rd_ld rfl mM rfl) ?_
        refine oN rfl <| oF rfl ?_
        refine oR (rd_dc (d := d1) rfl pL) ?_
        refine c_ex rfl (again8_fn k5) sP rfl fun v168 Y168 h168 => ?_
        obtain ⟨lg4, bb4, d4, rfl, rfl, hdc, hX4, hN4, hf4, hl4⟩ := h168
        have hwk : ∀ j < 10, wdAt w1.list j = (bAt (openL V1 10).1 j).wear := (fun j hj => by rw [k5.open_at hj]; exact (k4 j hj).1)
        refine so_ap aQ ?_
        refine oA rfl <| o_nil <| n_K <| s_seq <| s_seq <| s_region0 fun ops => oM rfl <| oR (rd_eqNil rfl rfl) <| o_nil <| n_K ?_
        refine s_condF rfl ?_
        refine s_skip <| n_K <| s_seq <| s_seq <| s_region0 fun ops => oM rfl ?_
        refine c_ex rfl (segmentsX_fn hX4 (by omega)) sP rfl fun v172 Y172 h172 => ?_
        obtain ⟨s2, l2, rfl, rfl, _, hso2, hsp2, _, _, hsl2⟩ := h172
        refine so_ap aQ ?_
        refine oR (rd_lenS rfl) <| oM rfl <| o_nil <| n_K <| s_block ?_
        refine s_loop2 [4, 172, 173] kQ (fun (x : Nat) => [(174, .int .i64 x)]) (fun (x : Nat) => s2.hp tSeg ++ (w1.hp tW64 ++ [])) (fun (x : Nat) => x ≤ s2.list.length) (fun (x : Nat) => s2.list.length - x) ((0 : Nat)) (Nat.zero_le _) kP sP ?_
        rintro x hx0
        refine s_seq <| s_region0 fun ops => oR (rd_bin rfl rfl rfl) <| o_nil <| n_K <| s_seq ?_
        refine s_cond rfl (fun c175 => ?_) (fun c175 => ?_)
        · simp only [decide_eq_true_eq, decide_eq_false_iff_not] at c175
          have hx1 : x < s2.list.length := (by omega)
          obtain ⟨yy, hyy⟩ : ∃ yy, s2.list[x]? = some yy := ⟨_, List.getElem?_eq_getElem hx1⟩
          obtain ⟨j, hj1, hj2, hj3, hj4⟩ := segs_at hsp2 hyy
          have hgj := wdAt_get (l := w1.list) (j := yy.b.toNat) (by omega)
          have hwj : wdAt w1.list yy.b.toNat = yy.wear := (by rw [hj4, hj1]; exact hwk j hj2)
          refine s_skip <| n_K <| s_seq <| s_block <| s_seq <| s_region0 fun ops => ?_
          refine oR (rd_ixSl (s := s2) rfl rfl (by omega)) ?_
          refine oR (rd_ldSlA (s := s2) (o := 0) rfl pL hyy rfl rfl) ?_
          refine o_alloc rfl fun b23 => ?_
          refine o_store rfl rfl uD rfl rfl rfl ?_
          refine o_nil <| n_K <| s_seq ?_
          refine s_draw [] [(8, [(0, false), (1, false), (2, false), (3, false), (4, false), (5, false), (6, false), (7, false)])] (by kernel_rfl) rfl fun ops w0 H0 y => ?_
          refine p_all <| xF rfl ?_
          refine xR (rd_ld rfl mM rfl) ?_
          refine xM rfl <| xF rfl ?_
          refine xR (rd_ld rfl mM rfl) ?_
          refine xR (rd_ixSl (s := w1) (by rw [k1]; rfl) rfl (by omega)) ?_
          refine xR (rd_ldSl (s := w1) (o := 0) (v := wv yy.wear) rfl pL hgj (by rw [hwj]; rfl) rfl) ?_
          refine xR (rd_bin rfl rfl rfl) <| x_nil <| p_end <| n_K ?_
          refine s_cond rfl (fun c185 => ?_) (fun c185 => ?_)
          · skip
            try (exfalso; (simp at c185); done)
            all_goals
              refine s_seq <| s_region0 fun ops => oA rfl <| o_nil <| n_K <| s_ret <| r_blk <| r_K <| r_K <| r_blk <| r_K ?_
              exact leaf_r (rets1 Tryz.results7 (rv_tmp rfl)) (by rfl) sP
          · skip
            refine s_skip <| n_blk <| n_K <| s_region0 fun ops => ?_
            refine oR (rd_add64 rfl rfl (by omega)) ?_
            refine oM rfl <| o_nil <| n_K ?_
            exact ⟨x + 1, (by omega), (by omega), lZ⟩
        · simp only [decide_eq_true_eq, decide_eq_false_iff_not] at c175
          refine s_exit <| x_K <| x_K <| x_blk <| n_K <| s_seq <| s_region0 fun ops => oA rfl <| o_nil <| n_K <| s_ret ?_
          exact leaf_r (rets1 Tryz.results7 (rv_tmp rfl)) (by rfl) sP
end Go.Proofs.YtkfcpjohblddmaaGreat
end
section
/- The law LogMends. -/
namespace Go.Proofs.YtkfcpjohblddmaaGreat
open Go.K
set_option linter.unusedVariables false
set_option linter.unusedSimpArgs false
instance ent6 : Ent Tryz.prog 6 := ⟨fun _ _ => by kernel_rfl⟩
set_option maxRecDepth 20000
set_option maxHeartbeats 1000000
theorem DV.flip {c : Chip} {t : TS} {n k : Nat} {V : Nat → Blk} (h : DV c t n k V) {l a j x : Nat} (hl : l + 6 < n) (ha : at0 t.uses (l : Nat) = (a : Nat)) (hj8 : j < 8) (hj : (j : Int) < (V l).next) :
    c.blocks[a]? = some (V l) ∧ DV (setB c a (setPg (V l) j (flipP (V l).pages[j] x))) t n (k + 1) (upV V l (setPg (V l) j (flipP (V l).pages[j] x))) := by
  have hv := h.vw l hl
  have hus := h.us hl
  rw [ha, Int.toNat_natCast] at hv
  refine ⟨hv, ?_⟩
  obtain ⟨hbi, hbad⟩ := h.blk (l := l) (by omega)
  have hat : (setB c a (setPg (V l) j (flipP (V l).pages[j] x))).blocks[a]? = some (setPg (V l) j (flipP (V l).pages[j] x)) := setB_at hv
  have hbi' : BI (setPg (V l) j (flipP (V l).pages[j] x)) := ⟨hbi.nx, fun i hi hle => by
    have h9 : (V l).next ≤ i := hle
    rw [setPg_at hi, if_neg (by omega)]; exact hbi.bl i hi h9⟩
  have hdi := h.di.far (i := a) (by omega) (fr_setB c a _) ⟨h.di.up.off, h.di.up.dead, h.di.up.out⟩ hat hbi' hbad ⟨by have := h.di.cnt.p0; show 0 ≤ c.pc ∧ c.pc ≤ _; omega, by have := h.di.cnt.w0; show 0 ≤ c.wc ∧ c.wc ≤ _; omega⟩
  exact h.act (b := l) (by omega) (by rw [ha, Int.toNat_natCast]; exact fr_setB c a _) (by rw [ha, Int.toNat_natCast]; exact hat) hdi
def mf1 (p : Pg) : Int := if (readF p).2.2.2 = 0 then (readF p).2.2.1 else 0
theorem mendN_succ (v : Blk) (j : Nat) : mendN v (j + 1) = mendN v j + mf1 (pgAt v j) := rfl
theorem mendN_set {v w : Blk} {i : Nat} (ho : ∀ j < 8, j ≠ i → pgAt w j = pgAt v j) : ∀ k, k ≤ 8 → mendN w k + (if i < k then mf1 (pgAt v i) else 0) = mendN v k + (if i < k then mf1 (pgAt w i) else 0)
  | 0, _ => by simp [mendN]
  | k + 1, hk => by
    have ih := mendN_set ho k (by omega)
    rw [mendN_succ, mendN_succ]
    by_cases e : i = k
    · subst e
      rw [if_pos (by omega), if_pos (by omega)]
      rw [if_neg (by omega), if_neg (by omega)] at ih
      omega
    · rw [ho k (by omega) (fun h => e h.symm)]
      by_cases e2 : i < k
      · rw [if_pos (by omega), if_pos (by omega)]
        rw [if_pos e2, if_pos e2] at ih
        omega
      · rw [if_neg (by omega), if_neg (by omega)]
        rw [if_neg e2, if_neg e2] at ih
        omega
/-- A page that holds what a frame holds. -/
def FrP (p : Pg) : Prop := ∃ (kind : By) (b : List By), wrong kind b = false ∧ p = pageW kind b
theorem FrP.m {p : Pg} (h : FrP p) : mf1 p = 0 := by
  obtain ⟨kind, b, h1, rfl⟩ := h
  unfold mf1
  rw [readF_page h1, if_pos rfl]
theorem FrP.f {p : Pg} (h : FrP p) {x : Nat} (hx : x < 2064) : mf1 (flipP p x) = 1 := by
  obtain ⟨kind, b, h1, rfl⟩ := h
  unfold mf1
  rw [readF_flip h1 hx, if_pos rfl]
theorem mf1_blank : mf1 blankP = 0 := by
  unfold mf1
  rw [readF_blank blankP_blank, if_neg (by decide)]
theorem UsedX.fr {x : LB} {v : Blk} {r : List Pg} (u : UsedX x v r) {j : Nat} (hj : j < 2 + r.length) : FrP (pgAt v j) := by
  by_cases h0 : j = 0
  · subst h0; rw [u.wear]; exact ⟨_, _, numP_right (by decide) _, rfl⟩
  · by_cases h1 : j = 1
    · subst h1; rw [u.head]; exact ⟨_, _, numP_right (by decide) _, rfl⟩
    · obtain ⟨i, rfl⟩ : ∃ i, j = 2 + i := ⟨j - 2, by omega⟩
      rw [u.recs i (by omega)]
      obtain ⟨kind, b, _, h2, h3⟩ := u.good _ (List.getElem_mem (show i < r.length by omega))
      exact ⟨kind, b, h2, h3⟩
theorem UsedX.mend0 {x : LB} {v : Blk} {r : List Pg} (u : UsedX x v r) (h : BI v) : ∀ k, k ≤ 8 → mendN v k = 0
  | 0, _ => rfl
  | k + 1, hk => by
    rw [mendN_succ, u.mend0 h k (by omega)]
    by_cases e : k < 2 + r.length
    · rw [(u.fr e).m]; rfl
    · have := u.next
      rw [h.pg (by omega) (by omega), mf1_blank]; rfl
section
variable {nb : Nat} {bs : List LB}
theorem freeN_two {i j : Nat} (hij : i ≠ j) (h1 : (bAt bs i).seq.toNat ≠ 0) (h2 : (bAt bs j).seq.toNat ≠ 0) : ∀ k, i < k → j < k → freeN bs k + 2 ≤ k
  | 0, hi, _ => by omega
  | k + 1, hi, hj => by
    have one : ∀ m k, m < k → (bAt bs m).seq.toNat ≠ 0 → freeN bs k + 1 ≤ k := fun m k hm hz => by
      have := freeN_set (bs := bs) (b := m) (x := wiped 0)
      induction k with
      | zero => omega
      | succ k ih =>
        rw [freeN_succ]
        by_cases e : m = k
        · subst e
          have := freeN_le bs m
          unfold z1
          rw [if_neg hz]; omega
        · have := ih (by omega)
          unfold z1
          split <;> omega
    rw [freeN_succ]
    by_cases e1 : i = k
    · subst e1
      have := one j i (by omega) h2
      unfold z1
      rw [if_neg h1]; omega
    · by_cases e2 : j = k
      · subst e2
        have := one i j (by omega) h1
        unfold z1
        rw [if_neg h2]; omega
      · have := freeN_two hij h1 h2 k (by omega) (by omega)
        unfold z1
        split <;> omega
theorem segsN_count (V : Nat → Blk) : ∀ k, (segsN V bs k).length + freeN bs k = k
  | 0 => rfl
  | k + 1 => by
    have ih := segsN_count V k
    rw [freeN_succ]
    unfold segsN z1
    rw [List.length_append]
    split <;> simp <;> omega
end
/-- The log whose pages have turned bits. -/
structure TurnI (l c : Nat) (V0 V : Nat → Blk) (d : Dsk) (k i : Nat) (want : Int) : Prop where
  dv : DV d.c d.t.ts 16 k V
  acc : d.t.ts.lost.length + FP d.c + FW d.c = 0
  us : ∀ m < 10, at0 d.t.ts.uses (m : Nat) = ((m + 2 : Nat) : Int)
  af : d.c.after < 0
  oth : ∀ j, j ≠ l → V j = V0 j
  next : (V l).next = (V0 l).next
  pgs : ∀ j < 8, i ≤ j → pgAt (V l) j = pgAt (V0 l) j
  want : mendN (V l) 8 = want
theorem fmt16 : ∀ m : Fin 10, at0 (fmtV (badL 16 []) ((16 : Nat) - 6 : Int) 16) (m.val : Nat) = ((m.val + 2 : Nat) : Int) := by decide +kernel
theorem TurnI.skip {l c : Nat} {V0 V : Nat → Blk} {d : Dsk} {k i : Nat} {want : Int} (h : TurnI l c V0 V d k i want) : TurnI l c V0 V d (k + 1) (i + 1) want :=
  ⟨h.dv.mono (by omega), h.acc, h.us, h.af, h.oth, h.next, fun j hj hi => h.pgs j hj (by omega), h.want⟩
theorem TurnI.flip {l c : Nat} {V0 V : Nat → Blk} {d : Dsk} {k i x : Nat} {want : Int} (h : TurnI l c V0 V d k i want) (hl : l < 10) (hi : i < 8) (hn : (i : Int) < (V0 l).next) (hf : FrP (pgAt (V0 l) i)) (hx : x < 2064) :
    d.c.blocks[l + 2]? = some (V l) ∧ TurnI l c V0 (upV V l (setPg (V l) i (flipP ((V l).pages[i]'hi) x))) ⟨d.dk, d.t, setB d.c (l + 2) (setPg (V l) i (flipP ((V l).pages[i]'hi) x))⟩ (k + 1) (i + 1) (want + 1) := by
  obtain ⟨h1, h2⟩ := h.dv.flip (l := l) (a := l + 2) (x := x) (by omega) (h.us l hl) hi (by rw [h.next]; exact hn)
  refine ⟨h1, h2, h.acc, h.us, h.af, fun j hj => by rw [upV_ne hj]; exact h.oth j hj, by rw [upV_at]; exact h.next, fun j hj hij => ?_, ?_⟩
  · rw [upV_at, pgAt_in hj, setPg_at hj, if_neg (by omega), ← pgAt_in hj]
    exact h.pgs j hj (by omega)
  · rw [upV_at]
    have hat : pgAt (setPg (V l) i (flipP ((V l).pages[i]'hi) x)) i = flipP (pgAt (V0 l) i) x := by
      rw [pgAt_in hi, setPg_at hi, if_pos rfl, ← pgAt_in hi, h.pgs i hi (Nat.le_refl _)]
    have := mendN_set (v := V l) (w := setPg (V l) i (flipP ((V l).pages[i]'hi) x)) (i := i) (fun j hj hne => by rw [pgAt_in hj, setPg_at hj, if_neg (fun e => hne e.symm), ← pgAt_in hj]) 8 (Nat.le_refl _)
    rw [if_pos hi, if_pos hi, hat, h.pgs i hi (Nat.le_refl _), hf.m, hf.f hx, h.want] at this
    omega
section
variable {d : Dsk} {n k lg bb nb : Nat} {q : Qt} {last : Int} {V : Nat → Blk} {bs : List LB}
/-- Append, of no parts, whatever stands in the log. -/
theorem appZ_fn (h : DD d n k V) (hk : k ≤ 400000) (hq : q.n ≤ 3) (hacc : Acc q d.c d.t.ts) (hnb : nb + 6 = n) (hl : bs.length = nb) (hlr : -1 ≤ last ∧ last < nb)
    (hls : 0 ≤ last → (bAt bs last.toNat).seq.toNat ≠ 0 ∧ 2 ≤ (bAt bs last.toNat).next ∧ (bAt bs last.toNat).next ≤ 8) (hrdy : RdyI V bs nb) {kind : By} (hw : 3 < kind.toNat ∧ wrong kind [] = false) :
    Does Tryz.prog 10 [ptr lg, bv kind, .slice none 0 0] ((lg, true, C (lgC d.dk bb nb last) tLg) :: (bb, true, C (lbs bs) tLB) :: (dkH d ++ []))
    (fun v H => ∃ (t' : Tab) (c' : Chip) (bs' : List LB) (last' e pb pj : Int), v = .tuple #[.agg #[.int .i64 pb, .int .i64 pj], .int .i64 e] ∧ H = (lg, true, C (lgC d.dk bb nb last') tLg) :: (bb, true, C (lbs bs') tLB) :: (dkH ⟨d.dk, t', c'⟩ ++ []) ∧
      AppR n nb (k + 80) q V bs last (pageW kind []) d.c d.t.ts bs' last' e pb pj t'.ts c') := by
  have hh := append8_fn (lg := lg) (bb := bb) h hk hq hacc hnb hl hlr hls hrdy (kind := kind) (qs := (Sl.nil : Sl (Sl By))) (by decide)
  rw [Sl.hp_nil, show partsH (Sl.nil : Sl (Sl By)).list = [] from partsH_nil] at hh
  refine hh.mono ?_
  rintro v H ⟨t', c', bs', last', e, pb, pj, h1, h2, h3⟩
  obtain ⟨_, _, h5⟩ := h3.resolve_left (fun h9 => by rcases h9.1 with h8 | h8; omega; (have h8 : wrong kind [] = true := h8; rw [hw.2] at h8; cases h8))
  exact ⟨t', c', bs', last', e, pb, pj, h1, h2, h5⟩
end
theorem mends_app {K k l : Nat} {q q' : Qt} {d0 : Dsk} {bs bs' : List LB} {V0 V : Nat → Blk} {R : Nat → List Pg} {c c' : Chip} {t t' : TS} {last' e pb pj : Int} {p : Pg} (hX : LX 16 10 K q d0 bs l V0 R) (hK : K ≤ 400000) (hf : freeN bs 10 = 9) (af : c.after < 0)
    (hA : AppR 16 10 k q' V (bsN bs l 8) l p c t bs' last' e pb pj t' c') : e = 0 ∧ pj = 2 ∧ pb ≠ l ∧ ∃ V', DV c' t' 16 k V' ∧ bs'.length = 10 ∧ freeN bs' 10 = 8 := by
  have hlen := hX.len
  obtain ⟨hl10, u⟩ := hX.used rfl
  rcases hA with ⟨l', nx, h1, h2, h3, _⟩ | ⟨_, ⟨_, h2, _⟩ | ⟨hfr, hlen', to, v, h1, hcase⟩⟩
  · have : l' = l := by omega
    subst this
    rw [bsN_at (by omega), if_pos rfl] at h2
    have h4 : (8 : Int) ≤ nx := h2
    omega
  · rw [toU_bsN (by omega)] at h2
    have := toU_free.1 h2
    omega
  · rw [toU_bsN (by omega)] at h1
    obtain ⟨to', e1, e2, e3, _⟩ := (toU_spec bs 10).resolve_left (fun h => by omega)
    have : to' = to := by omega
    subst this
    have hne : to' ≠ l := fun e => by rw [e] at e3; exact u.seq e3
    rcases hcase with ⟨r1, r2, r3, r4, r5, r6, r7, r8, r9, r10, r11, r12⟩ | ⟨_, _, r, _⟩
    · refine ⟨r1, r5, by omega, _, r2, hlen', ?_⟩
      obtain ⟨s1, _, _⟩ := hX.seqN hK
      rw [seqN_bsN (by omega)] at r11
      have hs := freeN_set (bs := bs) (b := to') (x := ⟨0, true, seqN bs l, false, 3⟩) (by omega) 10 e2
      unfold z1 at hs
      rw [if_pos e3, if_neg s1, hf] at hs
      rw [freeN_congr (cs := bs.set to' ⟨0, true, seqN bs l, false, 3⟩) 10 (fun j hj => ?_)]
      · omega
      · rw [bAt_set (by omega)]
        by_cases ej : j = to'
        · subst ej; rw [if_pos rfl, r11]
        · rw [if_neg ej]
          have hsq : (bAt bs' j).seq = (bAt bs j).seq := by
            rcases r12 j hj (by omega) with e9 | ⟨_, e9⟩ <;> rw [e9] <;> exact (bsN_seq (by omega)).1
          rw [hsq]
    · exact absurd af r
theorem mends8_fn {n : Int} {bits : Sl Int} : Does Tryz.prog 6 [.int .i64 n, bits.val] (bits.hp tI ++ []) (fun v H => v = .bool true) := by
  obtain ⟨kk, hkk, hkl⟩ := and_le n 3 (by decide)
  have hkk' : ibits .and .i64 n 3 = (kk : Int) := hkk
  refine fn_enter (n := 137) Tryz.func6 Tryz.ntmps6 rfl (Nat.le_of_ble_eq_true rfl) <| s_seq <| s_region0 fun ops => oA rfl <| o_nil <| n_K <| s_seq <| s_seq <| s_region0 fun ops => ?_
  refine c_is rfl (speaks8_fn) sP rfl aQ ?_
  refine oR (rd_not rfl) <| o_nil <| n_K ?_
  refine s_condF rfl ?_
  refine s_skip <| n_K <| s_seq <| s_seq <| s_region0 fun ops => oM rfl <| oR (rd_lenS rfl) <| oR (rd_bin rfl rfl rfl) <| o_nil <| n_K ?_
  refine s_cond rfl (fun c24 => ?_) (fun c24 => ?_)
  · simp only [decide_eq_true_eq, decide_eq_false_iff_not] at c24
    refine s_seq <| s_region0 fun ops => oA rfl <| o_nil <| n_K <| s_ret <| r_K ?_
    exact leaf_r (rets1 Tryz.results6 (rv_tmp rfl)) (by rfl) sP
  · simp only [decide_eq_true_eq, decide_eq_false_iff_not] at c24
    have hbl : bits.list.length ≤ 20 := (by omega)
    refine s_skip <| n_K <| s_seq <| s_region0 fun ops => ?_
    refine c_ex rfl (laidX_fn (m := 16) (nb := 10) (q := ⟨0, fmtV (badL 16 []) ((16 : Nat) - 6 : Int) 16⟩) (fun _ => rfl) (by decide) rfl) sP rfl fun v25 Y25 h25 => ?_
    obtain ⟨lg, bb, d, bs, V, rfl, rfl, hX, h0, hF⟩ := h25
    refine so_ap aQ ?_
    refine oA rfl <| o_nil <| n_K <| s_seq <| s_seq <| s_region0 fun ops => oM rfl <| oR (rd_eqNil rfl rfl) <| o_nil <| n_K ?_
    refine s_condF rfl ?_
    refine s_skip <| n_K <| s_seq <| s_seq <| s_region0 fun ops => oA rfl <| o_nil <| n_K <| s_block ?_
    refine s_loop2 [0, 1, 5] kQ (fun (st : Nat × Dsk × List LB × Int) => [(6, .int .i64 st.1)]) (fun (st : Nat × Dsk × List LB × Int) => (lg, true, C (lgC st.2.1.dk bb 10 st.2.2.2) tLg) :: (bb, true, C (lbs st.2.2.1) tLB) :: (dkH st.2.1 ++ (bits.hp tI ++ []))) (fun (st : Nat × Dsk × List LB × Int) => st.1 ≤ 1 + kk ∧ ∃ V R, LX 16 10 (2000 + 80 * st.1) ⟨0, fmtV (badL 16 []) ((16 : Nat) - 6 : Int) 16⟩ st.2.1 st.2.2.1 st.2.2.2 V R ∧ Fill 10 st.2.2.1 st.2.2.2 R st.1) (fun (st : Nat × Dsk × List LB × Int) => 1 + kk - st.1) ((0, d, bs, -1)) ⟨Nat.zero_le _, V, _, hX, hF⟩ kP sP ?_
    rintro ⟨i, d1, cs, la⟩ ⟨g0, V1, R1, g1, g2⟩
    simp only at g0 g1 g2
    refine s_seq <| s_seq <| s_region0 fun ops => oM rfl <| oM rfl ?_
    refine oR (show Rd _ _ _ _ (.int .i64 (kk : Nat)) from by (rw [← hkk']; exact rd_bin rfl rfl rfl)) ?_
    refine oR (rd_add64 rfl rfl (by omega)) ?_
    refine oR (rd_bin rfl rfl rfl) <| o_nil <| n_K ?_
    refine s_cond rfl (fun c32 => ?_) (fun c32 => ?_)
    · simp only [decide_eq_true_eq, decide_eq_false_iff_not] at c32
      have hi : i < 1 + kk := (by omega)
      refine s_skip <| n_K <| s_seq <| s_block <| s_seq <| s_region0 fun ops => oM rfl <| oM rfl ?_
      refine oR (show Rd _ _ _ _ (bv (byteI (i : Nat))) from by (unfold bv; rw [← byte_i64]; exact rd_convI rfl)) ?_
      refine o_bslice_k rfl rfl rfl rfl fun b39 => ?_
      refine o_bslice_k rfl rfl rfl rfl fun b40 => ?_
      refine c_ex rfl (app1_fn g1 (by omega) (Nat.zero_le 3) (kind := 30) (x := byteI (i : Nat)) (b := b40) (a := b39) (right1 (by decide))) sP rfl fun v41 Y41 h41 => ?_
      obtain ⟨d', cs', la', e, pb, pj, R', rfl, rfl, hY, _, V', hX'⟩ := h41
      obtain ⟨_, rfl, rfl, hF'⟩ := (hY.fill g1 g2 (by decide)).resolve_right (fun h9 => by have := h9.1; omega)
      refine so_ap aQ ?_
      refine oM rfl <| oE rfl rfl <| oE rfl rfl ?_
      refine o_alloc rfl fun b7 => ?_
      refine o_store rfl rfl uD rfl rfl rfl ?_
      refine oA rfl <| o_nil <| n_K <| s_seq <| s_region0 fun ops => oM rfl <| oR (rd_bin rfl rfl rfl) <| o_nil <| n_K ?_
      refine s_cond rfl (fun c45 => ?_) (fun c45 => ?_)
      · skip
        try (exfalso; (simp at c45); done)
        all_goals
          refine s_seq <| s_region0 fun ops => oA rfl <| o_nil <| n_K <| s_ret <| r_blk <| r_K <| r_K <| r_blk <| r_K ?_
          exact leaf_r (rets1 Tryz.results6 (rv_tmp rfl)) (by simp [hpb]) sP
      · skip
        refine s_skip <| n_blk <| n_K <| s_region0 fun ops => oM rfl ?_
        refine oR (rd_add64 rfl rfl (by omega)) ?_
        refine oA rfl <| o_nil <| n_K ?_
        exact ⟨(i + 1, d', cs', la'), ⟨by simp only; omega, V', R', hX', hF'⟩, (by simp only; omega), lZ⟩
    · simp only [decide_eq_true_eq, decide_eq_false_iff_not] at c32
      have hi : i = 1 + kk := (by omega)
      subst hi
      obtain ⟨l, rfl⟩ : ∃ l : Nat, la = l := ⟨la.toNat, by have := g2.la; omega⟩
      obtain ⟨hl10, u⟩ := g1.used rfl
      have hrl := g2.rl l rfl
      have hfr : freeN cs 10 = 9 := (by have := g2.fr; omega)
      have hlen := g1.len
      have hnx := u.next
      have hbi := g1.bi hl10
      have hns := g2.ns l hl10 u.seq
      have hacc0 := g1.acc.1
      have hT0 : TurnI l (1 + kk) V1 V1 d1 (2000 + 80 * (1 + kk)) 0 0 := ⟨g1.dv, Nat.le_zero.1 hacc0, fun m hm => by rw [g1.acc.2 rfl]; exact fmt16 ⟨m, hm⟩, g1.af, fun _ _ => rfl, rfl, fun _ _ _ => rfl, u.mend0 hbi 8 (Nat.le_refl _)⟩
      refine s_exit <| x_K <| x_K <| x_blk <| n_K <| s_seq <| s_region0 fun ops => oM rfl ?_
      refine c_ex rfl (segmentsX_fn g1 (by omega)) sP rfl fun v47 Y47 h47 => ?_
      obtain ⟨s, l0, rfl, rfl, _, hso, hsp, _, _, hsl⟩ := h47
      obtain ⟨x0, hx0⟩ : ∃ x0, s.list[0]? = some x0 := ⟨_, List.getElem?_eq_getElem (by omega)⟩
      obtain ⟨j0, hj1, hj2, hj3, _⟩ := segs_at hsp hx0
      have hjl : j0 = l := Decidable.byContradiction (fun hne => by have := freeN_two hne hj3 u.seq 10 hj2 hl10; omega)
      refine so_ap aQ ?_
      refine oA rfl <| o_nil <| n_K <| s_seq <| s_region0 fun ops => oM rfl ?_
      refine oR (rd_ixSl (s := s) rfl rfl (by omega)) ?_
      refine oF rfl ?_
      refine oR (rd_ldSl (s := s) (o := 0) (v := .int .i64 (l : Nat)) rfl pL hx0 (by show some (Value.int .i64 x0.b) = _; rw [hj1, hjl]) rfl) ?_
      refine oA rfl <| oA rfl <| o_nil <| n_K <| s_seq <| s_seq <| s_region0 fun ops => oM rfl <| oR (rd_lenS rfl) <| oM rfl <| o_nil <| n_K <| s_block ?_
      refine s_loop2 [0, 1, 5, 10, 52, 53] kQ (fun (st : Nat × Dsk × Int) => [(54, .int .i64 st.1), (11, .int .i64 st.2.2)]) (fun (st : Nat × Dsk × Int) => (lg, true, C (lgC st.2.1.dk bb 10 (l : Nat)) tLg) :: (bb, true, C (lbs cs) tLB) :: (dkH st.2.1 ++ (bits.hp tI ++ []))) (fun (st : Nat × Dsk × Int) => st.1 ≤ bits.list.length ∧ ∃ V, TurnI l (1 + kk) V1 V st.2.1 (2000 + 80 * (1 + kk) + st.1) st.1 st.2.2) (fun (st : Nat × Dsk × Int) => bits.list.length - st.1) ((0, d1, 0)) ⟨Nat.zero_le _, V1, hT0⟩ kP sP ?_
      rintro ⟨m, d2, want⟩ ⟨p0, V2, p1⟩
      simp only at p0 p1
      have hwl := mendN_le (V2 l) 8
      rw [p1.want] at hwl
      refine s_seq <| s_region0 fun ops => oR (rd_bin rfl rfl rfl) <| o_nil <| n_K <| s_seq ?_
      refine s_cond rfl (fun c55 => ?_) (fun c55 => ?_)
      · simp only [decide_eq_true_eq, decide_eq_false_iff_not] at c55
        have hm : m < bits.list.length := (by omega)
        obtain ⟨z, hz⟩ : ∃ z, bits.list[m]? = some z := ⟨_, List.getElem?_eq_getElem hm⟩
        obtain ⟨zz, hzz, hzl⟩ := and_ffff z
        refine s_skip <| n_K <| s_seq <| s_block <| s_seq <| s_region0 fun ops => oM rfl ?_
        refine oR (rd_ixSl rfl rfl (by omega)) ?_
        refine oR (rd_ldSl (o := 0) rfl pL hz rfl rfl) ?_
        refine oA rfl <| oA rfl <| o_nil <| n_K <| s_seq ?_
        refine s_region [(5, 64)] rfl fun ops y => ?_
        refine oM rfl <| oM rfl ?_
        refine oR (show Rd _ _ _ _ (.int .i64 (kk : Nat)) from by (rw [← hkk']; exact rd_bin rfl rfl rfl)) ?_
        refine oR (rd_add64 rfl rfl (by omega)) ?_
        refine oR (rd_bin rfl rfl rfl) <| oM rfl ?_
        refine' o_and (j := 5) (k := 3) y rfl rfl rfl rfl rfl rfl rfl (fun hg64 => ?_) ?_
        rotate_left
        · try (simp at hg64; show _)
          refine o_g y rfl rfl ?_
          refine oM rfl ?_
          refine o_g y rfl rfl ?_
          refine oR (show Rd _ _ _ _ (.int .i64 (zz : Nat)) from by (rw [← hzz]; exact rd_bin rfl rfl rfl)) ?_
          refine o_g y rfl rfl ?_
          refine oR (rd_bin rfl rfl rfl) ?_
          exact o_nil ⟨rfl, rfl, ⟨_, sP⟩⟩
        refine o_nil <| n_K ?_
        refine s_cond rfl (fun c68 => ?_) (fun c68 => ?_)
        · skip
          have hc : m < 3 + kk ∧ zz < 2061 := (by simp at c68; omega)
          obtain ⟨hw, hT⟩ := p1.flip (x := zz) hl10 (by omega) (by omega) (u.fr (by omega)) (by omega)
          refine s_seq <| s_region0 fun ops => oM rfl <| oN rfl <| oF rfl ?_
          refine oR (rd_ld rfl mM rfl) ?_
          refine oN rfl <| oF rfl ?_
          refine oR (rd_dc (d := d2) rfl pL) ?_
          refine oM rfl ?_
          refine oR (show Rd _ _ _ _ (.int .i64 ((l + 2 : Nat) : Int)) from by (rw [Int.natCast_add]; exact rd_add64 rfl rfl (by omega))) ?_
          refine oM rfl <| oM rfl ?_
          refine oR (show Rd _ _ _ _ (.int .i64 (zz : Nat)) from by (rw [← hzz]; exact rd_bin rfl rfl rfl)) ?_
          refine c_is rfl (dk_flip (d := d2) hw (j := m) (by omega) (k := zz) (by omega)) sP rfl aQ ?_
          refine o_nil <| n_K <| s_region0 fun ops => oM rfl ?_
          refine oR (rd_add64 rfl rfl (by simp only; omega)) ?_
          refine oA rfl <| o_nil <| n_blk <| n_K <| s_region0 fun ops => ?_
          refine oR (rd_add64 rfl rfl (by omega)) ?_
          refine oM rfl <| o_nil <| n_K ?_
          first | exact ⟨(m + 1, ⟨d2.dk, d2.t, setB d2.c (l + 2) (setPg (V2 l) m (flipP ((V2 l).pages[m]'(by omega)) zz))⟩, want + 1), ⟨by simp only; omega, _, hT⟩, (by simp only; omega), lZ⟩ | exact ⟨(m + 1, d2, want), ⟨by simp only; omega, _, p1.skip⟩, (by simp only; omega), lZ⟩
        · skip
          refine s_skip <| n_blk <| n_K <| s_region0 fun ops => ?_
          refine oR (rd_add64 rfl rfl (by omega)) ?_
          refine oM rfl <| o_nil <| n_K ?_
          first | exact ⟨(m + 1, ⟨d2.dk, d2.t, setB d2.c (l + 2) (setPg (V2 l) m (flipP ((V2 l).pages[m]'(by omega)) zz))⟩, want + 1), ⟨by simp only; omega, _, hT⟩, (by simp only; omega), lZ⟩ | exact ⟨(m + 1, d2, want), ⟨by simp only; omega, _, p1.skip⟩, (by simp only; omega), lZ⟩
      · simp only [decide_eq_true_eq, decide_eq_false_iff_not] at c55
        have hsg : segB cs (l : Nat) = true := (by have := u.seq; unfold segB; simp; omega)
        have hsg1 : segB cs ((l : Int) + 1) = false := (by cases hb : segB cs ((l : Int) + 1) with | false => rfl | true => (obtain ⟨h7, h8⟩ := segB_in hb; have := freeN_two (i := l) (j := ((l : Int) + 1).toNat) (by omega) u.seq h8 10 hl10 (by omega); omega))
        refine s_exit <| x_K <| x_K <| x_blk <| n_K <| s_seq <| s_region0 fun ops => oM rfl <| oM rfl ?_
        refine c_is rfl ((mend_fn (d := d2) (nb := 10) (last := (l : Nat)) (b := (l : Nat)) p1.dv rfl hlen).to (by rw [if_pos hsg, if_pos hsg, Int.toNat_natCast, p1.want]) rfl) sP rfl aQ ?_
        refine oM rfl <| oE rfl rfl <| oE rfl rfl <| oA rfl <| oA rfl <| o_nil <| n_K <| s_seq <| s_region0 fun ops => oM rfl <| oM rfl ?_
        refine oR (rd_add64 rfl rfl (by omega)) ?_
        refine c_is rfl ((mend_fn (d := d2) (nb := 10) (last := (l : Nat)) (b := (l : Int) + 1) p1.dv rfl hlen).to (by rw [hsg1, if_neg (by decide), if_neg (by decide)]) rfl) sP rfl aQ ?_
        refine oM rfl <| oE rfl rfl <| oE rfl rfl <| oA rfl <| oA rfl <| o_nil <| n_K <| s_seq <| s_region0 fun ops => oM rfl ?_
        refine c_is rfl (shut_fn (nb := 10) (last := (l : Nat)) hlen (by omega)) sP rfl aQ ?_
        refine o_nil <| n_K <| s_seq <| s_region0 fun ops => oM rfl ?_
        refine c_ex rfl (appZ_fn (d := d2) (q := ⟨3, []⟩) (bs := bsN cs (l : Nat) 8) (last := (l : Nat)) p1.dv (by omega) (by decide) ⟨by have := p1.acc; show _ ≤ 3; omega, fun h9 => absurd h9 (by decide)⟩ rfl (by rw [bsN_len]; exact hlen) (by omega) (fun _ => by rw [Int.toNat_natCast, bsN_at (by omega), if_pos rfl]; exact ⟨u.seq, by show (2 : Int) ≤ 8; omega, Int.le_refl _⟩) (fun j hj hr => by rw [(bsN_seq (by omega)).2.2.1] at hr; rw [(bsN_seq (by omega)).2.2.2, (bsN_seq (by omega)).2.1, p1.oth j (fun e => by rw [e, u.ready] at hr; cases hr)]; exact g1.rdy j hj hr) (kind := 31) (right0 (by decide))) sP rfl fun v102 Y102 h102 => ?_
        obtain ⟨t3, c3, cs3, la3, e3, pb3, pj3, rfl, rfl, hA⟩ := h102
        obtain ⟨rfl, rfl, hpb, V3, hD3, hl3, hf3⟩ := mends_app g1 (by omega) hfr p1.af hA
        refine so_ap aQ ?_
        refine oM rfl <| oE rfl rfl <| oE rfl rfl ?_
        refine o_alloc rfl fun b18 => ?_
        refine o_store rfl rfl uD rfl rfl rfl ?_
        refine oA rfl <| o_nil <| n_K <| s_seq ?_
        refine s_region [(3, 108), (7, 112), (11, 116), (15, 120), (21, 126), (26, 131)] rfl fun ops y => ?_
        refine oM rfl <| oM rfl <| oR (rd_bin rfl rfl rfl) <| oM rfl ?_
        refine' o_and (j := 3) (k := 2) y rfl rfl rfl rfl rfl rfl rfl (fun hg108 => ?_) ?_
        rotate_left
        · try (simp at hg108; show _)
          refine o_g y rfl rfl ?_
          refine oM rfl ?_
          refine o_g y rfl rfl ?_
          refine oR (rd_bin rfl rfl rfl) ?_
          exact o_nil ⟨rfl, rfl, ⟨_, sP⟩⟩
        refine oM rfl ?_
        refine' o_and (j := 7) (k := 2) y rfl rfl rfl rfl rfl rfl rfl (fun hg112 => ?_) ?_
        rotate_left
        · try (simp at hg112; show _)
          refine o_g y rfl rfl ?_
          refine oM rfl ?_
          refine o_g y rfl rfl ?_
          refine oR (rd_bin rfl rfl rfl) ?_
          exact o_nil ⟨rfl, rfl, ⟨_, sP⟩⟩
        refine oM rfl ?_
        refine' o_and (j := 11) (k := 2) y rfl rfl rfl rfl rfl rfl rfl (fun hg116 => ?_) ?_
        rotate_left
        · try (simp at hg116; show _)
          refine o_g y rfl rfl ?_
          refine oM rfl ?_
          refine o_g y rfl rfl ?_
          refine oR (rd_bin rfl rfl rfl) ?_
          exact o_nil ⟨rfl, rfl, ⟨_, sP⟩⟩
        refine oM rfl ?_
        refine' o_and (j := 15) (k := 4) y rfl rfl rfl rfl rfl rfl rfl (fun hg120 => ?_) ?_
        rotate_left
        · try (simp at hg120; show _)
          refine o_g y rfl rfl ?_
          refine oF rfl ?_
          refine o_g y rfl rfl ?_
          refine oR (rd_ld rfl mM rfl) ?_
          refine o_g y rfl rfl ?_
          refine oM rfl ?_
          refine o_g y rfl rfl ?_
          refine oR (rd_bin rfl rfl rfl) ?_
          exact o_nil ⟨rfl, rfl, ⟨_, sP⟩⟩
        refine oM rfl ?_
        refine' o_and (j := 21) (k := 3) y rfl rfl rfl rfl rfl rfl rfl (fun hg126 => ?_) ?_
        rotate_left
        · try (simp at hg126; show _)
          refine o_g y rfl rfl ?_
          refine oF rfl ?_
          refine o_g y rfl rfl ?_
          refine oR (rd_ld rfl mM rfl) ?_
          refine o_g y rfl rfl ?_
          refine oR (rd_bin rfl rfl rfl) ?_
          exact o_nil ⟨rfl, rfl, ⟨_, sP⟩⟩
        refine oM rfl ?_
        refine' o_and (j := 26) (k := 4) y rfl rfl rfl rfl rfl rfl rfl (fun hg131 => ?_) ?_
        rotate_left
        · try (simp at hg131; show _)
          refine o_g y rfl rfl ?_
          refine oM rfl ?_
          refine o_g y rfl rfl ?_
          refine c_ex rfl (segments_fn (d := ⟨d2.dk, t3, c3⟩) (V := V3) (bs := cs3) (nb := 10) (last := la3) hD3 rfl (by decide) hl3 (by have := segsN_count (bs := cs3) V3 10; omega)) sP rfl fun v133 Y133 h133 => ?_
          obtain ⟨s3, l3, rfl, rfl, _, _, hsp3, _⟩ := h133
          have hsl3 : s3.list.length = 2 := (by have h8 := hsp3.length_eq; rw [List.length_map] at h8; have := segsN_count (bs := cs3) V3 10; omega)
          refine so_ap aQ ?_
          refine o_g y rfl rfl ?_
          refine oR (rdE (rd_lenS rfl) (show Value.int .i64 (s3.list.length : Int) = .int .i64 2 from by rw [hsl3]; rfl)) ?_
          refine o_g y rfl rfl ?_
          refine oR (rd_bin rfl rfl rfl) ?_
          exact o_nil ⟨rfl, rfl, ⟨_, sP⟩⟩
        refine oA rfl <| o_nil <| n_K <| s_ret ?_
        exact leaf_r (rets1 Tryz.results6 (rv_tmp rfl)) (by simp [hpb]) sP
end Go.Proofs.YtkfcpjohblddmaaGreat
end
