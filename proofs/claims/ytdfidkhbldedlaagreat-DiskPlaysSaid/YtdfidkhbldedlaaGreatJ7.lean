/- What the laws of disks stand on: contracts of the program's functions, and plain lemmas; the conditions are the statement's own: part 7. -/
import Derived.Test.YtdfidkhbldedlaaGreatJ5
import Derived.Test.YtdfidkhbldedlaaGreatJ6
section
/- Walk of the law DiskCuts. -/
namespace Go.Proofs.YtdfidkhbldedlaaGreat
open Go.K
set_option linter.unusedVariables false
set_option linter.unusedSimpArgs false
instance fld72_3 : Fld Tryz.prog 72 3 3 := ⟨⟨_, _, 0, Tryz.underlying72, rfl, by kernel_rfl, rfl⟩⟩
instance fld72_4 : Fld Tryz.prog 72 4 4 := ⟨⟨_, _, 0, Tryz.underlying72, rfl, by kernel_rfl, rfl⟩⟩
instance ent11 : Ent Tryz.prog 11 := ⟨fun _ _ => by kernel_rfl⟩
set_option maxRecDepth 20000
set_option maxHeartbeats 1000000
theorem DV.same {c c' : Chip} {t : TS} {n k : Nat} {V : Nat → Blk} (h : DV c t n k V) (hb : c'.blocks = c.blocks) (up : Up c') (hp : c'.pc = c.pc) (hw : c'.wc = c.wc) : DV c' t n k V :=
  ⟨⟨up, h.di.ti.same hb, h.di.wf, by rw [hb]; exact h.di.len, h.di.bs.same hb, ⟨by rw [hp]; exact h.di.cnt.p0, by rw [hw]; exact h.di.cnt.w0⟩, h.di.ver⟩, by rw [hb]; exact h.vw⟩
section
variable {d : Dsk}
theorem dk_off : Does Tryz.prog 39 [ptr d.c.aP] (dkH d) (Is (.bool d.c.off) (dkH d)) := by
  rw [dkH_eq, chH_eq]
  simp only [List.cons_append, List.append_assoc, List.nil_append]
  exact (off_fn (c := d.c)).inIs sP aQ sP
theorem dk_on : Does Tryz.prog 23 [ptr d.c.aP] (dkH d) (Is (.tuple #[]) (dkH ⟨d.dk, d.t, onC d.c⟩)) := by
  rw [dkH_eq, dkH_eq]
  exact (powOn_fn (c := d.c)).inIs sP aQ sP
theorem dk_cut {a k : Int} : Does Tryz.prog 22 [ptr d.c.aP, .int .i64 a, .int .i64 k] (dkH d) (Is (.tuple #[]) (dkH ⟨d.dk, d.t, cutC d.c a k⟩)) := by
  rw [dkH_eq, dkH_eq]
  exact (powCut_fn (c := d.c)).inIs sP aQ sP
end
structure CI (t : TS) (c : Chip) (bs : List RB) (k q : Nat) : Prop where
  dv : ∃ V, DV c t 24 k V ∧ RelD V bs 24
  acc : t.lost.length + FP c + FW c ≤ q
theorem CI.mono {t : TS} {c : Chip} {bs : List RB} {k k' q : Nat} (h : CI t c bs k q) (hk : k ≤ k') : CI t c bs k' q := by
  obtain ⟨V, h1, h2⟩ := h.dv
  exact ⟨⟨V, h1.mono hk, h2⟩, h.acc⟩
theorem CI.cut {t : TS} {c : Chip} {bs : List RB} {k q : Nat} (h : CI t c bs k q) (a p : Int) : CI t (cutC c a p) bs k q := by
  obtain ⟨V, h1, h2⟩ := h.dv
  exact ⟨⟨V, h1.same rfl ⟨h1.di.up.off, h1.di.up.dead, h1.di.up.out⟩ rfl rfl, h2⟩, h.acc⟩
/-- What there is behind the call in which the power went. -/
structure LI (c : Chip) (bs : List RB) (k q : Nat) : Prop where
  lt : ∃ V, Later c 24 k q V ∧ RelD V bs 24
  dead : c.dead = false
  out : c.out = false
theorem LI.open {c : Chip} {bs : List RB} {k q : Nat} (h : LI c bs k q) : (2 ≤ (onC c).blocks.length ∧ (onC c).blocks.length ≤ 1000) ∧ ∃ t2, openC (onC c) = (0, t2) ∧ CI t2 (onC c) bs k q := by
  obtain ⟨V, h1, h2⟩ := h.lt
  obtain ⟨t2, h3, h4, h5⟩ := h1 (onC c) rfl ⟨rfl, h.dead, h.out⟩ rfl rfl
  have := h4.di.len
  exact ⟨by omega, t2, h3, ⟨V, h4, h2⟩, h5⟩
theorem CI.len {t : TS} {c : Chip} {bs : List RB} {k q : Nat} (h : CI t c bs k q) : bs.length = 18 := by
  obtain ⟨V, _, h2⟩ := h.dv
  have := h2.len
  omega
theorem rk18 {rd rb : Nat} {bs : List RB} {X : Hp} (h : bs.length = 18) : rkH ⟨rd, rb, bs⟩ ++ X = (rd, true, C [.slice (some ⟨rb, 0, none⟩) 18 18] tRD) :: (rb, true, C (rbs bs) tRB) :: X := by
  simp only [rkH, rdc, h, List.cons_append, List.nil_append]
theorem rthere18 {rd rb : Nat} {bs : List RB} {b k : Int} (h : bs.length = 18) : Does Tryz.prog 36 [ptr rd, .int .i64 b, .int .i64 k] [(rd, true, C [.slice (some ⟨rb, 0, none⟩) 18 18] tRD), (rb, true, C (rbs bs) tRB)] (Is (.bool (rthere ⟨rd, rb, bs⟩ b k)) [(rd, true, C [.slice (some ⟨rb, 0, none⟩) 18 18] tRD), (rb, true, C (rbs bs) tRB)]) := by
  rw [← rk18 (rd := rd) (rb := rb) (bs := bs) (X := []) h, List.append_nil]
  exact rthere_fn
theorem rerase18 {rd rb : Nat} {bs : List RB} {b : Int} (h : bs.length = 18) (h0 : 0 ≤ b) (h1 : b < 18) : Does Tryz.prog 37 [ptr rd, .int .i64 b] [(rd, true, C [.slice (some ⟨rb, 0, none⟩) 18 18] tRD), (rb, true, C (rbs bs) tRB)] (Is (.tuple #[]) [(rd, true, C [.slice (some ⟨rb, 0, none⟩) 18 18] tRD), (rb, true, C (rbs (bs.set b.toNat eraRB)) tRB)]) := by
  rw [← rk18 (rd := rd) (rb := rb) (bs := bs) (X := []) h, ← rk18 (rd := rd) (rb := rb) (bs := bs.set b.toNat eraRB) (X := []) (by rw [List.length_set]; exact h), List.append_nil, List.append_nil]
  exact rerase_i (r := ⟨rd, rb, bs⟩) h0 (by show b < (bs.length : Int); omega)
theorem whole18 {d : Dsk} {rd rb k q : Nat} {bs : List RB} (h : CI d.t.ts d.c bs k q) : Does Tryz.prog 38 [ptr d.dk, ptr rd] (dkH d ++ ((rd, true, C [.slice (some ⟨rb, 0, none⟩) 18 18] tRD) :: (rb, true, C (rbs bs) tRB) :: [])) (Is (.bool true) (dkH d ++ ((rd, true, C [.slice (some ⟨rb, 0, none⟩) 18 18] tRD) :: (rb, true, C (rbs bs) tRB) :: []))) := by
  obtain ⟨V, h1, h2⟩ := h.dv
  rw [← rk18 (rd := rd) (rb := rb) (bs := bs) (X := []) h.len]
  exact whole_fn (r := ⟨rd, rb, bs⟩) h1 h2
theorem ci_prog {dk rd rb : Nat} {t : Tab} {c : Chip} {bs : List RB} {k q i : Nat} {o : Op7} (h : CI t.ts c bs k q) (hk : k ≤ 700000) (hq : q ≤ 3) (hnt : ∀ w, 0 ≤ o.block → bs[o.block.toNat]? = some w → w.torn = false) :
    Does Tryz.prog 35 [ptr dk, ptr rd, .agg (op7C o).toArray, .int .i64 (i : Nat)] (dkH ⟨dk, t, c⟩ ++ ((rd, true, C [.slice (some ⟨rb, 0, none⟩) 18 18] tRD) :: (rb, true, C (rbs bs) tRB) :: []))
    (fun v H => (∃ (t' : Tab) (c' : Chip) (bs' : List RB) (e : Int), v = .tuple #[.int .i64 e, .bool true] ∧ H = dkH ⟨dk, t', c'⟩ ++ ((rd, true, C [.slice (some ⟨rb, 0, none⟩) 18 18] tRD) :: (rb, true, C (rbs bs') tRB) :: []) ∧ c'.off = false ∧ CI t'.ts c' bs' (k + 20) q) ∨
      (∃ (t' : Tab) (c' : Chip) (bs' : List RB), v = .tuple #[.int .i64 30, .bool true] ∧ H = dkH ⟨dk, t', c'⟩ ++ ((rd, true, C [.slice (some ⟨rb, 0, none⟩) 18 18] tRD) :: (rb, true, C (rbs bs') tRB) :: []) ∧ c'.off = true ∧ LI c' bs' (k + 20) q)) := by
  obtain ⟨V, h1, h2⟩ := h.dv
  rw [← rk18 (rd := rd) (rb := rb) (bs := bs) h.len]
  refine (prog7_fn (d := ⟨dk, t, c⟩) (r := ⟨rd, rb, bs⟩) (i := i) (o := o) h1 hk h2 hq h.acc hnt).mono fun v H ⟨t', c', bs', e, V', q1, q2, q3, q4, q5, q6⟩ => ?_
  rw [rk18 (rd := rd) (rb := rb) (bs := bs') (by have := q3.len; omega)] at q2
  rcases q6 with ⟨q6, q7, q8⟩ | ⟨q6, q7, _, q8⟩
  · exact .inl ⟨t', c', bs', e, q1, q2, q7.di.up.off, ⟨V', q7, q3⟩, q8⟩
  · exact .inr ⟨t', c', bs', by rw [q1, q6], q2, q7, ⟨V', q8, q3⟩, q4.dead.trans h1.di.up.dead, q4.out.trans h1.di.up.out⟩
def tornT (bs : List RB) (b : Nat) : List RB := match bs[b]? with | some w => bs.set b { w with torn := true } | none => bs
theorem ci_erase {dk rd rb : Nat} {t : Tab} {c : Chip} {bs : List RB} {k q : Nat} {b : Int} (h : CI t.ts c bs k q) (hk : k ≤ 700000) (hq : q ≤ 3) (hth : rthere ⟨rd, rb, bs⟩ b 0 = true) :
    Does Tryz.prog 33 [ptr dk, .int .i64 b] (dkH ⟨dk, t, c⟩)
    (fun v H => (v = .int .i64 0 ∧ ∃ (t' : Tab) (c' : Chip), H = dkH ⟨dk, t', c'⟩ ++ [] ∧ c'.off = false ∧ CI t'.ts c' (bs.set b.toNat eraRB) (k + 20) q) ∨
      (v = .int .i64 30 ∧ ∃ (t' : Tab) (c' : Chip), H = dkH ⟨dk, t', c'⟩ ++ [] ∧ c'.off = true ∧ LI c' (tornT bs b.toNat) (k + 20) q)) := by
  obtain ⟨V, h1, h2⟩ := h.dv
  have hl := h2.len
  have hacc := h.acc
  refine (dk_erase (d := ⟨dk, t, c⟩) h1 (b := b)).mono fun v H ⟨t', c', e, q1, q2, q3⟩ => ?_
  obtain ⟨⟨hb0, hb1⟩, _⟩ := rthere_in hth
  simp only at hb1
  obtain ⟨n, rfl⟩ : ∃ n : Nat, b = n := ⟨b.toNat, by omega⟩
  obtain ⟨w0, hw0⟩ : ∃ w, bs[n]? = some w := ⟨_, List.getElem?_eq_getElem (by omega)⟩
  have h0 := h2.at' n w0 hw0
  obtain ⟨f, w, hw, hc⟩ := erase_view (b := n) h1 hk (by omega) (by omega) q3
  simp only at hc f
  rcases hc with ⟨r1, r2, r3, r4⟩ | ⟨r1, _, r3, r4⟩ | ⟨r1, r2, r3, r4⟩
  · refine .inl ⟨by rw [q1, r1], t', c', q2, r2.di.up.off, ⟨_, r2, ?_⟩, by omega⟩
    have hbi := (r2.blk (l := n) (by omega)).1
    rw [upV_at] at hbi
    exact h2.set (relB_era hbi r3)
  · omega
  · refine .inr ⟨by rw [q1, r1], t', c', q2, r2, ⟨upV V n w, fun d a1 a2 a3 a4 => ?_, ?_⟩, f.dead.trans h1.di.up.dead, f.out.trans h1.di.up.out⟩
    · obtain ⟨t2, x1, x2, x3⟩ := r4 d a1 a2 a3 a4
      exact ⟨t2, x1, x2, by omega⟩
    · unfold tornT
      rw [Int.toNat_natCast, hw0]
      refine h2.set ⟨fun e => (by cases e), h0.rng, fun j hj hs => ?_⟩
      obtain ⟨y1, y2⟩ := h0.pg j hj hs
      refine ⟨y1, ?_⟩
      rcases hw j hj with z | z
      · exact .inr ⟨rfl, z⟩
      · rcases y2 with y2 | ⟨_, y2⟩
        · exact .inl (z.trans y2)
        · exact .inr ⟨rfl, z.trans y2⟩
def tornAt (bs : List RB) (b : Nat) : Bool := match bs[b]? with | some w => w.torn | none => false
theorem rd_torn {bs : List RB} {b : Nat} (hb : b < bs.length) : nth (rbs bs) (b * 2074 + 2073) = some (.bool (tornAt bs b)) := by
  have hg : bs[b]? = some bs[b] := List.getElem?_eq_getElem hb
  unfold tornAt
  rw [hg]
  exact rbs_nth (o := 2073) hg (by omega) (rb_tail (o := 9) rbt_torn)
theorem set_tornE {bs : List RB} {b : Nat} (hb : b < bs.length) : splice (rbs (bs.set b eraRB)) (b * 2074 + 2073) [.bool false] = some (rbs (bs.set b eraRB)) := by
  have := rbs_set (o := 2073) (w := eraRB) (w' := { eraRB with torn := false }) (l := bs.set b eraRB) (k := b) (by simp [hb]) rb_setTorn
  rw [List.set_set] at this
  exact this
theorem set_tornT {bs : List RB} {b : Nat} (hb : b < bs.length) : splice (rbs bs) (b * 2074 + 2073) [.bool true] = some (rbs (tornT bs b)) := by
  have hg : bs[b]? = some bs[b] := List.getElem?_eq_getElem hb
  unfold tornT
  rw [hg]
  exact rbs_set (o := 2073) hg rb_setTorn
theorem tornT_len (bs : List RB) (b : Nat) : (tornT bs b).length = bs.length := by
  unfold tornT
  split <;> simp
theorem not_torn {bs : List RB} {rd rb : Nat} {b : Int} (h : (rthere ⟨rd, rb, bs⟩ b 0 && tornAt bs b.toNat) = false) : ∀ w, 0 ≤ b → bs[b.toNat]? = some w → w.torn = false := fun w h0 hw => by
  have hl := (List.getElem?_eq_some_iff.1 hw).1
  have hth : rthere ⟨rd, rb, bs⟩ b 0 = true := by unfold rthere; simp; omega
  rw [hth] at h
  unfold tornAt at h
  rw [hw] at h
  simpa using h
theorem New0.ci {d : Dsk} {s : Sl Int} (h : New0 d 24) : CI d.t.ts (failC d.c true s) (List.replicate 18 eraRB) 0 s.list.length := ⟨h.pi.dv, h.pi.acc⟩
theorem dcuts_fn {sc : Sl Op7} {fa : Sl Int} : Does Tryz.prog 11 [sc.val, fa.val] (sc.hp tO7 ++ (fa.hp tI ++ [])) (fun v H => v = .bool true) := by
  refine fn_enter (n := 174) Tryz.func11 Tryz.ntmps11 rfl (Nat.le_of_ble_eq_true rfl) <| s_seq <| s_region0 fun ops => oA rfl <| o_nil <| n_K <| s_seq <| s_seq <| s_region0 fun ops => ?_
  refine c_is rfl (speaks7_fn) sP rfl aQ ?_
  refine oR (rd_not rfl) <| o_nil <| n_K ?_
  refine s_condF rfl ?_
  refine s_skip <| n_K <| s_seq <| s_seq ?_
  refine s_region [(3, 20)] rfl fun ops y => ?_
  refine oM rfl <| oR (rd_lenS rfl) <| oR (rd_bin rfl rfl rfl) <| oM rfl ?_
  refine' o_or (j := 3) (k := 3) y rfl rfl rfl rfl rfl rfl rfl (fun hg20 => ?_) ?_
  rotate_left
  · try (simp at hg20; show _)
    refine o_g y rfl rfl ?_
    refine oM rfl ?_
    refine o_g y rfl rfl ?_
    refine oR (rd_lenS rfl) ?_
    refine o_g y rfl rfl ?_
    refine oR (rd_bin rfl rfl rfl) ?_
    exact o_nil ⟨rfl, rfl, ⟨_, sP⟩⟩
  refine o_nil <| n_K ?_
  refine s_cond rfl (fun c24 => ?_) (fun c24 => ?_)
  · simp only [Bool.or_eq_true, Bool.or_eq_false_iff, decide_eq_true_eq, decide_eq_false_iff_not] at c24
    refine s_seq <| s_region0 fun ops => oA rfl <| o_nil <| n_K <| s_ret <| r_K ?_
    exact leaf_r (rets1 Tryz.results11 (rv_tmp rfl)) (by rfl) sP
  · simp only [Bool.or_eq_true, Bool.or_eq_false_iff, decide_eq_true_eq, decide_eq_false_iff_not] at c24
    have hsc : sc.list.length ≤ 60 ∧ fa.list.length ≤ 2 := (by omega)
    refine s_skip <| n_K <| s_seq <| s_region0 fun ops => ?_
    refine c_ex rfl (dk_laid (m := 24) (by decide) fx24) sP rfl fun v25 Y25 h25 => ?_
    obtain ⟨d, rfl, rfl, hd⟩ := h25
    refine so_ap aQ ?_
    refine oA rfl <| o_nil <| n_K <| s_seq <| s_seq <| s_region0 fun ops => oM rfl <| oR (rd_eqNil rfl rfl) <| o_nil <| n_K ?_
    refine s_condF rfl ?_
    refine s_skip <| n_K <| s_seq <| s_region0 fun ops => ?_
    refine c_ex rfl (rnew_fn (n := 18) (by decide)) sP rfl fun v28 Y28 h28 => ?_
    obtain ⟨rd, rb, rfl, rfl⟩ := h28
    refine so_ap aQ ?_
    refine o_bslice_k rfl rfl rfl rfl fun b29 => ?_
    refine so_eq (own0 (α := Int) (b := b29) (T := tI)) ?_
    refine oA rfl <| oA rfl <| o_nil <| n_K <| s_seq <| s_seq <| s_region0 fun ops => oM rfl <| oR (rd_lenS rfl) <| oM rfl <| o_nil <| n_K <| s_block ?_
    refine s_loop2 [0, 5, 6, 30, 31] kQ (fun (st : Nat × Sl Int) => [(32, .int .i64 st.1), (7, st.2.val)]) (fun (st : Nat × Sl Int) => st.2.hp tI ++ ((rd, true, C [.slice (some ⟨rb, 0, none⟩) 18 18] tRD) :: (rb, true, C (rbs (List.replicate 18 eraRB)) tRB) :: (dkH d ++ (sc.hp tO7 ++ (fa.hp tI ++ []))))) (fun (st : Nat × Sl Int) => st.1 ≤ fa.list.length ∧ st.2.list.length = st.1 ∧ st.2.isOwn = true) (fun (st : Nat × Sl Int) => fa.list.length - st.1) ((0, mt Int b29)) ⟨Nat.zero_le _, rfl, rfl⟩ kP sP ?_
    rintro ⟨m, fs⟩ ⟨k0, k1, k2⟩
    simp only at k0 k1 k2
    refine s_seq <| s_region0 fun ops => oR (rd_bin rfl rfl rfl) <| o_nil <| n_K <| s_seq ?_
    refine s_cond rfl (fun c33 => ?_) (fun c33 => ?_)
    · simp only [decide_eq_true_eq, decide_eq_false_iff_not] at c33
      obtain ⟨z, hg⟩ : ∃ z, fa.list[m]? = some z := ⟨_, List.getElem?_eq_getElem (by omega)⟩
      obtain ⟨kk, hkk, hkl⟩ := and_le z 7 (by omega)
      refine s_skip <| n_K <| s_seq <| s_block <| s_seq <| s_region0 fun ops => oM rfl ?_
      refine oR (rd_ixSl rfl rfl (by omega)) ?_
      refine oR (rd_ldSl (o := 0) rfl pL hg rfl rfl) ?_
      refine oA rfl <| oA rfl <| o_nil <| n_K <| s_region0 fun ops => oM rfl <| oM rfl ?_
      refine oR (rd_mul64 rfl rfl (by omega)) ?_
      refine oM rfl ?_
      refine oR (show Rd _ _ _ _ (.int .i64 (kk : Nat)) from by (rw [← hkk]; exact rd_bin rfl rfl rfl)) ?_
      refine oR (rd_add64 rfl rfl (by omega)) ?_
      refine o_bslice_k rfl rfl rfl rfl fun b43 => ?_
      refine o_append_sl (s := fs) (new := [8 * (m : Int) + (kk : Nat)]) (m := 1) rfl rfl pL k2 (src_blk (r := true) mM rfl) rfl rfl rfl rfl (by omega) rfl fun fs' hs1 hs2 => ?_
      refine oA rfl <| o_nil <| n_blk <| n_K <| s_region0 fun ops => ?_
      refine oR (rd_add64 rfl rfl (by omega)) ?_
      refine oM rfl <| o_nil <| n_K ?_
      exact ⟨(m + 1, fs'), ⟨by simp only; omega, by rw [hs1]; simp; omega, hs2⟩, (by simp only; omega), lZ⟩
    · simp only [decide_eq_true_eq, decide_eq_false_iff_not] at c33
      have hq3 : fs.list.length ≤ 3 := (by omega)
      refine s_exit <| x_K <| x_K <| x_blk <| n_K <| s_seq <| s_region0 fun ops => oM rfl <| oN rfl <| oF rfl ?_
      refine oR (rd_dc (d := d) rfl pL) ?_
      refine oM rfl ?_
      refine c_ex rfl (dk_fail (d := d) (s := fs) (pr := true) (by omega)) sP rfl fun v51 Y51 h51 => ?_
      obtain ⟨s', rfl, rfl, hs'⟩ := h51
      refine so_ap aQ ?_
      refine o_nil <| n_K <| s_seq <| s_seq <| s_region0 fun ops => oM rfl <| oR (rd_lenS rfl) <| oM rfl <| o_nil <| n_K <| s_block ?_
      refine s_loop2 [6, 52, 53] kQ (fun (st : Nat × Nat × Tab × Chip × List RB) => [(54, .int .i64 st.1), (5, ptr st.2.1)]) (fun (st : Nat × Nat × Tab × Chip × List RB) => dkH ⟨st.2.1, st.2.2.1, st.2.2.2.1⟩ ++ ((rd, true, C [.slice (some ⟨rb, 0, none⟩) 18 18] tRD) :: (rb, true, C (rbs st.2.2.2.2) tRB) :: (sc.hp tO7 ++ []))) (fun (st : Nat × Nat × Tab × Chip × List RB) => st.1 ≤ sc.list.length ∧ CI st.2.2.1.ts st.2.2.2.1 st.2.2.2.2 (20 * st.1) fs.list.length) (fun (st : Nat × Nat × Tab × Chip × List RB) => sc.list.length - st.1) ((0, d.dk, d.t, failC d.c true s', List.replicate 18 eraRB)) ⟨Nat.zero_le _, by rw [← hs']; exact hd.ci⟩ kP sP ?_
      rintro ⟨i, dk, t1, c1, bs⟩ ⟨g0, g1⟩
      simp only at g0 g1
      have hbs := g1.len
      refine s_seq <| s_region0 fun ops => oR (rd_bin rfl rfl rfl) <| o_nil <| n_K <| s_seq ?_
      refine s_cond rfl (fun c55 => ?_) (fun c55 => ?_)
      · simp only [decide_eq_true_eq, decide_eq_false_iff_not] at c55
        obtain ⟨z, hg⟩ : ∃ z, sc.list[i]? = some z := ⟨_, List.getElem?_eq_getElem (by omega)⟩
        obtain ⟨kk, hkk, hkl⟩ := and_le z.kind 7 (by omega)
        refine s_skip <| n_K <| s_seq <| s_block <| s_seq <| s_region0 fun ops => oM rfl ?_
        refine oR (rd_ixSl rfl rfl (by omega)) ?_
        refine oR (rd_ldSlA (o := 0) rfl pL hg rfl rfl) ?_
        refine o_alloc rfl fun b11 => ?_
        refine oA rfl ?_
        refine o_store rfl rfl uD rfl rfl rfl ?_
        refine o_nil <| n_K <| s_seq <| s_region0 fun ops => oA rfl <| oA rfl <| o_nil <| n_K <| s_seq <| s_seq <| s_region0 fun ops => oF rfl ?_
        refine oR (rd_ld rfl mM rfl) ?_
        refine oR (show Rd _ _ _ _ (.int .i64 (kk : Nat)) from by (rw [← hkk]; exact rd_bin rfl rfl rfl)) ?_
        refine o_nil <| n_K <| s_block <| s_seq <| s_region0 fun ops => oR (rd_bin rfl rfl rfl) <| oA rfl <| o_nil <| n_K ?_
        refine s_cond rfl (fun c85 => ?_) (fun c85 => ?_)
        · simp only [decide_eq_true_eq, decide_eq_false_iff_not] at c85
          have hcut := g1.cut (ibits .and .i64 z.n 7) z.keep
          refine s_seq ?_
          refine s_draw [] [(12, [(0, false), (1, false), (2, false), (3, false), (4, false), (5, false), (6, false), (7, false), (8, false), (9, false), (10, false), (11, false)]), (13, [(12, true)])] (by kernel_rfl) rfl fun ops w0 H0 y => ?_
          refine p_all <| xM rfl <| xN rfl <| xF rfl ?_
          refine xR (rd_dc (d := ⟨dk, t1, c1⟩) rfl pL) ?_
          refine xN rfl <| xF rfl ?_
          refine xR (rd_dp (d := ⟨dk, t1, c1⟩) rfl pL) ?_
          refine xF rfl ?_
          refine xR (rd_ld rfl mM rfl) ?_
          refine xR (rd_bin rfl rfl rfl) <| xF rfl ?_
          refine xR (rd_ld rfl mM rfl) ?_
          refine x_nil <| p_none <| x_so ?_
          refine c_is rfl (dk_cut (d := ⟨dk, t1, c1⟩) (a := ibits .and .i64 z.n 7) (k := z.keep)) sP rfl aQ ?_
          refine o_nil ⟨rfl, ⟨_, sP⟩, ?_⟩
          refine x_nil <| p_end <| n_K <| s_exit <| x_blk' rfl <| x_K <| x_blk <| n_K <| s_region0 fun ops => ?_
          refine oR (rd_add64 rfl rfl (by omega)) ?_
          refine oM rfl <| o_nil <| n_K ?_
          first | exact ⟨(i + 1, dk2, tb, onC c', _), ⟨by simp only; omega, hC2⟩, by simp only; omega, kP, kP, _, (by first | exact sP)⟩ | exact ⟨(i + 1, dk, t', c', _), ⟨by simp only; omega, hCI⟩, by simp only; omega, lZ⟩ | exact ⟨(i + 1, dk, t1, cutC c1 (ibits .and .i64 z.n 7) z.keep, bs), ⟨by simp only; omega, hcut.mono (by simp only; omega)⟩, by simp only; omega, lZ⟩ | exact ⟨(i + 1, dk, t1, c1, bs), ⟨by simp only; omega, g1.mono (by simp only; omega)⟩, by simp only; omega, lZ⟩
        · simp only [decide_eq_true_eq, decide_eq_false_iff_not] at c85
          refine s_seq <| s_region0 fun ops => oR (rd_bin rfl rfl rfl) <| oA rfl <| o_nil <| n_K ?_
          refine s_cond rfl (fun c100 => ?_) (fun c100 => ?_)
          · simp only [decide_eq_true_eq, decide_eq_false_iff_not] at c100
            refine s_seq <| s_seq <| s_region0 fun ops => oM rfl <| oF rfl ?_
            refine oR (rd_ld rfl mM rfl) ?_
            refine c_is rfl (rthere18 (rb := rb) (bs := bs) (b := z.block) (k := 0) hbs) sP rfl aQ ?_
            refine oR (rd_not rfl) <| o_nil <| n_K ?_
            refine s_cond rfl (fun c106 => ?_) (fun c106 => ?_)
            · skip
              refine s_exit <| x_K <| x_blk' rfl <| x_K <| x_blk <| n_K <| s_region0 fun ops => ?_
              refine oR (rd_add64 rfl rfl (by omega)) ?_
              refine oM rfl <| o_nil <| n_K ?_
              first | exact ⟨(i + 1, dk2, tb, onC c', _), ⟨by simp only; omega, hC2⟩, by simp only; omega, kP, kP, _, (by first | exact sP)⟩ | exact ⟨(i + 1, dk, t', c', _), ⟨by simp only; omega, hCI⟩, by simp only; omega, lZ⟩ | exact ⟨(i + 1, dk, t1, cutC c1 (ibits .and .i64 z.n 7) z.keep, bs), ⟨by simp only; omega, hcut.mono (by simp only; omega)⟩, by simp only; omega, lZ⟩ | exact ⟨(i + 1, dk, t1, c1, bs), ⟨by simp only; omega, g1.mono (by simp only; omega)⟩, by simp only; omega, lZ⟩
            · skip
              have hth : rthere ⟨rd, rb, bs⟩ z.block 0 = true := (by simpa using c106)
              have hbz := (rthere_in hth).1
              have hbl : z.block.toNat < bs.length := (by have h9 : (RDk.mk rd rb bs).bs.length = bs.length := rfl; omega)
              refine s_skip <| n_K <| s_seq <| s_region0 fun ops => oM rfl <| oF rfl ?_
              refine oR (rd_ld rfl mM rfl) ?_
              refine c_ex rfl (ci_erase (dk := dk) (rd := rd) (rb := rb) (b := z.block) g1 (by omega) hq3 hth) sP rfl fun v110 Y110 h110 => ?_
              rcases h110 with ⟨rfl, t', c', rfl, hoff, hCI⟩ | ⟨rfl, t', c', rfl, hoff, hLI⟩
              all_goals
                refine so_ap aQ ?_
                refine oA rfl <| o_nil <| n_K <| s_seq ?_
                refine s_region [(2, 113)] rfl fun ops y => ?_
                refine oM rfl <| oR (rd_bin rfl rfl rfl) <| oM rfl ?_
                refine' o_or (j := 2) (k := 2) y rfl rfl rfl rfl rfl rfl rfl (fun hg113 => ?_) ?_
                rotate_left
                · try (simp at hg113; show _)
                  refine o_g y rfl rfl ?_
                  refine oM rfl ?_
                  refine o_g y rfl rfl ?_
                  refine oR (rd_bin rfl rfl rfl) ?_
                  exact o_nil ⟨rfl, rfl, ⟨_, sP⟩⟩
                refine oA rfl <| o_nil <| n_K <| s_seq <| s_seq <| s_region0 fun ops => oM rfl <| oR (rd_bin rfl rfl rfl) <| o_nil <| n_K ?_
                refine s_cond rfl (fun c118 => ?_) (fun c118 => ?_)
                · skip
                  try (exfalso; (cases c118); done)
                  all_goals
                    refine s_region0 fun ops => oM rfl <| oF rfl ?_
                    refine oR (rd_ld rfl mM rfl) ?_
                    refine c_is rfl (rerase18 (rb := rb) (bs := bs) (b := z.block) hbs hbz.1 (by have h9 : (RDk.mk rd rb bs).bs.length = bs.length := rfl; omega)) sP rfl aQ ?_
                    refine o_nil <| n_K ?_
                    refine s_draw [] [(10, [(0, false), (1, false), (2, false), (3, false), (4, false), (5, false), (6, false), (7, false), (8, false), (9, false)]), (11, [(10, true)])] (by kernel_rfl) rfl fun ops w0 H0 y => ?_
                    refine p_all <| xM rfl <| xN rfl <| xF rfl ?_
                    refine xR (rd_ld rfl mM rfl) ?_
                    refine xF rfl ?_
                    refine xR (rd_ld rfl mM rfl) ?_
                    refine xM rfl <| xR (rd_bin rfl rfl rfl) ?_
                    refine xR (rd_ixS0 rfl rfl (by first | omega | (simp only [List.length_set]; omega))) ?_
                    refine xF rfl <| x_nil <| p_none <| x_so ?_
                    first | refine o_store (cs' := rbs (bs.set z.block.toNat eraRB)) rfl rfl uD rfl rfl (set_tornE hbl) ?_ | refine o_store (cs' := rbs (tornT bs z.block.toNat)) rfl rfl uD rfl rfl (set_tornT hbl) ?_
                    refine o_nil ⟨rfl, ⟨_, sP⟩, ?_⟩
                    refine x_nil <| p_end <| n_blk <| n_K <| s_seq <| s_seq <| s_region0 fun ops => oM rfl <| oR (rd_not rfl) <| o_nil <| n_K ?_
                    refine s_cond rfl (fun c134 => ?_) (fun c134 => ?_)
                    · skip
                      try (exfalso; (simp at c134); done)
                      all_goals
                        refine s_seq <| s_region0 fun ops => oA rfl <| o_nil <| n_K <| s_ret <| r_K <| r_blk <| r_K <| r_K <| r_blk <| r_K ?_
                        exact leaf_r (rets1 Tryz.results11 (rv_tmp rfl)) (by rfl) sP
                    · skip
                      refine s_skip <| n_K <| s_seq <| s_seq <| s_region0 fun ops => oM rfl <| oN rfl <| oF rfl ?_
                      refine oR (rd_dc (d := ⟨dk, t', c'⟩) rfl pL) ?_
                      refine oN rfl <| oF rfl ?_
                      refine oR (rd_dp (d := ⟨dk, t', c'⟩) rfl pL) ?_
                      refine c_is rfl ((dk_off (d := ⟨dk, t', c'⟩)).to (by rw [hoff]) rfl) sP rfl aQ ?_
                      refine o_nil <| n_K ?_
                      refine s_cond rfl (fun c142 => ?_) (fun c142 => ?_)
                      · skip
                        try (exfalso; (cases c142); done)
                        all_goals
                          obtain ⟨hbk, t2, ho2, hC2⟩ := hLI.open
                          refine s_seq <| s_region0 fun ops => oM rfl <| oN rfl <| oF rfl ?_
                          refine oR (rd_dc (d := ⟨dk, t', c'⟩) rfl pL) ?_
                          refine oN rfl <| oF rfl ?_
                          refine oR (rd_dp (d := ⟨dk, t', c'⟩) rfl pL) ?_
                          refine c_is rfl (dk_on (d := ⟨dk, t', c'⟩)) sP rfl aQ ?_
                          refine o_nil <| n_K <| s_seq <| s_region0 fun ops => oA rfl <| o_nil <| n_K <| s_seq <| s_region0 fun ops => oM rfl <| oN rfl <| oF rfl ?_
                          refine oR (rd_dc (d := ⟨dk, t', onC c'⟩) rfl pL) ?_
                          refine c_ex rfl (dk_open (d := ⟨dk, t', onC c'⟩) hbk ho2) sP rfl fun v156 Y156 h156 => ?_
                          obtain ⟨dk2, tb, rfl, rfl, htb⟩ := h156
                          refine so_ap aQ ?_
                          refine oM rfl <| oE rfl rfl <| oE rfl rfl <| oA rfl <| oA rfl <| o_nil <| n_K <| s_seq ?_
                          refine s_region [(2, 161), (6, 165)] rfl fun ops y => ?_
                          refine oM rfl <| oR (rd_eqNil rfl rfl) <| oM rfl ?_
                          refine' o_or (j := 2) (k := 2) y rfl rfl rfl rfl rfl rfl rfl (fun hg161 => ?_) ?_
                          rotate_left
                          · try (simp at hg161; show _)
                            refine o_g y rfl rfl ?_
                            refine oM rfl ?_
                            refine o_g y rfl rfl ?_
                            refine oR (rd_bin rfl rfl rfl) ?_
                            exact o_nil ⟨rfl, rfl, ⟨_, sP⟩⟩
                          refine oM rfl ?_
                          refine' o_or (j := 6) (k := 2) y rfl rfl rfl rfl rfl rfl rfl (fun hg165 => ?_) ?_
                          rotate_left
                          · try (simp at hg165; show _)
                            refine o_g y rfl rfl ?_
                            refine oM rfl ?_
                            refine o_g y rfl rfl ?_
                            refine oR (rd_bin rfl rfl rfl) ?_
                            exact o_nil ⟨rfl, rfl, ⟨_, sP⟩⟩
                          refine o_nil <| n_K ?_
                          refine s_cond rfl (fun c168 => ?_) (fun c168 => ?_)
                          · skip
                            try (exfalso; (simp at c168); done)
                            all_goals
                              refine s_seq <| s_region0 fun ops => oA rfl <| o_nil <| n_K <| s_ret <| r_K <| r_blk <| r_K <| r_K <| r_blk <| r_K ?_
                              exact leaf_r (rets1 Tryz.results11 (rv_tmp rfl)) (by rfl) sP
                          · skip
                            rw [← htb] at hC2
                            refine s_skip <| n_K <| s_seq <| s_region0 fun ops => oM rfl <| oM rfl ?_
                            refine c_is rfl ((by first | exact whole18 (d := ⟨dk2, tb, onC c'⟩) (rd := rd) (rb := rb) hC2 | exact whole18 (d := ⟨dk, t', c'⟩) (rd := rd) (rb := rb) hCI)) sP rfl aQ ?_
                            refine oR (rd_not rfl) <| o_nil <| n_K ?_
                            refine s_condF rfl ?_
                            refine s_skip <| n_blk <| n_K <| s_region0 fun ops => ?_
                            refine oR (rd_add64 rfl rfl (by omega)) ?_
                            refine oM rfl <| o_nil <| n_K ?_
                            first | exact ⟨(i + 1, dk2, tb, onC c', _), ⟨by simp only; omega, hC2⟩, by simp only; omega, kP, kP, _, (by first | exact sP)⟩ | exact ⟨(i + 1, dk, t', c', _), ⟨by simp only; omega, hCI⟩, by simp only; omega, lZ⟩ | exact ⟨(i + 1, dk, t1, cutC c1 (ibits .and .i64 z.n 7) z.keep, bs), ⟨by simp only; omega, hcut.mono (by simp only; omega)⟩, by simp only; omega, lZ⟩ | exact ⟨(i + 1, dk, t1, c1, bs), ⟨by simp only; omega, g1.mono (by simp only; omega)⟩, by simp only; omega, lZ⟩
                      · skip
                        try (exfalso; (cases c142); done)
                        all_goals
                          refine s_skip <| n_K <| s_seq <| s_region0 fun ops => oM rfl <| oM rfl ?_
                          refine c_is rfl ((by first | exact whole18 (d := ⟨dk2, tb, onC c'⟩) (rd := rd) (rb := rb) hC2 | exact whole18 (d := ⟨dk, t', c'⟩) (rd := rd) (rb := rb) hCI)) sP rfl aQ ?_
                          refine oR (rd_not rfl) <| o_nil <| n_K ?_
                          refine s_condF rfl ?_
                          refine s_skip <| n_blk <| n_K <| s_region0 fun ops => ?_
                          refine oR (rd_add64 rfl rfl (by omega)) ?_
                          refine oM rfl <| o_nil <| n_K ?_
                          first | exact ⟨(i + 1, dk2, tb, onC c', _), ⟨by simp only; omega, hC2⟩, by simp only; omega, kP, kP, _, (by first | exact sP)⟩ | exact ⟨(i + 1, dk, t', c', _), ⟨by simp only; omega, hCI⟩, by simp only; omega, lZ⟩ | exact ⟨(i + 1, dk, t1, cutC c1 (ibits .and .i64 z.n 7) z.keep, bs), ⟨by simp only; omega, hcut.mono (by simp only; omega)⟩, by simp only; omega, lZ⟩ | exact ⟨(i + 1, dk, t1, c1, bs), ⟨by simp only; omega, g1.mono (by simp only; omega)⟩, by simp only; omega, lZ⟩
                · skip
                  try (exfalso; (cases c118); done)
                  all_goals
                    refine s_skip <| n_K ?_
                    refine s_draw [] [(10, [(0, false), (1, false), (2, false), (3, false), (4, false), (5, false), (6, false), (7, false), (8, false), (9, false)]), (11, [(10, true)])] (by kernel_rfl) rfl fun ops w0 H0 y => ?_
                    refine p_all <| xM rfl <| xN rfl <| xF rfl ?_
                    refine xR (rd_ld rfl mM rfl) ?_
                    refine xF rfl ?_
                    refine xR (rd_ld rfl mM rfl) ?_
                    refine xM rfl <| xR (rd_bin rfl rfl rfl) ?_
                    refine xR (rd_ixS0 rfl rfl (by first | omega | (simp only [List.length_set]; omega))) ?_
                    refine xF rfl <| x_nil <| p_none <| x_so ?_
                    first | refine o_store (cs' := rbs (bs.set z.block.toNat eraRB)) rfl rfl uD rfl rfl (set_tornE hbl) ?_ | refine o_store (cs' := rbs (tornT bs z.block.toNat)) rfl rfl uD rfl rfl (set_tornT hbl) ?_
                    refine o_nil ⟨rfl, ⟨_, sP⟩, ?_⟩
                    refine x_nil <| p_end <| n_blk <| n_K <| s_seq <| s_seq <| s_region0 fun ops => oM rfl <| oR (rd_not rfl) <| o_nil <| n_K ?_
                    refine s_cond rfl (fun c134 => ?_) (fun c134 => ?_)
                    · skip
                      try (exfalso; (simp at c134); done)
                      all_goals
                        refine s_seq <| s_region0 fun ops => oA rfl <| o_nil <| n_K <| s_ret <| r_K <| r_blk <| r_K <| r_K <| r_blk <| r_K ?_
                        exact leaf_r (rets1 Tryz.results11 (rv_tmp rfl)) (by rfl) sP
                    · skip
                      refine s_skip <| n_K <| s_seq <| s_seq <| s_region0 fun ops => oM rfl <| oN rfl <| oF rfl ?_
                      refine oR (rd_dc (d := ⟨dk, t', c'⟩) rfl pL) ?_
                      refine oN rfl <| oF rfl ?_
                      refine oR (rd_dp (d := ⟨dk, t', c'⟩) rfl pL) ?_
                      refine c_is rfl ((dk_off (d := ⟨dk, t', c'⟩)).to (by rw [hoff]) rfl) sP rfl aQ ?_
                      refine o_nil <| n_K ?_
                      refine s_cond rfl (fun c142 => ?_) (fun c142 => ?_)
                      · skip
                        try (exfalso; (cases c142); done)
                        all_goals
                          obtain ⟨hbk, t2, ho2, hC2⟩ := hLI.open
                          refine s_seq <| s_region0 fun ops => oM rfl <| oN rfl <| oF rfl ?_
                          refine oR (rd_dc (d := ⟨dk, t', c'⟩) rfl pL) ?_
                          refine oN rfl <| oF rfl ?_
                          refine oR (rd_dp (d := ⟨dk, t', c'⟩) rfl pL) ?_
                          refine c_is rfl (dk_on (d := ⟨dk, t', c'⟩)) sP rfl aQ ?_
                          refine o_nil <| n_K <| s_seq <| s_region0 fun ops => oA rfl <| o_nil <| n_K <| s_seq <| s_region0 fun ops => oM rfl <| oN rfl <| oF rfl ?_
                          refine oR (rd_dc (d := ⟨dk, t', onC c'⟩) rfl pL) ?_
                          refine c_ex rfl (dk_open (d := ⟨dk, t', onC c'⟩) hbk ho2) sP rfl fun v156 Y156 h156 => ?_
                          obtain ⟨dk2, tb, rfl, rfl, htb⟩ := h156
                          refine so_ap aQ ?_
                          refine oM rfl <| oE rfl rfl <| oE rfl rfl <| oA rfl <| oA rfl <| o_nil <| n_K <| s_seq ?_
                          refine s_region [(2, 161), (6, 165)] rfl fun ops y => ?_
                          refine oM rfl <| oR (rd_eqNil rfl rfl) <| oM rfl ?_
                          refine' o_or (j := 2) (k := 2) y rfl rfl rfl rfl rfl rfl rfl (fun hg161 => ?_) ?_
                          rotate_left
                          · try (simp at hg161; show _)
                            refine o_g y rfl rfl ?_
                            refine oM rfl ?_
                            refine o_g y rfl rfl ?_
                            refine oR (rd_bin rfl rfl rfl) ?_
                            exact o_nil ⟨rfl, rfl, ⟨_, sP⟩⟩
                          refine oM rfl ?_
                          refine' o_or (j := 6) (k := 2) y rfl rfl rfl rfl rfl rfl rfl (fun hg165 => ?_) ?_
                          rotate_left
                          · try (simp at hg165; show _)
                            refine o_g y rfl rfl ?_
                            refine oM rfl ?_
                            refine o_g y rfl rfl ?_
                            refine oR (rd_bin rfl rfl rfl) ?_
                            exact o_nil ⟨rfl, rfl, ⟨_, sP⟩⟩
                          refine o_nil <| n_K ?_
                          refine s_cond rfl (fun c168 => ?_) (fun c168 => ?_)
                          · skip
                            try (exfalso; (simp at c168); done)
                            all_goals
                              refine s_seq <| s_region0 fun ops => oA rfl <| o_nil <| n_K <| s_ret <| r_K <| r_blk <| r_K <| r_K <| r_blk <| r_K ?_
                              exact leaf_r (rets1 Tryz.results11 (rv_tmp rfl)) (by rfl) sP
                          · skip
                            rw [← htb] at hC2
                            refine s_skip <| n_K <| s_seq <| s_region0 fun ops => oM rfl <| oM rfl ?_
                            refine c_is rfl ((by first | exact whole18 (d := ⟨dk2, tb, onC c'⟩) (rd := rd) (rb := rb) hC2 | exact whole18 (d := ⟨dk, t', c'⟩) (rd := rd) (rb := rb) hCI)) sP rfl aQ ?_
                            refine oR (rd_not rfl) <| o_nil <| n_K ?_
                            refine s_condF rfl ?_
                            refine s_skip <| n_blk <| n_K <| s_region0 fun ops => ?_
                            refine oR (rd_add64 rfl rfl (by omega)) ?_
                            refine oM rfl <| o_nil <| n_K ?_
                            first | exact ⟨(i + 1, dk2, tb, onC c', _), ⟨by simp only; omega, hC2⟩, by simp only; omega, kP, kP, _, (by first | exact sP)⟩ | exact ⟨(i + 1, dk, t', c', _), ⟨by simp only; omega, hCI⟩, by simp only; omega, lZ⟩ | exact ⟨(i + 1, dk, t1, cutC c1 (ibits .and .i64 z.n 7) z.keep, bs), ⟨by simp only; omega, hcut.mono (by simp only; omega)⟩, by simp only; omega, lZ⟩ | exact ⟨(i + 1, dk, t1, c1, bs), ⟨by simp only; omega, g1.mono (by simp only; omega)⟩, by simp only; omega, lZ⟩
                      · skip
                        try (exfalso; (cases c142); done)
                        all_goals
                          refine s_skip <| n_K <| s_seq <| s_region0 fun ops => oM rfl <| oM rfl ?_
                          refine c_is rfl ((by first | exact whole18 (d := ⟨dk2, tb, onC c'⟩) (rd := rd) (rb := rb) hC2 | exact whole18 (d := ⟨dk, t', c'⟩) (rd := rd) (rb := rb) hCI)) sP rfl aQ ?_
                          refine oR (rd_not rfl) <| o_nil <| n_K ?_
                          refine s_condF rfl ?_
                          refine s_skip <| n_blk <| n_K <| s_region0 fun ops => ?_
                          refine oR (rd_add64 rfl rfl (by omega)) ?_
                          refine oM rfl <| o_nil <| n_K ?_
                          first | exact ⟨(i + 1, dk2, tb, onC c', _), ⟨by simp only; omega, hC2⟩, by simp only; omega, kP, kP, _, (by first | exact sP)⟩ | exact ⟨(i + 1, dk, t', c', _), ⟨by simp only; omega, hCI⟩, by simp only; omega, lZ⟩ | exact ⟨(i + 1, dk, t1, cutC c1 (ibits .and .i64 z.n 7) z.keep, bs), ⟨by simp only; omega, hcut.mono (by simp only; omega)⟩, by simp only; omega, lZ⟩ | exact ⟨(i + 1, dk, t1, c1, bs), ⟨by simp only; omega, g1.mono (by simp only; omega)⟩, by simp only; omega, lZ⟩
          · simp only [decide_eq_true_eq, decide_eq_false_iff_not] at c100
            refine s_seq <| s_seq ?_
            refine s_draw [(4, 66)] [(3, [(0, false), (1, false), (2, false)]), (4, [(3, true)]), (15, [(4, false), (5, false), (6, false), (7, false), (8, false), (9, false), (10, false), (11, false), (12, false), (13, false), (14, false)])] (by kernel_rfl) rfl fun ops w0 H0 y => ?_
            refine p_all <| xM rfl <| xF rfl ?_
            refine xR (rd_ld rfl mM rfl) ?_
            refine x_nil <| p_none <| x_so ?_
            refine c_is rfl (rthere18 (rb := rb) (bs := bs) (b := z.block) (k := 0) hbs) sP rfl aQ ?_
            refine o_nil ⟨rfl, ⟨_, sP⟩, ?_⟩
            refine x_nil <| p_all <| xM rfl ?_
            refine' x_and (j := 4) (k := 9) y rfl rfl rfl rfl rfl rfl rfl (fun hg66 => ?_) ?_
            rotate_left
            · try (simp at hg66; show _)
              refine x_g y rfl rfl ?_
              refine xM rfl ?_
              refine x_g y rfl rfl ?_
              refine xN rfl ?_
              refine x_g y rfl rfl ?_
              refine xF rfl ?_
              refine x_g y rfl rfl ?_
              refine xR (rd_ld rfl mM rfl) ?_
              refine x_g y rfl rfl ?_
              refine xF rfl ?_
              refine x_g y rfl rfl ?_
              refine xR (rd_ld rfl mM rfl) ?_
              refine x_g y rfl rfl ?_
              refine xR (rd_ixS0 rfl rfl (by have h8 := (rthere_in hg66).1; have h9 : (RDk.mk rd rb bs).bs.length = bs.length := rfl; omega)) ?_
              refine x_g y rfl rfl ?_
              refine xF rfl ?_
              refine x_g y rfl rfl ?_
              refine xR (show Rd _ _ _ _ (.bool (tornAt bs z.block.toNat)) from rd_ld rfl mM (rd_torn (by have h8 := (rthere_in hg66).1; have h9 : (RDk.mk rd rb bs).bs.length = bs.length := rfl; omega))) ?_
              exact x_nil ⟨rfl, ⟨_, sP⟩⟩
            refine x_nil <| p_end <| n_K ?_
            refine s_cond rfl (fun c76 => ?_) (fun c76 => ?_)
            · skip
              refine s_exit <| x_K <| x_blk' rfl <| x_K <| x_blk <| n_K <| s_region0 fun ops => ?_
              refine oR (rd_add64 rfl rfl (by omega)) ?_
              refine oM rfl <| o_nil <| n_K ?_
              first | exact ⟨(i + 1, dk2, tb, onC c', _), ⟨by simp only; omega, hC2⟩, by simp only; omega, kP, kP, _, (by first | exact sP)⟩ | exact ⟨(i + 1, dk, t', c', _), ⟨by simp only; omega, hCI⟩, by simp only; omega, lZ⟩ | exact ⟨(i + 1, dk, t1, cutC c1 (ibits .and .i64 z.n 7) z.keep, bs), ⟨by simp only; omega, hcut.mono (by simp only; omega)⟩, by simp only; omega, lZ⟩ | exact ⟨(i + 1, dk, t1, c1, bs), ⟨by simp only; omega, g1.mono (by simp only; omega)⟩, by simp only; omega, lZ⟩
            · skip
              refine s_skip <| n_K <| s_region0 fun ops => oM rfl <| oM rfl ?_
              refine oR (rd_ldA rfl mM rfl) ?_
              refine oM rfl ?_
              refine c_ex rfl (ci_prog (dk := dk) (rd := rd) (rb := rb) (i := i) (o := z) g1 (by omega) hq3 (not_torn (rd := rd) (rb := rb) c76)) sP rfl fun v82 Y82 h82 => ?_
              rcases h82 with ⟨t', c', bs', e, rfl, rfl, hoff, hCI⟩ | ⟨t', c', bs', rfl, rfl, hoff, hLI⟩
              all_goals
                refine so_ap aQ ?_
                refine oM rfl <| oE rfl rfl <| oE rfl rfl <| oA rfl <| oA rfl <| o_nil <| n_blk <| n_K <| s_seq <| s_seq <| s_region0 fun ops => oM rfl <| oR (rd_not rfl) <| o_nil ?_
                refine n_K ?_
                refine s_cond rfl (fun c134 => ?_) (fun c134 => ?_)
                · skip
                  try (exfalso; (simp at c134); done)
                  all_goals
                    refine s_seq <| s_region0 fun ops => oA rfl <| o_nil <| n_K <| s_ret <| r_K <| r_blk <| r_K <| r_K <| r_blk <| r_K ?_
                    exact leaf_r (rets1 Tryz.results11 (rv_tmp rfl)) (by rfl) sP
                · skip
                  refine s_skip <| n_K <| s_seq <| s_seq <| s_region0 fun ops => oM rfl <| oN rfl <| oF rfl ?_
                  refine oR (rd_dc (d := ⟨dk, t', c'⟩) rfl pL) ?_
                  refine oN rfl <| oF rfl ?_
                  refine oR (rd_dp (d := ⟨dk, t', c'⟩) rfl pL) ?_
                  refine c_is rfl ((dk_off (d := ⟨dk, t', c'⟩)).to (by rw [hoff]) rfl) sP rfl aQ ?_
                  refine o_nil <| n_K ?_
                  refine s_cond rfl (fun c142 => ?_) (fun c142 => ?_)
                  · skip
                    try (exfalso; (cases c142); done)
                    all_goals
                      obtain ⟨hbk, t2, ho2, hC2⟩ := hLI.open
                      refine s_seq <| s_region0 fun ops => oM rfl <| oN rfl <| oF rfl ?_
                      refine oR (rd_dc (d := ⟨dk, t', c'⟩) rfl pL) ?_
                      refine oN rfl <| oF rfl ?_
                      refine oR (rd_dp (d := ⟨dk, t', c'⟩) rfl pL) ?_
                      refine c_is rfl (dk_on (d := ⟨dk, t', c'⟩)) sP rfl aQ ?_
                      refine o_nil <| n_K <| s_seq <| s_region0 fun ops => oA rfl <| o_nil <| n_K <| s_seq <| s_region0 fun ops => oM rfl <| oN rfl <| oF rfl ?_
                      refine oR (rd_dc (d := ⟨dk, t', onC c'⟩) rfl pL) ?_
                      refine c_ex rfl (dk_open (d := ⟨dk, t', onC c'⟩) hbk ho2) sP rfl fun v156 Y156 h156 => ?_
                      obtain ⟨dk2, tb, rfl, rfl, htb⟩ := h156
                      refine so_ap aQ ?_
                      refine oM rfl <| oE rfl rfl <| oE rfl rfl <| oA rfl <| oA rfl <| o_nil <| n_K <| s_seq ?_
                      refine s_region [(2, 161), (6, 165)] rfl fun ops y => ?_
                      refine oM rfl <| oR (rd_eqNil rfl rfl) <| oM rfl ?_
                      refine' o_or (j := 2) (k := 2) y rfl rfl rfl rfl rfl rfl rfl (fun hg161 => ?_) ?_
                      rotate_left
                      · try (simp at hg161; show _)
                        refine o_g y rfl rfl ?_
                        refine oM rfl ?_
                        refine o_g y rfl rfl ?_
                        refine oR (rd_bin rfl rfl rfl) ?_
                        exact o_nil ⟨rfl, rfl, ⟨_, sP⟩⟩
                      refine oM rfl ?_
                      refine' o_or (j := 6) (k := 2) y rfl rfl rfl rfl rfl rfl rfl (fun hg165 => ?_) ?_
                      rotate_left
                      · try (simp at hg165; show _)
                        refine o_g y rfl rfl ?_
                        refine oM rfl ?_
                        refine o_g y rfl rfl ?_
                        refine oR (rd_bin rfl rfl rfl) ?_
                        exact o_nil ⟨rfl, rfl, ⟨_, sP⟩⟩
                      refine o_nil <| n_K ?_
                      refine s_cond rfl (fun c168 => ?_) (fun c168 => ?_)
                      · skip
                        try (exfalso; (simp at c168); done)
                        all_goals
                          refine s_seq <| s_region0 fun ops => oA rfl <| o_nil <| n_K <| s_ret <| r_K <| r_blk <| r_K <| r_K <| r_blk <| r_K ?_
                          exact leaf_r (rets1 Tryz.results11 (rv_tmp rfl)) (by rfl) sP
                      · skip
                        rw [← htb] at hC2
                        refine s_skip <| n_K <| s_seq <| s_region0 fun ops => oM rfl <| oM rfl ?_
                        refine c_is rfl ((by first | exact whole18 (d := ⟨dk2, tb, onC c'⟩) (rd := rd) (rb := rb) hC2 | exact whole18 (d := ⟨dk, t', c'⟩) (rd := rd) (rb := rb) hCI)) sP rfl aQ ?_
                        refine oR (rd_not rfl) <| o_nil <| n_K ?_
                        refine s_condF rfl ?_
                        refine s_skip <| n_blk <| n_K <| s_region0 fun ops => ?_
                        refine oR (rd_add64 rfl rfl (by omega)) ?_
                        refine oM rfl <| o_nil <| n_K ?_
                        first | exact ⟨(i + 1, dk2, tb, onC c', _), ⟨by simp only; omega, hC2⟩, by simp only; omega, kP, kP, _, (by first | exact sP)⟩ | exact ⟨(i + 1, dk, t', c', _), ⟨by simp only; omega, hCI⟩, by simp only; omega, lZ⟩ | exact ⟨(i + 1, dk, t1, cutC c1 (ibits .and .i64 z.n 7) z.keep, bs), ⟨by simp only; omega, hcut.mono (by simp only; omega)⟩, by simp only; omega, lZ⟩ | exact ⟨(i + 1, dk, t1, c1, bs), ⟨by simp only; omega, g1.mono (by simp only; omega)⟩, by simp only; omega, lZ⟩
                  · skip
                    try (exfalso; (cases c142); done)
                    all_goals
                      refine s_skip <| n_K <| s_seq <| s_region0 fun ops => oM rfl <| oM rfl ?_
                      refine c_is rfl ((by first | exact whole18 (d := ⟨dk2, tb, onC c'⟩) (rd := rd) (rb := rb) hC2 | exact whole18 (d := ⟨dk, t', c'⟩) (rd := rd) (rb := rb) hCI)) sP rfl aQ ?_
                      refine oR (rd_not rfl) <| o_nil <| n_K ?_
                      refine s_condF rfl ?_
                      refine s_skip <| n_blk <| n_K <| s_region0 fun ops => ?_
                      refine oR (rd_add64 rfl rfl (by omega)) ?_
                      refine oM rfl <| o_nil <| n_K ?_
                      first | exact ⟨(i + 1, dk2, tb, onC c', _), ⟨by simp only; omega, hC2⟩, by simp only; omega, kP, kP, _, (by first | exact sP)⟩ | exact ⟨(i + 1, dk, t', c', _), ⟨by simp only; omega, hCI⟩, by simp only; omega, lZ⟩ | exact ⟨(i + 1, dk, t1, cutC c1 (ibits .and .i64 z.n 7) z.keep, bs), ⟨by simp only; omega, hcut.mono (by simp only; omega)⟩, by simp only; omega, lZ⟩ | exact ⟨(i + 1, dk, t1, c1, bs), ⟨by simp only; omega, g1.mono (by simp only; omega)⟩, by simp only; omega, lZ⟩
      · simp only [decide_eq_true_eq, decide_eq_false_iff_not] at c55
        refine s_exit <| x_K <| x_K <| x_blk <| n_K <| s_seq <| s_region0 fun ops => oA rfl <| o_nil <| n_K <| s_ret ?_
        exact leaf_r (rets1 Tryz.results11 (rv_tmp rfl)) (by rfl) sP
end Go.Proofs.YtdfidkhbldedlaaGreat
end
