/- What the laws of disks stand on: contracts of the program's functions, and plain lemmas; the conditions are the statement's own: part 5. -/
import Derived.Test.YtdfidkhbldedlaaGreatJ3
import Derived.Test.YtdfidkhbldedlaaGreatJ4
import Derived.Test.YtdfidkhbldedlaaGreatJ1
section
/- Walk of the law BbtCuts. -/
namespace Go.Proofs.YtdfidkhbldedlaaGreat
open Go.K
set_option linter.unusedVariables false
set_option linter.unusedSimpArgs false
instance ent4 : Ent Tryz.prog 4 := ⟨fun _ _ => by kernel_rfl⟩
/-- The power is there again. -/
def onC (c : Chip) : Chip := { c with off := false, after := -1 }
def cutC (c : Chip) (a k : Int) : Chip := { c with after := max a (-1), keep := k }
/-- All that is known between two calls, whatever the power is to do. -/
structure JC (c : Chip) (t : TS) (u : List Int) (l : List Bool) (n k : Nat) : Prop where
  up : Up c
  ti : TI c t
  rel : RelT t u l n
  wf : WF n t.uses t.lost
  len : c.blocks.length = n
  ver : t.version.toNat ≤ k + 1
  cnt : Cnt c (1000 * k + 1000)
  pf : c.pf.list = []
  wfl : c.wf.list = []
theorem Hold.same {c c' : Chip} {v : Nat} {u l : List Int} {a : Nat} (h : Hold c v u l a) (hb : c'.blocks = c.blocks) : Hold c' v u l a :=
  ⟨by rw [hb]; exact h.ok, h.a2, by rw [hb]; exact h.bs, by rw [hb]; exact h.le, by rw [hb]; exact h.ex⟩
theorem TI.same {c c' : Chip} {t : TS} (h : TI c t) (hb : c'.blocks = c.blocks) : TI c' t := by
  obtain ⟨a, h1, h2, h3⟩ := h
  exact ⟨a, h1, h2.same hb, by rw [hb]; exact h3⟩
theorem JC.on {c : Chip} {t : TS} {u : List Int} {l : List Bool} {n k : Nat} (h : JC c t u l n k) : JC (onC c) t u l n k :=
  ⟨⟨rfl, h.up.dead, h.up.out⟩, h.ti.same rfl, h.rel, h.wf, h.len, h.ver, ⟨h.cnt.p0, h.cnt.w0⟩, h.pf, h.wfl⟩
theorem JC.cut {c : Chip} {t : TS} {u : List Int} {l : List Bool} {n k : Nat} (h : JC c t u l n k) (a q : Int) : JC (cutC c a q) t u l n k :=
  ⟨⟨h.up.off, h.up.dead, h.up.out⟩, h.ti.same rfl, h.rel, h.wf, h.len, h.ver, ⟨h.cnt.p0, h.cnt.w0⟩, h.pf, h.wfl⟩
theorem JC.mono {c : Chip} {t : TS} {u : List Int} {l : List Bool} {n k : Nat} (h : JC c t u l n k) : JC c t u l n (k + 1) :=
  ⟨h.up, h.ti, h.rel, h.wf, h.len, by have := h.ver; omega, ⟨by have := h.cnt.p0; push_cast; omega, by have := h.cnt.w0; push_cast; omega⟩, h.pf, h.wfl⟩
theorem JI.jc {c : Chip} {t : TS} {u : List Int} {l : List Bool} {n k : Nat} (h : JI c t u l n k) : JC c t u l n k := ⟨h.up, h.ti, h.rel, h.wf, h.len, h.ver, h.cnt, h.pf, h.wfl⟩
theorem JC.refS {c : Chip} {t : TS} {u : List Int} {l : List Bool} {n k : Nat} (h : JC c t u l n k) : u.length ≤ 1000 ∧ l.length ≤ 1000 ∧ ∀ x ∈ u, 0 ≤ x ∧ x < l.length := by
  have h1 := h.wf.n2
  have h2 := h.wf.len
  have h3 := h.rel.uu
  have h4 := h.rel.ll
  refine ⟨by rw [h3]; omega, by omega, fun x hx => ?_⟩
  rw [h3] at hx
  have := h.wf.us x hx
  omega
theorem JC.tabS {c : Chip} {t : Tab} {u : List Int} {l : List Bool} {n k : Nat} (h : JC c t.ts u l n k) : t.u.list.length ≤ 1000 ∧ t.l.list.length ≤ 11 ∧ 0 ≤ t.next ∧ (0 ≤ t.area ∧ t.area ≤ 1) := by
  have h1 := h.wf.n2
  have h2 : t.u.list.length + 6 = n := h.wf.len
  have h3 : t.l.list.length ≤ 4 := h.wf.lost4
  obtain ⟨a, h4, h5, b, h6, h7, h8⟩ := h.ti
  have h9 := h5.a2
  have h10 : t.area = a := h4
  have h11 : 0 ≤ t.next := h7
  omega
/-- What a call comes to, whenever the power goes. -/
theorem JC.keep {c : Chip} {t : TS} {u u' lost : List Int} {l l' : List Bool} {n k : Nat} {e : Int} {t' : TS} {c' : Chip} (h : JC c t u l n k) (hk : k ≤ 1000) (hr : (e, t', c') = keepC t u' lost c) (hw : WF n u' lost) (hn : lost.length = t.lost.length + 1) (hrel : ∀ t' : TS, t'.uses = u' → t'.lost = lost → RelT t' u' l' n) :
    (e = 0 ∧ JC c' t' u' l' n (k + 1)) ∨ (e = 30 ∧ ∃ t2, openC (onC c') = (0, t2) ∧ ((JC (onC c') t2 u l n (k + 1) ∧ ¬ t2.lost.length = l'.countP id) ∨ JC (onC c') t2 u' l' n (k + 1))) := by
  have hfp : FP c ≤ 7 := by unfold FP; rw [h.pf]; simp
  have hfw : FW c ≤ 3 := by unfold FW; rw [h.wfl]; simp
  obtain ⟨e2, t2, c2, h1, h2, h3, h4⟩ := keep_hold (u := u') (l := lost) (B := 1000 * k + 1000) h.up h.ti (by have := h.ver; omega) (by rw [h.len]; exact hw.okP) hfp hfw h.cnt (by omega)
  rw [h1] at hr
  simp only [Prod.mk.injEq] at hr
  obtain ⟨rfl, rfl, rfl⟩ := hr
  have p := h3.p0
  have q := h3.w0
  have hc : ∀ d : Chip, d.pc = c'.pc → d.wc = c'.wc → Cnt d (1000 * ((k + 1 : Nat) : Int) + 1000) := fun d h5 h6 => ⟨by rw [h5]; push_cast; omega, by rw [h6]; push_cast; omega⟩
  rcases h4 with ⟨h5, h6, h7, h8, h9, h10⟩ | ⟨h5, h6, h7, h8, h9⟩
  · exact .inl ⟨h5, h6, h7, hrel _ h8 h9, by rw [h8, h9]; exact hw, h2.len.trans h.len, by have := h.ver; omega, hc _ rfl rfl, by rw [h2.pf]; exact h.pf, by rw [h2.wf]; exact h.wfl⟩
  · have upo : Up (onC c') := ⟨rfl, h2.dead.trans h.up.dead, h2.out.trans h.up.out⟩
    have hlen : (onC c').blocks.length = n := h2.len.trans h.len
    have hpf : (onC c').pf.list = [] := by show c'.pf.list = []; rw [h2.pf]; exact h.pf
    have hwf : (onC c').wf.list = [] := by show c'.wf.list = []; rw [h2.wf]; exact h.wfl
    have hver := h.ver
    refine .inr ⟨h5, ?_⟩
    rcases h9 with ⟨a, hh⟩ | ⟨a, hh⟩
    · obtain ⟨t3, o1, o2, o3, o4, o5⟩ := open_hold upo (hh.same (c' := onC c') rfl)
      refine ⟨t3, o1, .inl ⟨⟨upo, o2, h.rel.of o3 o4, by rw [o3, o4]; exact h.wf, hlen, by omega, hc _ rfl rfl, hpf, hwf⟩, ?_⟩⟩
      have := (hrel ⟨u', lost, 0, 0, 0, 0⟩ rfl rfl).count
      rw [o4, this]
      show ¬ t.lost.length = lost.length
      omega
    · obtain ⟨t3, o1, o2, o3, o4, o5⟩ := open_hold upo (hh.same (c' := onC c') rfl)
      exact ⟨t3, o1, .inr ⟨upo, o2, hrel _ o3 o4, by rw [o3, o4]; exact hw, hlen, by omega, hc _ rfl rfl, hpf, hwf⟩⟩
theorem rd_pw {P : Program} {E : Env} {H F : Hp} {t : TypeId} {x : Operand} {c : Chip} {a : Nat} [ht : Agg P t false] (ha : c.aC = a) (hx : ev E x = some (.pointer (some ⟨a, 0, none⟩))) (hm : PickL (chH c) H F) : Rd P E H (.load t x) (ptr c.aP) := by
  subst ha
  exact rd_ld hx (hm.sub (by rw [chH_eq]; exact .tail _ (.head _))) rfl
theorem doC_fn {c : Chip} {t : Tab} {a n k : Nat} {u u' : List Int} {l l' : List Bool} {o : OpV} {b : Int} {ok : Bool} (ha : c.aC = a) (h : JC c t.ts u l n k) (hk : k ≤ 1000) (hst : StepR u l o b ok u' l') :
    Does Tryz.prog 19 [ptr t.b, .agg (opC o).toArray, .int .i64 b] (tabH a t ++ (chH c ++ []))
    (fun v H => (ok = false ∧ v = .int .i64 1 ∧ ∃ (t' : Tab) (c' : Chip), t'.b = t.b ∧ H = tabH a t' ++ (chH c' ++ []) ∧ c'.aC = a ∧ JC (onC c') t'.ts u l n (k + 1)) ∨
      (ok = true ∧ v = .int .i64 0 ∧ ∃ (t' : Tab) (c' : Chip), t'.b = t.b ∧ H = tabH a t' ++ (chH c' ++ []) ∧ c'.aC = a ∧ JC (onC c') t'.ts u' l' n (k + 1)) ∨
      (ok = true ∧ v = .int .i64 30 ∧ ∃ (t' : Tab) (c' : Chip) (t2 : TS), t'.b = t.b ∧ H = tabH a t' ++ (chH c' ++ []) ∧ c'.aC = a ∧ openC (onC c') = (0, t2) ∧ ((JC (onC c') t2 u l n (k + 1) ∧ ¬ t2.lost.length = l'.countP id) ∨ JC (onC c') t2 u' l' n (k + 1)))) := by
  obtain ⟨s1, s2, s3, s4⟩ := h.tabS
  refine (do_fn (o := o) (b := b) ha s1 s2 s3 s4).mono fun v H ⟨t', e, c', h1, h2, h3, h4, h5⟩ => ?_
  have hlen := h.len
  rcases do_step (by rw [hlen]; exact h.rel) (by rw [hlen]; exact h.wf) hst h5 with ⟨hok, hr⟩ | ⟨hok, lost, hr, hw, hn, hrel⟩
  · simp only [Prod.mk.injEq] at hr
    obtain ⟨rfl, hts, rfl⟩ := hr
    exact .inl ⟨hok, h2, t', c', h1, h3, h4, by rw [hts]; exact h.on.mono⟩
  · rw [hlen] at hw hrel
    rcases h.keep hk hr hw hn hrel with ⟨rfl, hJ⟩ | ⟨rfl, t2, ho, hJ⟩
    · exact .inr (.inl ⟨hok, h2, t', c', h1, h3, h4, hJ.on⟩)
    · exact .inr (.inr ⟨hok, h2, t', c', t2, h1, h3, h4, ho, hJ⟩)
theorem le_of_step {u u' : List Int} {l l' : List Bool} {o : OpV} {b : Int} {ok : Bool} (h : u.length ≤ 1000) (hs : StepR u l o b ok u' l') : u'.length ≤ 1000 := by
  cases hk : evn o.kind with
  | true => rw [(hs.1 hk).2.1]; exact h
  | false =>
    rw [(hs.2 hk).2.1]
    split
    · rw [List.length_set]; exact h
    · exact h
theorem sameC_fn {c : Chip} {t : Tab} {r : RTab} {a n k : Nat} (ha : c.aC = a) (h : JC c t.ts r.u.list r.l.list n k) : Does Tryz.prog 20 [ptr t.b, ptr r.b] (tabH a t ++ (chH c ++ (refH r ++ []))) (Is (.bool true) (tabH a t ++ (chH c ++ (refH r ++ [])))) :=
  sameR_fn ha h.len (by have := h.wf.n2; omega) h.refS.1 h.rel
theorem powOn_fn {c : Chip} : Does Tryz.prog 23 [ptr c.aP] (chH c) (Is (.tuple #[]) (chH (onC c))) := pwOn_fn
theorem powCut_fn {c : Chip} {a k : Int} : Does Tryz.prog 22 [ptr c.aP, .int .i64 a, .int .i64 k] (chH c) (Is (.tuple #[]) (chH (cutC c a k))) := cut_fn
theorem cuts_fn {sc : Sl OpV} {cu kp : Sl Int} : Does Tryz.prog 4 [sc.val, cu.val, kp.val] (sc.hp tOp ++ (cu.hp tI ++ (kp.hp tI ++ []))) (fun v H => v = .bool true) := by
  refine fn_enter (n := 138) Tryz.func4 Tryz.ntmps4 rfl (Nat.le_of_ble_eq_true rfl) <| s_seq <| s_region0 fun ops => oA rfl <| o_nil <| n_K <| s_seq <| s_seq <| s_region0 fun ops => ?_
  refine c_is rfl (speaks_fn) sP rfl aQ ?_
  refine oR (rd_not rfl) <| o_nil <| n_K ?_
  refine s_condF rfl ?_
  refine s_skip <| n_K <| s_seq <| s_seq ?_
  refine s_region [(3, 24), (8, 29)] rfl fun ops y => ?_
  refine oM rfl <| oR (rd_lenS rfl) <| oR (rd_bin rfl rfl rfl) <| oM rfl ?_
  refine' o_or (j := 3) (k := 3) y rfl rfl rfl rfl rfl rfl rfl (fun hg24 => ?_) ?_
  rotate_left
  · try (simp at hg24; show _)
    refine o_g y rfl rfl ?_
    refine oM rfl ?_
    refine o_g y rfl rfl ?_
    refine oR (rd_lenS rfl) ?_
    refine o_g y rfl rfl ?_
    refine oR (rd_bin rfl rfl rfl) ?_
    exact o_nil ⟨rfl, rfl, ⟨_, sP⟩⟩
  refine oM rfl ?_
  refine' o_or (j := 8) (k := 3) y rfl rfl rfl rfl rfl rfl rfl (fun hg29 => ?_) ?_
  rotate_left
  · try (simp at hg29; show _)
    refine o_g y rfl rfl ?_
    refine oM rfl ?_
    refine o_g y rfl rfl ?_
    refine oR (rd_lenS rfl) ?_
    refine o_g y rfl rfl ?_
    refine oR (rd_bin rfl rfl rfl) ?_
    exact o_nil ⟨rfl, rfl, ⟨_, sP⟩⟩
  refine o_nil <| n_K ?_
  refine s_cond rfl (fun c33 => ?_) (fun c33 => ?_)
  · skip
    refine s_seq <| s_region0 fun ops => oA rfl <| o_nil <| n_K <| s_ret <| r_K ?_
    exact leaf_r (rets1 Tryz.results4 (rv_tmp rfl)) (by rfl) sP
  · skip
    have hsc : sc.list.length ≤ 30 := (by simp at c33; omega)
    refine s_skip <| n_K <| s_seq <| s_region0 fun ops => ?_
    refine c_ex rfl (newPower_fn) sP rfl fun v35 Y35 h35 => ?_
    obtain ⟨p35, rfl, rfl⟩ := h35
    refine so_ap aQ ?_
    refine c_ex rfl (new0_fn (n := 24) (by decide)) sP rfl fun v36 Y36 h36 => ?_
    obtain ⟨aC, aB, rfl, rfl⟩ := h36
    refine so_ap aQ ?_
    refine oM rfl <| oE rfl rfl <| oE rfl rfl <| oA rfl <| oA rfl <| o_nil <| n_K <| s_seq <| s_seq <| s_region0 fun ops => oM rfl <| oR (rd_eqNil rfl rfl) <| o_nil <| n_K ?_
    refine s_condF rfl ?_
    refine s_skip <| n_K <| s_seq <| s_region0 fun ops => oM rfl ?_
    refine c_ex rfl (formatF_fn (pp := p35) (aC := aC) (aB := aB) (m := 24) (bad := []) (by decide) fx24) sP rfl fun v43 Y43 h43 => ?_
    obtain ⟨t, c', rfl, rfl, a1, a2, a3, a4⟩ := h43
    refine so_ap aQ ?_
    refine oM rfl <| oE rfl rfl <| oE rfl rfl <| oA rfl <| oA rfl <| o_nil <| n_K <| s_seq <| s_region0 fun ops => ?_
    refine o_make rfl rfl (by omega) rfl fun b46 => ?_
    refine c_ex rfl (rformatN_fn (n := 24) (by decide) fx24) sP rfl fun v47 Y47 h47 => ?_
    obtain ⟨r, rfl, rfl, hru, hrl, hou, hol⟩ := h47
    refine so_ap aQ ?_
    refine oA rfl <| o_nil <| n_K <| s_seq <| s_seq <| s_region0 fun ops => oM rfl <| oR (rd_eqNil rfl rfl) <| o_nil <| n_K ?_
    refine s_condF rfl ?_
    refine s_skip <| n_K <| s_seq <| s_seq <| s_region0 fun ops => oM rfl <| oR (rd_lenS rfl) <| oM rfl <| o_nil <| n_K <| s_block ?_
    refine s_loop2 [1, 2, 7, 50, 51] kQ (fun (st : Nat × Tab × Chip × RTab) => [(52, .int .i64 st.1), (9, ptr st.2.1.b), (11, ptr st.2.2.2.b)]) (fun (st : Nat × Tab × Chip × RTab) => tabH aC st.2.1 ++ (chH st.2.2.1 ++ (refH st.2.2.2 ++ (sc.hp tOp ++ (cu.hp tI ++ (kp.hp tI ++ [])))))) (fun (st : Nat × Tab × Chip × RTab) => st.1 ≤ sc.list.length ∧ st.2.2.1.aC = aC ∧ JC st.2.2.1 st.2.1.ts st.2.2.2.u.list st.2.2.2.l.list 24 st.1) (fun (st : Nat × Tab × Chip × RTab) => sc.list.length - st.1) ((0, t, c', r)) ⟨Nat.zero_le _, a1, by rw [hru, hrl]; exact a3.jc⟩ kP sP ?_
    rintro ⟨i, t1, c1, r1⟩ ⟨g0, g1, g2⟩
    simp only at g0 g1 g2
    refine s_seq <| s_region0 fun ops => oR (rd_bin rfl rfl rfl) <| o_nil <| n_K <| s_seq ?_
    refine s_cond rfl (fun c53 => ?_) (fun c53 => ?_)
    · simp only [decide_eq_true_eq, decide_eq_false_iff_not] at c53
      obtain ⟨z, hg⟩ : ∃ z, sc.list[i]? = some z := ⟨_, List.getElem?_eq_getElem (by omega)⟩
      refine s_skip <| n_K <| s_seq <| s_block <| s_seq <| s_region0 fun ops => oM rfl ?_
      refine oR (rd_ixSl rfl rfl (by omega)) ?_
      refine oR (rd_ldSlA (o := 0) rfl pL hg rfl rfl) ?_
      refine o_alloc rfl fun b13 => ?_
      refine oA rfl ?_
      refine o_store rfl rfl uD rfl rfl rfl ?_
      refine o_nil <| n_K <| s_seq <| s_region0 fun ops => oM rfl ?_
      refine oR (rd_ldA rfl mM rfl) ?_
      refine c_ex rfl (step_fn (r := r1) (o := z) (g2.refS).1 (g2.refS).2.1 (g2.refS).2.2) sP rfl fun v60 Y60 h60 => ?_
      obtain ⟨q, ok1, rfl, rfl, hq1, hq2, hst⟩ := h60
      refine so_ap aQ ?_
      refine oM rfl <| oE rfl rfl <| oE rfl rfl <| oE rfl rfl <| oA rfl <| oA rfl <| oA rfl <| o_nil <| n_K <| s_seq <| s_seq ?_
      refine s_region [(4, 68)] rfl fun ops y => ?_
      refine oM rfl <| oM rfl <| oR (rd_lenS rfl) <| oR (rd_bin rfl rfl rfl) <| oM rfl ?_
      refine' o_and (j := 4) (k := 4) y rfl rfl rfl rfl rfl rfl rfl (fun hg68 => ?_) ?_
      rotate_left
      · try (simp at hg68; show _)
        refine o_g y rfl rfl ?_
        refine oM rfl ?_
        refine o_g y rfl rfl ?_
        refine oM rfl ?_
        refine o_g y rfl rfl ?_
        refine oR (rd_lenS rfl) ?_
        refine o_g y rfl rfl ?_
        refine oR (rd_bin rfl rfl rfl) ?_
        exact o_nil ⟨rfl, rfl, ⟨_, sP⟩⟩
      refine o_nil <| n_K ?_
      refine s_cond rfl (fun c73 => ?_) (fun c73 => ?_)
      · skip
        have hin : (i : Int) < cu.list.length ∧ (i : Int) < kp.list.length := (by simpa using c73)
        obtain ⟨x1, hx1⟩ : ∃ x1, cu.list[i]? = some x1 := ⟨_, List.getElem?_eq_getElem (by omega)⟩
        obtain ⟨x2, hx2⟩ : ∃ x2, kp.list[i]? = some x2 := ⟨_, List.getElem?_eq_getElem (by omega)⟩
        refine s_draw [] [(13, [(0, false), (1, false), (2, false), (3, false), (4, false), (5, false), (6, false), (7, false), (8, false), (9, false), (10, false), (11, false), (12, false)]), (14, [(13, true)])] (by kernel_rfl) rfl fun ops w0 H0 y => ?_
        refine p_all <| xM rfl <| xN rfl <| xF rfl ?_
        refine xR (rd_pw g1 rfl pL) ?_
        refine xM rfl <| xM rfl ?_
        refine xR (rd_ixSl rfl rfl (by omega)) ?_
        refine xR (rd_ldSl (o := 0) rfl pL hx1 rfl rfl) ?_
        refine xR (rd_bin rfl rfl rfl) <| xM rfl <| xM rfl ?_
        refine xR (rd_ixSl rfl rfl (by omega)) ?_
        refine xR (rd_ldSl (o := 0) rfl pL hx2 rfl rfl) ?_
        refine x_nil <| p_none <| x_so ?_
        refine c_is rfl (powCut_fn (c := c1)) sP rfl aQ ?_
        refine o_nil ⟨rfl, ⟨_, sP⟩, ?_⟩
        refine x_nil <| p_end <| n_K <| s_seq <| s_region0 fun ops => oM rfl ?_
        refine oR (rd_ldA rfl mM rfl) ?_
        refine oM rfl ?_
        refine c_ex rfl ((by first | exact doC_fn (t := t1) (c := cutC c1 (ibits .and .i64 x1 3) x2) (o := z) g1 (g2.cut _ _) (by omega) hst | exact doC_fn (t := t1) (c := c1) (o := z) g1 g2 (by omega) hst)) sP rfl fun v91 Y91 h91 => ?_
        rcases h91 with ⟨rfl, rfl, t', c2, hb', rfl, ha', hJ⟩ | ⟨rfl, rfl, t', c2, hb', rfl, ha', hJ⟩ | ⟨rfl, rfl, t', c2, t2, hb', rfl, ha', ho2, hJ⟩
        all_goals
          refine so_ap aQ ?_
          refine oA rfl <| o_nil <| n_K <| s_seq <| s_seq ?_
          refine s_region [(1, 93)] rfl fun ops y => ?_
          refine oM rfl <| oM rfl ?_
          refine' o_and (j := 1) (k := 2) y rfl rfl rfl rfl rfl rfl rfl (fun hg93 => ?_) ?_
          rotate_left
          · try (simp at hg93; show _)
            refine o_g y rfl rfl ?_
            refine oM rfl ?_
            refine o_g y rfl rfl ?_
            refine oR (rd_bin rfl rfl rfl) ?_
            exact o_nil ⟨rfl, rfl, ⟨_, sP⟩⟩
          refine o_nil <| n_K ?_
          refine s_cond rfl (fun c96 => ?_) (fun c96 => ?_)
          · skip
            try (exfalso; (cases c96); done)
            all_goals
              refine s_region0 fun ops => oM rfl <| oA rfl <| o_nil <| n_K <| s_seq <| s_region0 fun ops => oM rfl <| oN rfl <| oF rfl ?_
              refine oR (rd_pw ha' rfl pL) ?_
              refine c_is rfl (powOn_fn (c := c2)) sP rfl aQ ?_
              refine o_nil <| n_K <| s_seq <| s_seq <| s_region0 fun ops => oM rfl <| oR (rd_bin rfl rfl rfl) <| o_nil <| n_K ?_
              refine s_cond rfl (fun c104 => ?_) (fun c104 => ?_)
              · skip
                try (exfalso; (cases c104); done)
                all_goals
                  rw [← hb']
                  refine s_seq <| s_seq ?_
                  refine s_region [(2, 107)] rfl fun ops y => ?_
                  refine oM rfl <| oR (rd_bin rfl rfl rfl) <| oM rfl ?_
                  refine' o_and (j := 2) (k := 2) y rfl rfl rfl rfl rfl rfl rfl (fun hg107 => ?_) ?_
                  rotate_left
                  · try (simp at hg107; show _)
                    refine o_g y rfl rfl ?_
                    refine oM rfl ?_
                    refine o_g y rfl rfl ?_
                    refine oR (rd_bin rfl rfl rfl) ?_
                    exact o_nil ⟨rfl, rfl, ⟨_, sP⟩⟩
                  refine o_nil <| n_K ?_
                  refine s_cond rfl (fun c110 => ?_) (fun c110 => ?_)
                  · skip
                    try (exfalso; (cases c110); done)
                    all_goals
                      refine s_seq <| s_region0 fun ops => oA rfl <| o_nil <| n_K <| s_ret <| r_K <| r_K <| r_blk <| r_K <| r_K <| r_blk <| r_K ?_
                      exact leaf_r (rets1 Tryz.results4 (rv_tmp rfl)) (by rfl) sP
                  · skip
                    try (exfalso; (cases c110); done)
                    all_goals
                      refine s_skip <| n_K <| s_exit <| x_K <| x_blk <| n_K <| s_region0 fun ops => ?_
                      refine oR (rd_add64 rfl rfl (by omega)) ?_
                      refine oM rfl <| o_nil <| n_K ?_
                      first | exact ⟨(i + 1, tb, onC c2, q), ⟨by simp only; omega, ha', hJn⟩, by simp only; omega, lZ⟩ | exact ⟨(i + 1, tb, onC c2, r1), ⟨by simp only; omega, ha', hJo⟩, by simp only; omega, lZ⟩ | exact ⟨(i + 1, t', onC c2, q), ⟨by simp only; omega, ha', hJ⟩, by simp only; omega, lZ⟩ | exact ⟨(i + 1, t', onC c2, r1), ⟨by simp only; omega, ha', hJ⟩, by simp only; omega, lZ⟩
              · skip
                try (exfalso; (cases c104); done)
                all_goals
                  have hl2 : (onC c2).blocks.length = 24 := (by rcases hJ with ⟨h, _⟩ | h <;> exact h.len)
                  refine s_skip <| n_K <| s_seq <| s_region0 fun ops => oA rfl <| o_nil <| n_K <| s_seq <| s_seq <| s_region0 fun ops => oM rfl ?_
                  refine c_ex rfl (open_b (c := onC c2) ha' (by omega) ho2) sP rfl fun v113 Y113 h113 => ?_
                  obtain ⟨tb, rfl, rfl, htb⟩ := h113
                  refine so_ap aQ ?_
                  refine oM rfl <| oE rfl rfl <| oE rfl rfl <| oA rfl <| oA rfl <| o_nil <| n_K <| s_seq ?_
                  refine s_region [(2, 118), (6, 122)] rfl fun ops y => ?_
                  refine oM rfl <| oR (rd_eqNil rfl rfl) <| oM rfl ?_
                  refine' o_or (j := 2) (k := 2) y rfl rfl rfl rfl rfl rfl rfl (fun hg118 => ?_) ?_
                  rotate_left
                  · try (simp at hg118; show _)
                    refine o_g y rfl rfl ?_
                    refine oM rfl ?_
                    refine o_g y rfl rfl ?_
                    refine oR (rd_bin rfl rfl rfl) ?_
                    exact o_nil ⟨rfl, rfl, ⟨_, sP⟩⟩
                  refine oM rfl ?_
                  refine' o_or (j := 6) (k := 2) y rfl rfl rfl rfl rfl rfl rfl (fun hg122 => ?_) ?_
                  rotate_left
                  · try (simp at hg122; show _)
                    refine o_g y rfl rfl ?_
                    refine oM rfl ?_
                    refine o_g y rfl rfl ?_
                    refine oR (rd_not rfl) ?_
                    exact o_nil ⟨rfl, rfl, ⟨_, sP⟩⟩
                  refine o_nil <| n_K ?_
                  refine s_condF rfl ?_
                  refine s_skip <| n_K <| s_seq <| s_seq <| s_region0 fun ops => oM rfl <| oM rfl ?_
                  refine c_ex rfl (same_fn (c := onC c2) (t := tb) (r := q) ha' (by omega) (by have := hq1; rcases hJ with ⟨h, _⟩ | h; exact (le_of_step g2.refS.1 hst); exact h.refS.1)) sP rfl fun v128 Y128 h128 => ?_
                  obtain ⟨x, rfl, rfl, hx3, hx4⟩ := h128
                  refine so_ap aQ ?_
                  refine o_nil <| n_K ?_
                  refine s_cond rfl (fun c128 => ?_) (fun c128 => ?_)
                  · skip
                    have hJn : JC (onC c2) tb.ts q.u.list q.l.list 24 (i + 1) := (by rcases hJ with ⟨h, hne⟩ | h; exact absurd ((hx4 (by rw [show tb.l.list = tb.ts.lost from rfl, htb]; exact hne)).symm.trans c128) (by decide); rw [htb]; exact h)
                    refine s_region0 fun ops => oM rfl <| oA rfl <| o_nil <| n_K <| s_seq <| s_region0 fun ops => oM rfl <| oM rfl ?_
                    refine c_is rfl ((by first | exact sameC_fn (c := onC c2) (t := tb) ha' hJn | exact sameC_fn (c := onC c2) (t := tb) ha' hJo)) sP rfl aQ ?_
                    refine oR (rd_not rfl) <| o_nil <| n_K ?_
                    refine s_condF rfl ?_
                    refine s_skip <| n_blk <| n_K <| s_region0 fun ops => ?_
                    refine oR (rd_add64 rfl rfl (by omega)) ?_
                    refine oM rfl <| o_nil <| n_K ?_
                    first | exact ⟨(i + 1, tb, onC c2, q), ⟨by simp only; omega, ha', hJn⟩, by simp only; omega, lZ⟩ | exact ⟨(i + 1, tb, onC c2, r1), ⟨by simp only; omega, ha', hJo⟩, by simp only; omega, lZ⟩ | exact ⟨(i + 1, t', onC c2, q), ⟨by simp only; omega, ha', hJ⟩, by simp only; omega, lZ⟩ | exact ⟨(i + 1, t', onC c2, r1), ⟨by simp only; omega, ha', hJ⟩, by simp only; omega, lZ⟩
                  · skip
                    have hJo : JC (onC c2) tb.ts r1.u.list r1.l.list 24 (i + 1) := (by rcases hJ with ⟨h, hne⟩ | h; rw [htb]; exact h; exact absurd ((hx3 (by rw [htb, hl2]; exact h.rel)).symm.trans c128) (by decide))
                    refine s_skip <| n_K <| s_seq <| s_region0 fun ops => oM rfl <| oM rfl ?_
                    refine c_is rfl ((by first | exact sameC_fn (c := onC c2) (t := tb) ha' hJn | exact sameC_fn (c := onC c2) (t := tb) ha' hJo)) sP rfl aQ ?_
                    refine oR (rd_not rfl) <| o_nil <| n_K ?_
                    refine s_condF rfl ?_
                    refine s_skip <| n_blk <| n_K <| s_region0 fun ops => ?_
                    refine oR (rd_add64 rfl rfl (by omega)) ?_
                    refine oM rfl <| o_nil <| n_K ?_
                    first | exact ⟨(i + 1, tb, onC c2, q), ⟨by simp only; omega, ha', hJn⟩, by simp only; omega, lZ⟩ | exact ⟨(i + 1, tb, onC c2, r1), ⟨by simp only; omega, ha', hJo⟩, by simp only; omega, lZ⟩ | exact ⟨(i + 1, t', onC c2, q), ⟨by simp only; omega, ha', hJ⟩, by simp only; omega, lZ⟩ | exact ⟨(i + 1, t', onC c2, r1), ⟨by simp only; omega, ha', hJ⟩, by simp only; omega, lZ⟩
          · skip
            try (exfalso; (cases c96); done)
            all_goals
              refine s_skip <| n_K <| s_seq <| s_region0 fun ops => oM rfl <| oN rfl <| oF rfl ?_
              refine oR (rd_pw ha' rfl pL) ?_
              refine c_is rfl (powOn_fn (c := c2)) sP rfl aQ ?_
              refine o_nil <| n_K <| s_seq <| s_seq <| s_region0 fun ops => oM rfl <| oR (rd_bin rfl rfl rfl) <| o_nil <| n_K ?_
              refine s_cond rfl (fun c104 => ?_) (fun c104 => ?_)
              · skip
                try (exfalso; (cases c104); done)
                all_goals
                  rw [← hb']
                  refine s_seq <| s_seq ?_
                  refine s_region [(2, 107)] rfl fun ops y => ?_
                  refine oM rfl <| oR (rd_bin rfl rfl rfl) <| oM rfl ?_
                  refine' o_and (j := 2) (k := 2) y rfl rfl rfl rfl rfl rfl rfl (fun hg107 => ?_) ?_
                  rotate_left
                  · try (simp at hg107; show _)
                    refine o_g y rfl rfl ?_
                    refine oM rfl ?_
                    refine o_g y rfl rfl ?_
                    refine oR (rd_bin rfl rfl rfl) ?_
                    exact o_nil ⟨rfl, rfl, ⟨_, sP⟩⟩
                  refine o_nil <| n_K ?_
                  refine s_cond rfl (fun c110 => ?_) (fun c110 => ?_)
                  · skip
                    try (exfalso; (cases c110); done)
                    all_goals
                      refine s_seq <| s_region0 fun ops => oA rfl <| o_nil <| n_K <| s_ret <| r_K <| r_K <| r_blk <| r_K <| r_K <| r_blk <| r_K ?_
                      exact leaf_r (rets1 Tryz.results4 (rv_tmp rfl)) (by rfl) sP
                  · skip
                    try (exfalso; (cases c110); done)
                    all_goals
                      refine s_skip <| n_K <| s_exit <| x_K <| x_blk <| n_K <| s_region0 fun ops => ?_
                      refine oR (rd_add64 rfl rfl (by omega)) ?_
                      refine oM rfl <| o_nil <| n_K ?_
                      first | exact ⟨(i + 1, tb, onC c2, q), ⟨by simp only; omega, ha', hJn⟩, by simp only; omega, lZ⟩ | exact ⟨(i + 1, tb, onC c2, r1), ⟨by simp only; omega, ha', hJo⟩, by simp only; omega, lZ⟩ | exact ⟨(i + 1, t', onC c2, q), ⟨by simp only; omega, ha', hJ⟩, by simp only; omega, lZ⟩ | exact ⟨(i + 1, t', onC c2, r1), ⟨by simp only; omega, ha', hJ⟩, by simp only; omega, lZ⟩
              · skip
                try (exfalso; (cases c104); done)
                all_goals
                  have hl2 : (onC c2).blocks.length = 24 := (by rcases hJ with ⟨h, _⟩ | h <;> exact h.len)
                  refine s_skip <| n_K <| s_seq <| s_region0 fun ops => oA rfl <| o_nil <| n_K <| s_seq <| s_seq <| s_region0 fun ops => oM rfl ?_
                  refine c_ex rfl (open_b (c := onC c2) ha' (by omega) ho2) sP rfl fun v113 Y113 h113 => ?_
                  obtain ⟨tb, rfl, rfl, htb⟩ := h113
                  refine so_ap aQ ?_
                  refine oM rfl <| oE rfl rfl <| oE rfl rfl <| oA rfl <| oA rfl <| o_nil <| n_K <| s_seq ?_
                  refine s_region [(2, 118), (6, 122)] rfl fun ops y => ?_
                  refine oM rfl <| oR (rd_eqNil rfl rfl) <| oM rfl ?_
                  refine' o_or (j := 2) (k := 2) y rfl rfl rfl rfl rfl rfl rfl (fun hg118 => ?_) ?_
                  rotate_left
                  · try (simp at hg118; show _)
                    refine o_g y rfl rfl ?_
                    refine oM rfl ?_
                    refine o_g y rfl rfl ?_
                    refine oR (rd_bin rfl rfl rfl) ?_
                    exact o_nil ⟨rfl, rfl, ⟨_, sP⟩⟩
                  refine oM rfl ?_
                  refine' o_or (j := 6) (k := 2) y rfl rfl rfl rfl rfl rfl rfl (fun hg122 => ?_) ?_
                  rotate_left
                  · try (simp at hg122; show _)
                    refine o_g y rfl rfl ?_
                    refine oM rfl ?_
                    refine o_g y rfl rfl ?_
                    refine oR (rd_not rfl) ?_
                    exact o_nil ⟨rfl, rfl, ⟨_, sP⟩⟩
                  refine o_nil <| n_K ?_
                  refine s_condF rfl ?_
                  refine s_skip <| n_K <| s_seq <| s_seq <| s_region0 fun ops => oM rfl <| oM rfl ?_
                  refine c_ex rfl (same_fn (c := onC c2) (t := tb) (r := q) ha' (by omega) (by have := hq1; rcases hJ with ⟨h, _⟩ | h; exact (le_of_step g2.refS.1 hst); exact h.refS.1)) sP rfl fun v128 Y128 h128 => ?_
                  obtain ⟨x, rfl, rfl, hx3, hx4⟩ := h128
                  refine so_ap aQ ?_
                  refine o_nil <| n_K ?_
                  refine s_cond rfl (fun c128 => ?_) (fun c128 => ?_)
                  · skip
                    have hJn : JC (onC c2) tb.ts q.u.list q.l.list 24 (i + 1) := (by rcases hJ with ⟨h, hne⟩ | h; exact absurd ((hx4 (by rw [show tb.l.list = tb.ts.lost from rfl, htb]; exact hne)).symm.trans c128) (by decide); rw [htb]; exact h)
                    refine s_region0 fun ops => oM rfl <| oA rfl <| o_nil <| n_K <| s_seq <| s_region0 fun ops => oM rfl <| oM rfl ?_
                    refine c_is rfl ((by first | exact sameC_fn (c := onC c2) (t := tb) ha' hJn | exact sameC_fn (c := onC c2) (t := tb) ha' hJo)) sP rfl aQ ?_
                    refine oR (rd_not rfl) <| o_nil <| n_K ?_
                    refine s_condF rfl ?_
                    refine s_skip <| n_blk <| n_K <| s_region0 fun ops => ?_
                    refine oR (rd_add64 rfl rfl (by omega)) ?_
                    refine oM rfl <| o_nil <| n_K ?_
                    first | exact ⟨(i + 1, tb, onC c2, q), ⟨by simp only; omega, ha', hJn⟩, by simp only; omega, lZ⟩ | exact ⟨(i + 1, tb, onC c2, r1), ⟨by simp only; omega, ha', hJo⟩, by simp only; omega, lZ⟩ | exact ⟨(i + 1, t', onC c2, q), ⟨by simp only; omega, ha', hJ⟩, by simp only; omega, lZ⟩ | exact ⟨(i + 1, t', onC c2, r1), ⟨by simp only; omega, ha', hJ⟩, by simp only; omega, lZ⟩
                  · skip
                    have hJo : JC (onC c2) tb.ts r1.u.list r1.l.list 24 (i + 1) := (by rcases hJ with ⟨h, hne⟩ | h; rw [htb]; exact h; exact absurd ((hx3 (by rw [htb, hl2]; exact h.rel)).symm.trans c128) (by decide))
                    refine s_skip <| n_K <| s_seq <| s_region0 fun ops => oM rfl <| oM rfl ?_
                    refine c_is rfl ((by first | exact sameC_fn (c := onC c2) (t := tb) ha' hJn | exact sameC_fn (c := onC c2) (t := tb) ha' hJo)) sP rfl aQ ?_
                    refine oR (rd_not rfl) <| o_nil <| n_K ?_
                    refine s_condF rfl ?_
                    refine s_skip <| n_blk <| n_K <| s_region0 fun ops => ?_
                    refine oR (rd_add64 rfl rfl (by omega)) ?_
                    refine oM rfl <| o_nil <| n_K ?_
                    first | exact ⟨(i + 1, tb, onC c2, q), ⟨by simp only; omega, ha', hJn⟩, by simp only; omega, lZ⟩ | exact ⟨(i + 1, tb, onC c2, r1), ⟨by simp only; omega, ha', hJo⟩, by simp only; omega, lZ⟩ | exact ⟨(i + 1, t', onC c2, q), ⟨by simp only; omega, ha', hJ⟩, by simp only; omega, lZ⟩ | exact ⟨(i + 1, t', onC c2, r1), ⟨by simp only; omega, ha', hJ⟩, by simp only; omega, lZ⟩
      · skip
        refine s_skip <| n_K <| s_seq <| s_region0 fun ops => oM rfl ?_
        refine oR (rd_ldA rfl mM rfl) ?_
        refine oM rfl ?_
        refine c_ex rfl ((by first | exact doC_fn (t := t1) (c := cutC c1 (ibits .and .i64 x1 3) x2) (o := z) g1 (g2.cut _ _) (by omega) hst | exact doC_fn (t := t1) (c := c1) (o := z) g1 g2 (by omega) hst)) sP rfl fun v91 Y91 h91 => ?_
        rcases h91 with ⟨rfl, rfl, t', c2, hb', rfl, ha', hJ⟩ | ⟨rfl, rfl, t', c2, hb', rfl, ha', hJ⟩ | ⟨rfl, rfl, t', c2, t2, hb', rfl, ha', ho2, hJ⟩
        all_goals
          refine so_ap aQ ?_
          refine oA rfl <| o_nil <| n_K <| s_seq <| s_seq ?_
          refine s_region [(1, 93)] rfl fun ops y => ?_
          refine oM rfl <| oM rfl ?_
          refine' o_and (j := 1) (k := 2) y rfl rfl rfl rfl rfl rfl rfl (fun hg93 => ?_) ?_
          rotate_left
          · try (simp at hg93; show _)
            refine o_g y rfl rfl ?_
            refine oM rfl ?_
            refine o_g y rfl rfl ?_
            refine oR (rd_bin rfl rfl rfl) ?_
            exact o_nil ⟨rfl, rfl, ⟨_, sP⟩⟩
          refine o_nil <| n_K ?_
          refine s_cond rfl (fun c96 => ?_) (fun c96 => ?_)
          · skip
            try (exfalso; (cases c96); done)
            all_goals
              refine s_region0 fun ops => oM rfl <| oA rfl <| o_nil <| n_K <| s_seq <| s_region0 fun ops => oM rfl <| oN rfl <| oF rfl ?_
              refine oR (rd_pw ha' rfl pL) ?_
              refine c_is rfl (powOn_fn (c := c2)) sP rfl aQ ?_
              refine o_nil <| n_K <| s_seq <| s_seq <| s_region0 fun ops => oM rfl <| oR (rd_bin rfl rfl rfl) <| o_nil <| n_K ?_
              refine s_cond rfl (fun c104 => ?_) (fun c104 => ?_)
              · skip
                try (exfalso; (cases c104); done)
                all_goals
                  rw [← hb']
                  refine s_seq <| s_seq ?_
                  refine s_region [(2, 107)] rfl fun ops y => ?_
                  refine oM rfl <| oR (rd_bin rfl rfl rfl) <| oM rfl ?_
                  refine' o_and (j := 2) (k := 2) y rfl rfl rfl rfl rfl rfl rfl (fun hg107 => ?_) ?_
                  rotate_left
                  · try (simp at hg107; show _)
                    refine o_g y rfl rfl ?_
                    refine oM rfl ?_
                    refine o_g y rfl rfl ?_
                    refine oR (rd_bin rfl rfl rfl) ?_
                    exact o_nil ⟨rfl, rfl, ⟨_, sP⟩⟩
                  refine o_nil <| n_K ?_
                  refine s_cond rfl (fun c110 => ?_) (fun c110 => ?_)
                  · skip
                    try (exfalso; (cases c110); done)
                    all_goals
                      refine s_seq <| s_region0 fun ops => oA rfl <| o_nil <| n_K <| s_ret <| r_K <| r_K <| r_blk <| r_K <| r_K <| r_blk <| r_K ?_
                      exact leaf_r (rets1 Tryz.results4 (rv_tmp rfl)) (by rfl) sP
                  · skip
                    try (exfalso; (cases c110); done)
                    all_goals
                      refine s_skip <| n_K <| s_exit <| x_K <| x_blk <| n_K <| s_region0 fun ops => ?_
                      refine oR (rd_add64 rfl rfl (by omega)) ?_
                      refine oM rfl <| o_nil <| n_K ?_
                      first | exact ⟨(i + 1, tb, onC c2, q), ⟨by simp only; omega, ha', hJn⟩, by simp only; omega, lZ⟩ | exact ⟨(i + 1, tb, onC c2, r1), ⟨by simp only; omega, ha', hJo⟩, by simp only; omega, lZ⟩ | exact ⟨(i + 1, t', onC c2, q), ⟨by simp only; omega, ha', hJ⟩, by simp only; omega, lZ⟩ | exact ⟨(i + 1, t', onC c2, r1), ⟨by simp only; omega, ha', hJ⟩, by simp only; omega, lZ⟩
              · skip
                try (exfalso; (cases c104); done)
                all_goals
                  have hl2 : (onC c2).blocks.length = 24 := (by rcases hJ with ⟨h, _⟩ | h <;> exact h.len)
                  refine s_skip <| n_K <| s_seq <| s_region0 fun ops => oA rfl <| o_nil <| n_K <| s_seq <| s_seq <| s_region0 fun ops => oM rfl ?_
                  refine c_ex rfl (open_b (c := onC c2) ha' (by omega) ho2) sP rfl fun v113 Y113 h113 => ?_
                  obtain ⟨tb, rfl, rfl, htb⟩ := h113
                  refine so_ap aQ ?_
                  refine oM rfl <| oE rfl rfl <| oE rfl rfl <| oA rfl <| oA rfl <| o_nil <| n_K <| s_seq ?_
                  refine s_region [(2, 118), (6, 122)] rfl fun ops y => ?_
                  refine oM rfl <| oR (rd_eqNil rfl rfl) <| oM rfl ?_
                  refine' o_or (j := 2) (k := 2) y rfl rfl rfl rfl rfl rfl rfl (fun hg118 => ?_) ?_
                  rotate_left
                  · try (simp at hg118; show _)
                    refine o_g y rfl rfl ?_
                    refine oM rfl ?_
                    refine o_g y rfl rfl ?_
                    refine oR (rd_bin rfl rfl rfl) ?_
                    exact o_nil ⟨rfl, rfl, ⟨_, sP⟩⟩
                  refine oM rfl ?_
                  refine' o_or (j := 6) (k := 2) y rfl rfl rfl rfl rfl rfl rfl (fun hg122 => ?_) ?_
                  rotate_left
                  · try (simp at hg122; show _)
                    refine o_g y rfl rfl ?_
                    refine oM rfl ?_
                    refine o_g y rfl rfl ?_
                    refine oR (rd_not rfl) ?_
                    exact o_nil ⟨rfl, rfl, ⟨_, sP⟩⟩
                  refine o_nil <| n_K ?_
                  refine s_condF rfl ?_
                  refine s_skip <| n_K <| s_seq <| s_seq <| s_region0 fun ops => oM rfl <| oM rfl ?_
                  refine c_ex rfl (same_fn (c := onC c2) (t := tb) (r := q) ha' (by omega) (by have := hq1; rcases hJ with ⟨h, _⟩ | h; exact (le_of_step g2.refS.1 hst); exact h.refS.1)) sP rfl fun v128 Y128 h128 => ?_
                  obtain ⟨x, rfl, rfl, hx3, hx4⟩ := h128
                  refine so_ap aQ ?_
                  refine o_nil <| n_K ?_
                  refine s_cond rfl (fun c128 => ?_) (fun c128 => ?_)
                  · skip
                    have hJn : JC (onC c2) tb.ts q.u.list q.l.list 24 (i + 1) := (by rcases hJ with ⟨h, hne⟩ | h; exact absurd ((hx4 (by rw [show tb.l.list = tb.ts.lost from rfl, htb]; exact hne)).symm.trans c128) (by decide); rw [htb]; exact h)
                    refine s_region0 fun ops => oM rfl <| oA rfl <| o_nil <| n_K <| s_seq <| s_region0 fun ops => oM rfl <| oM rfl ?_
                    refine c_is rfl ((by first | exact sameC_fn (c := onC c2) (t := tb) ha' hJn | exact sameC_fn (c := onC c2) (t := tb) ha' hJo)) sP rfl aQ ?_
                    refine oR (rd_not rfl) <| o_nil <| n_K ?_
                    refine s_condF rfl ?_
                    refine s_skip <| n_blk <| n_K <| s_region0 fun ops => ?_
                    refine oR (rd_add64 rfl rfl (by omega)) ?_
                    refine oM rfl <| o_nil <| n_K ?_
                    first | exact ⟨(i + 1, tb, onC c2, q), ⟨by simp only; omega, ha', hJn⟩, by simp only; omega, lZ⟩ | exact ⟨(i + 1, tb, onC c2, r1), ⟨by simp only; omega, ha', hJo⟩, by simp only; omega, lZ⟩ | exact ⟨(i + 1, t', onC c2, q), ⟨by simp only; omega, ha', hJ⟩, by simp only; omega, lZ⟩ | exact ⟨(i + 1, t', onC c2, r1), ⟨by simp only; omega, ha', hJ⟩, by simp only; omega, lZ⟩
                  · skip
                    have hJo : JC (onC c2) tb.ts r1.u.list r1.l.list 24 (i + 1) := (by rcases hJ with ⟨h, hne⟩ | h; rw [htb]; exact h; exact absurd ((hx3 (by rw [htb, hl2]; exact h.rel)).symm.trans c128) (by decide))
                    refine s_skip <| n_K <| s_seq <| s_region0 fun ops => oM rfl <| oM rfl ?_
                    refine c_is rfl ((by first | exact sameC_fn (c := onC c2) (t := tb) ha' hJn | exact sameC_fn (c := onC c2) (t := tb) ha' hJo)) sP rfl aQ ?_
                    refine oR (rd_not rfl) <| o_nil <| n_K ?_
                    refine s_condF rfl ?_
                    refine s_skip <| n_blk <| n_K <| s_region0 fun ops => ?_
                    refine oR (rd_add64 rfl rfl (by omega)) ?_
                    refine oM rfl <| o_nil <| n_K ?_
                    first | exact ⟨(i + 1, tb, onC c2, q), ⟨by simp only; omega, ha', hJn⟩, by simp only; omega, lZ⟩ | exact ⟨(i + 1, tb, onC c2, r1), ⟨by simp only; omega, ha', hJo⟩, by simp only; omega, lZ⟩ | exact ⟨(i + 1, t', onC c2, q), ⟨by simp only; omega, ha', hJ⟩, by simp only; omega, lZ⟩ | exact ⟨(i + 1, t', onC c2, r1), ⟨by simp only; omega, ha', hJ⟩, by simp only; omega, lZ⟩
          · skip
            try (exfalso; (cases c96); done)
            all_goals
              refine s_skip <| n_K <| s_seq <| s_region0 fun ops => oM rfl <| oN rfl <| oF rfl ?_
              refine oR (rd_pw ha' rfl pL) ?_
              refine c_is rfl (powOn_fn (c := c2)) sP rfl aQ ?_
              refine o_nil <| n_K <| s_seq <| s_seq <| s_region0 fun ops => oM rfl <| oR (rd_bin rfl rfl rfl) <| o_nil <| n_K ?_
              refine s_cond rfl (fun c104 => ?_) (fun c104 => ?_)
              · skip
                try (exfalso; (cases c104); done)
                all_goals
                  rw [← hb']
                  refine s_seq <| s_seq ?_
                  refine s_region [(2, 107)] rfl fun ops y => ?_
                  refine oM rfl <| oR (rd_bin rfl rfl rfl) <| oM rfl ?_
                  refine' o_and (j := 2) (k := 2) y rfl rfl rfl rfl rfl rfl rfl (fun hg107 => ?_) ?_
                  rotate_left
                  · try (simp at hg107; show _)
                    refine o_g y rfl rfl ?_
                    refine oM rfl ?_
                    refine o_g y rfl rfl ?_
                    refine oR (rd_bin rfl rfl rfl) ?_
                    exact o_nil ⟨rfl, rfl, ⟨_, sP⟩⟩
                  refine o_nil <| n_K ?_
                  refine s_cond rfl (fun c110 => ?_) (fun c110 => ?_)
                  · skip
                    try (exfalso; (cases c110); done)
                    all_goals
                      refine s_seq <| s_region0 fun ops => oA rfl <| o_nil <| n_K <| s_ret <| r_K <| r_K <| r_blk <| r_K <| r_K <| r_blk <| r_K ?_
                      exact leaf_r (rets1 Tryz.results4 (rv_tmp rfl)) (by rfl) sP
                  · skip
                    try (exfalso; (cases c110); done)
                    all_goals
                      refine s_skip <| n_K <| s_exit <| x_K <| x_blk <| n_K <| s_region0 fun ops => ?_
                      refine oR (rd_add64 rfl rfl (by omega)) ?_
                      refine oM rfl <| o_nil <| n_K ?_
                      first | exact ⟨(i + 1, tb, onC c2, q), ⟨by simp only; omega, ha', hJn⟩, by simp only; omega, lZ⟩ | exact ⟨(i + 1, tb, onC c2, r1), ⟨by simp only; omega, ha', hJo⟩, by simp only; omega, lZ⟩ | exact ⟨(i + 1, t', onC c2, q), ⟨by simp only; omega, ha', hJ⟩, by simp only; omega, lZ⟩ | exact ⟨(i + 1, t', onC c2, r1), ⟨by simp only; omega, ha', hJ⟩, by simp only; omega, lZ⟩
              · skip
                try (exfalso; (cases c104); done)
                all_goals
                  have hl2 : (onC c2).blocks.length = 24 := (by rcases hJ with ⟨h, _⟩ | h <;> exact h.len)
                  refine s_skip <| n_K <| s_seq <| s_region0 fun ops => oA rfl <| o_nil <| n_K <| s_seq <| s_seq <| s_region0 fun ops => oM rfl ?_
                  refine c_ex rfl (open_b (c := onC c2) ha' (by omega) ho2) sP rfl fun v113 Y113 h113 => ?_
                  obtain ⟨tb, rfl, rfl, htb⟩ := h113
                  refine so_ap aQ ?_
                  refine oM rfl <| oE rfl rfl <| oE rfl rfl <| oA rfl <| oA rfl <| o_nil <| n_K <| s_seq ?_
                  refine s_region [(2, 118), (6, 122)] rfl fun ops y => ?_
                  refine oM rfl <| oR (rd_eqNil rfl rfl) <| oM rfl ?_
                  refine' o_or (j := 2) (k := 2) y rfl rfl rfl rfl rfl rfl rfl (fun hg118 => ?_) ?_
                  rotate_left
                  · try (simp at hg118; show _)
                    refine o_g y rfl rfl ?_
                    refine oM rfl ?_
                    refine o_g y rfl rfl ?_
                    refine oR (rd_bin rfl rfl rfl) ?_
                    exact o_nil ⟨rfl, rfl, ⟨_, sP⟩⟩
                  refine oM rfl ?_
                  refine' o_or (j := 6) (k := 2) y rfl rfl rfl rfl rfl rfl rfl (fun hg122 => ?_) ?_
                  rotate_left
                  · try (simp at hg122; show _)
                    refine o_g y rfl rfl ?_
                    refine oM rfl ?_
                    refine o_g y rfl rfl ?_
                    refine oR (rd_not rfl) ?_
                    exact o_nil ⟨rfl, rfl, ⟨_, sP⟩⟩
                  refine o_nil <| n_K ?_
                  refine s_condF rfl ?_
                  refine s_skip <| n_K <| s_seq <| s_seq <| s_region0 fun ops => oM rfl <| oM rfl ?_
                  refine c_ex rfl (same_fn (c := onC c2) (t := tb) (r := q) ha' (by omega) (by have := hq1; rcases hJ with ⟨h, _⟩ | h; exact (le_of_step g2.refS.1 hst); exact h.refS.1)) sP rfl fun v128 Y128 h128 => ?_
                  obtain ⟨x, rfl, rfl, hx3, hx4⟩ := h128
                  refine so_ap aQ ?_
                  refine o_nil <| n_K ?_
                  refine s_cond rfl (fun c128 => ?_) (fun c128 => ?_)
                  · skip
                    have hJn : JC (onC c2) tb.ts q.u.list q.l.list 24 (i + 1) := (by rcases hJ with ⟨h, hne⟩ | h; exact absurd ((hx4 (by rw [show tb.l.list = tb.ts.lost from rfl, htb]; exact hne)).symm.trans c128) (by decide); rw [htb]; exact h)
                    refine s_region0 fun ops => oM rfl <| oA rfl <| o_nil <| n_K <| s_seq <| s_region0 fun ops => oM rfl <| oM rfl ?_
                    refine c_is rfl ((by first | exact sameC_fn (c := onC c2) (t := tb) ha' hJn | exact sameC_fn (c := onC c2) (t := tb) ha' hJo)) sP rfl aQ ?_
                    refine oR (rd_not rfl) <| o_nil <| n_K ?_
                    refine s_condF rfl ?_
                    refine s_skip <| n_blk <| n_K <| s_region0 fun ops => ?_
                    refine oR (rd_add64 rfl rfl (by omega)) ?_
                    refine oM rfl <| o_nil <| n_K ?_
                    first | exact ⟨(i + 1, tb, onC c2, q), ⟨by simp only; omega, ha', hJn⟩, by simp only; omega, lZ⟩ | exact ⟨(i + 1, tb, onC c2, r1), ⟨by simp only; omega, ha', hJo⟩, by simp only; omega, lZ⟩ | exact ⟨(i + 1, t', onC c2, q), ⟨by simp only; omega, ha', hJ⟩, by simp only; omega, lZ⟩ | exact ⟨(i + 1, t', onC c2, r1), ⟨by simp only; omega, ha', hJ⟩, by simp only; omega, lZ⟩
                  · skip
                    have hJo : JC (onC c2) tb.ts r1.u.list r1.l.list 24 (i + 1) := (by rcases hJ with ⟨h, hne⟩ | h; rw [htb]; exact h; exact absurd ((hx3 (by rw [htb, hl2]; exact h.rel)).symm.trans c128) (by decide))
                    refine s_skip <| n_K <| s_seq <| s_region0 fun ops => oM rfl <| oM rfl ?_
                    refine c_is rfl ((by first | exact sameC_fn (c := onC c2) (t := tb) ha' hJn | exact sameC_fn (c := onC c2) (t := tb) ha' hJo)) sP rfl aQ ?_
                    refine oR (rd_not rfl) <| o_nil <| n_K ?_
                    refine s_condF rfl ?_
                    refine s_skip <| n_blk <| n_K <| s_region0 fun ops => ?_
                    refine oR (rd_add64 rfl rfl (by omega)) ?_
                    refine oM rfl <| o_nil <| n_K ?_
                    first | exact ⟨(i + 1, tb, onC c2, q), ⟨by simp only; omega, ha', hJn⟩, by simp only; omega, lZ⟩ | exact ⟨(i + 1, tb, onC c2, r1), ⟨by simp only; omega, ha', hJo⟩, by simp only; omega, lZ⟩ | exact ⟨(i + 1, t', onC c2, q), ⟨by simp only; omega, ha', hJ⟩, by simp only; omega, lZ⟩ | exact ⟨(i + 1, t', onC c2, r1), ⟨by simp only; omega, ha', hJ⟩, by simp only; omega, lZ⟩
    · simp only [decide_eq_true_eq, decide_eq_false_iff_not] at c53
      refine s_exit <| x_K <| x_K <| x_blk <| n_K <| s_seq <| s_region0 fun ops => oM rfl <| oM rfl ?_
      refine c_is rfl (sameC_fn (c := c1) (t := t1) g1 g2) sP rfl aQ ?_
      refine oA rfl <| o_nil <| n_K <| s_ret ?_
      exact leaf_r (rets1 Tryz.results4 (rv_tmp rfl)) (by rfl) sP
end Go.Proofs.YtdfidkhbldedlaaGreat
end
section
/- Walks of package disk: the simple ones. -/
namespace Go.Proofs.YtdfidkhbldedlaaGreat
open Go.K
set_option linter.unusedVariables false
set_option linter.unusedSimpArgs false
instance agg62 : Agg Tryz.prog 62 true := ⟨⟨_, Tryz.underlying62, rfl⟩⟩
instance siz62 : Siz Tryz.prog 62 2 := ⟨by kernel_rfl⟩
instance fld62_0 : Fld Tryz.prog 62 0 0 := ⟨⟨_, _, 0, Tryz.underlying62, rfl, by kernel_rfl, rfl⟩⟩
instance fld62_1 : Fld Tryz.prog 62 1 1 := ⟨⟨_, _, 0, Tryz.underlying62, rfl, by kernel_rfl, rfl⟩⟩
instance ent30 : Ent Tryz.prog 30 := ⟨fun _ _ => by kernel_rfl⟩
instance ent31 : Ent Tryz.prog 31 := ⟨fun _ _ => by kernel_rfl⟩
instance ent64 : Ent Tryz.prog 64 := ⟨fun _ _ => by kernel_rfl⟩
instance ent72 : Ent Tryz.prog 72 := ⟨fun _ _ => by kernel_rfl⟩
instance ent109 : Ent Tryz.prog 109 := ⟨fun _ _ => by kernel_rfl⟩
abbrev tDk : TypeId := 62
/-- A logical block's block, or one that there isn't. -/
def atD (t : TS) (b : Int) : Int := if (atT t b).2 = true then (atT t b).1 else -1
/-- A page as it should stand. -/
def mendP (p : Pg) : Pg := if (readF p).2.2.2 ≠ 0 ∨ (readF p).2.2.1 = 0 then p else (writeF (readF p).1 (readF p).2.1).1
section
variable {c : Chip} {t : Tab} {a dk : Nat}
theorem dat_fn {b : Int} : Does Tryz.prog 64 [ptr dk, .int .i64 b] ((dk, true, C [ptr a, ptr t.b] tDk) :: (tabH a t ++ [])) (Is (.int .i64 (atD t.ts b)) ((dk, true, C [ptr a, ptr t.b] tDk) :: (tabH a t ++ []))) := by
  refine fn_enter (n := 19) Tryz.func64 Tryz.ntmps64 rfl (Nat.le_of_ble_eq_true rfl) <| s_seq <| s_region0 fun ops => oA rfl <| o_nil <| n_K <| s_seq <| s_region0 fun ops => oM rfl <| oN rfl <| oF rfl ?_
  refine oR (rd_ld rfl mM rfl) ?_
  refine oM rfl ?_
  refine c_is rfl (at_fn (a := a) (t := t)) sP rfl aQ ?_
  refine oM rfl <| oE rfl rfl <| oE rfl rfl <| oA rfl <| oA rfl <| o_nil <| n_K <| s_seq <| s_seq <| s_region0 fun ops => oM rfl <| oR (rd_not rfl) <| o_nil <| n_K ?_
  refine s_cond rfl (fun c17 => ?_) (fun c17 => ?_)
  · skip
    have hres : atD t.ts b = -1 := (by unfold atD; rw [if_neg (by simpa using c17)])
    refine s_seq <| s_region0 fun ops => oA rfl <| o_nil <| n_K <| s_ret <| r_K ?_
    refine leaf_is (rets1 Tryz.results64 (rv_tmp rfl)) ?_ sP
    rw [hres]
  · skip
    have hres : atD t.ts b = (atT t.ts b).1 := (by unfold atD; rw [if_pos (by simpa using c17)])
    refine s_skip <| n_K <| s_seq <| s_region0 fun ops => oM rfl <| oA rfl <| o_nil <| n_K <| s_ret ?_
    refine leaf_is (rets1 Tryz.results64 (rv_tmp rfl)) ?_ sP
    rw [hres]
theorem dlen_fn : Does Tryz.prog 72 [ptr dk] ((dk, true, C [ptr a, ptr t.b] tDk) :: (tabH a t ++ [])) (Is (.int .i64 t.u.list.length) ((dk, true, C [ptr a, ptr t.b] tDk) :: (tabH a t ++ []))) := by
  refine fn_enter (n := 8) Tryz.func72 Tryz.ntmps72 rfl (Nat.le_of_ble_eq_true rfl) <| s_seq <| s_region0 fun ops => oA rfl <| o_nil <| n_K <| s_seq <| s_region0 fun ops => oM rfl <| oN rfl <| oF rfl ?_
  refine oR (rd_ld rfl mM rfl) ?_
  refine c_is rfl (tlen_fn (a := a) (t := t)) sP rfl aQ ?_
  refine oA rfl <| o_nil <| n_K <| s_ret ?_
  refine leaf_is (rets1 Tryz.results72 (rv_tmp rfl)) ?_ sP
  rfl
theorem dlost_fn : Does Tryz.prog 30 [ptr dk] ((dk, true, C [ptr a, ptr t.b] tDk) :: (tabH a t ++ [])) (Is (.int .i64 t.l.list.length) ((dk, true, C [ptr a, ptr t.b] tDk) :: (tabH a t ++ []))) := by
  refine fn_enter (n := 8) Tryz.func30 Tryz.ntmps30 rfl (Nat.le_of_ble_eq_true rfl) <| s_seq <| s_region0 fun ops => oA rfl <| o_nil <| n_K <| s_seq <| s_region0 fun ops => oM rfl <| oN rfl <| oF rfl ?_
  refine oR (rd_ld rfl mM rfl) ?_
  refine c_is rfl (tlost_fn (a := a) (t := t)) sP rfl aQ ?_
  refine oA rfl <| o_nil <| n_K <| s_ret ?_
  refine leaf_is (rets1 Tryz.results30 (rv_tmp rfl)) ?_ sP
  rfl
theorem dread_fn (ha : c.aC = a) {b k : Int} : Does Tryz.prog 31 [ptr dk, .int .i64 b, .int .i64 k] ((dk, true, C [ptr a, ptr t.b] tDk) :: (tabH a t ++ (chH c ++ [])))
    (Is (.tuple #[.agg (vbc (readP c (atD t.ts b) k)).toArray, .int .i64 (mayE c (atD t.ts b) k)]) ((dk, true, C [ptr a, ptr t.b] tDk) :: (tabH a t ++ (chH c ++ [])))) := by
  refine fn_enter (n := 19) Tryz.func31 Tryz.ntmps31 rfl (Nat.le_of_ble_eq_true rfl) <| s_seq <| s_region0 fun ops => ?_
  refine o_alloc rfl fun b6 => ?_
  rw [zeroP_eq]
  refine oA rfl <| o_nil <| n_K <| s_seq ?_
  refine s_draw [] [(8, [(0, false), (1, false), (2, false), (3, false), (4, false), (5, false), (7, false), (6, true)]), (11, [(8, true), (9, false), (10, false)]), (12, [(11, true)]), (13, [(12, false)])] (by kernel_rfl) rfl fun ops w0 H0 y => ?_
  refine p_all <| xM rfl <| xN rfl <| xF rfl ?_
  refine xR (rd_ld rfl mM rfl) ?_
  refine xM rfl <| xM rfl <| xM rfl <| x_so ?_
  refine c_is rfl (dat_fn (a := a) (t := t) (dk := dk)) sP rfl aQ ?_
  refine o_nil ⟨rfl, ⟨_, sP⟩, ?_⟩
  refine x_nil <| p_all <| x_so ?_
  refine c_is rfl (read_a ha) sP rfl aQ ?_
  refine o_nil ⟨rfl, ⟨_, sP⟩, ?_⟩
  refine xE rfl rfl <| xE rfl rfl <| x_nil <| p_none <| x_so ?_
  first | refine o_store rfl rfl uD (vc_vb) (vbc_len) (spl_vb (by first | exact vbc_len | exact List.length_replicate ..)) ?_ | refine o_store rfl rfl uD rfl rfl rfl ?_
  refine o_nil ⟨rfl, ⟨_, sP⟩, ?_⟩
  refine x_nil <| p_all <| xA rfl <| x_nil <| p_end <| n_K <| s_ret ?_
  refine leaf_is (rets2 Tryz.results31 (rv_cell rfl mM (by first | exact cut_vb | rfl)) (rv_tmp rfl)) ?_ sP
  rfl
theorem mended_fn {p : Pg} : Does Tryz.prog 109 [.agg (vbc p).toArray] [] (Is (.agg (vbc (mendP p)).toArray) []) := by
  refine fn_enter (n := 29) Tryz.func109 Tryz.ntmps109 rfl (Nat.le_of_ble_eq_true rfl) <| s_seq <| s_region0 fun ops => ?_
  refine o_boxA rfl rfl fun b1 => ?_
  refine o_alloc rfl fun b2 => ?_
  rw [zeroP_eq]
  refine o_nil <| n_K <| s_seq <| s_region0 fun ops => ?_
  refine oR (rd_ldA rfl mM (by first | exact cut_vb | rfl)) ?_
  refine c_ex rfl (fread_fn (p := p)) sP rfl fun v9 Y9 h9 => ?_
  obtain ⟨s, rfl, rfl, hs, ho⟩ := h9
  refine so_ap aQ ?_
  refine oM rfl <| oE rfl rfl <| oE rfl rfl <| oE rfl rfl <| oE rfl rfl <| oA rfl <| oA rfl <| oA rfl <| oA rfl <| o_nil <| n_K <| s_seq <| s_seq ?_
  refine s_region [(2, 16)] rfl fun ops y => ?_
  refine oM rfl <| oR (rd_bin rfl rfl rfl) <| oM rfl ?_
  refine' o_or (j := 2) (k := 2) y rfl rfl rfl rfl rfl rfl rfl (fun hg16 => ?_) ?_
  rotate_left
  · try (simp at hg16; show _)
    refine o_g y rfl rfl ?_
    refine oM rfl ?_
    refine o_g y rfl rfl ?_
    refine oR (rd_bin rfl rfl rfl) ?_
    exact o_nil ⟨rfl, rfl, ⟨_, sP⟩⟩
  refine o_nil <| n_K ?_
  refine s_cond rfl (fun c19 => ?_) (fun c19 => ?_)
  · skip
    have hres : mendP p = p := (by unfold mendP; rw [if_pos (by simp at c19; rcases c19 with h | h; exact .inl h; exact .inr h)])
    refine s_seq <| s_region0 fun ops => ?_
    refine oR (rd_ldA rfl mM (by first | exact cut_vb | rfl)) ?_
    first | refine o_store rfl rfl uD (vc_vb) (vbc_len) (spl_vb (by first | exact vbc_len | exact List.length_replicate ..)) ?_ | refine o_store rfl rfl uD rfl rfl rfl ?_
    refine o_nil <| n_K <| s_ret <| r_K ?_
    refine leaf_is (rets1 Tryz.results109 (rv_cell rfl mM (by first | exact cut_vb | rfl))) ?_ sP
    rw [hres]
  · skip
    have hres : mendP p = (writeF (readF p).1 (readF p).2.1).1 := (by unfold mendP; rw [if_neg (by simp at c19; rintro (h | h); exact h c19.1; exact c19.2 h)])
    refine s_skip <| n_K <| s_seq <| s_region0 fun ops => oM rfl <| oM rfl ?_
    refine o_bslice_k rfl rfl rfl rfl fun b24 => ?_
    refine c_is rfl (write_one (kind := (readF p).1) (s := s) (by have := readF_len p; rw [hs]; omega)) sP rfl aQ ?_
    refine oM rfl <| oE rfl rfl <| oE rfl rfl ?_
    first | refine o_store rfl rfl uD (vc_vb) (vbc_len) (spl_vb (by first | exact vbc_len | exact List.length_replicate ..)) ?_ | refine o_store rfl rfl uD rfl rfl rfl ?_
    refine o_nil <| n_K <| s_seq <| s_region0 fun ops => ?_
    refine oR (rd_ldA rfl mM (by first | exact cut_vb | rfl)) ?_
    first | refine o_store rfl rfl uD (vc_vb) (vbc_len) (spl_vb (by first | exact vbc_len | exact List.length_replicate ..)) ?_ | refine o_store rfl rfl uD rfl rfl rfl ?_
    refine o_nil <| n_K <| s_ret ?_
    refine leaf_is (rets1 Tryz.results109 (rv_cell rfl mM (by first | exact cut_vb | rfl))) ?_ sP
    rw [hres, ← hs]
end
end Go.Proofs.YtdfidkhbldedlaaGreat
end
section
/- Walks of package disk: filling a block. -/
namespace Go.Proofs.YtdfidkhbldedlaaGreat
open Go.K
set_option linter.unusedVariables false
set_option linter.unusedSimpArgs false
instance und137 : Und Tryz.prog 137 (.slice 58) := ⟨Tryz.underlying137⟩
instance agg137 : Agg Tryz.prog 137 false := ⟨⟨_, Tryz.underlying137, rfl⟩⟩
instance siz137 : Siz Tryz.prog 137 1 := ⟨by kernel_rfl⟩
instance ent93 : Ent Tryz.prog 93 := ⟨fun _ _ => by kernel_rfl⟩
theorem vbc_one (p : Pg) : ((vbc p).all (·.oneCell')) = true := by
  rw [List.all_eq_true]
  intro x hx
  obtain ⟨y, _, rfl⟩ := List.mem_map.1 hx
  rfl
instance : Cel Pg := ⟨258, vbc, fun _ => vbc_len, vbc_one⟩
/-- A page is copied, mended. -/
def fill1 (c : Chip) (src to' : Int) (i : Int) : Int × Chip := if mayE c src i = 0 then progC c to' i (mendP (readP c src i)) else (mayE c src i, c)
def fillGo : Nat → Chip → Int → Int → Int → Int × Chip
  | 0, c, _, _, _ => (0, c)
  | f + 1, c, src, to', i => if (fill1 c src to' i).1 ≠ 0 then fill1 c src to' i else fillGo f (fill1 c src to' i).2 src to' (i + 1)
def fillM : List Pg → Chip → Int → Int → Int × Chip
  | [], c, _, _ => (0, c)
  | p :: ps, c, to', i => if (progC c to' i p).1 ≠ 0 then progC c to' i p else fillM ps (progC c to' i p).2 to' (i + 1)
/-- A block's first pages, and some more, are written into a block: the error, the chip. -/
def fillC (c : Chip) (src to' : Int) (count : Nat) (more : List Pg) : Int × Chip :=
  if (fillGo count c src to' 0).1 ≠ 0 then fillGo count c src to' 0 else fillM more (fillGo count c src to' 0).2 to' count
theorem fill1_aC (c : Chip) (src to' i : Int) : (fill1 c src to' i).2.aC = c.aC := by
  unfold fill1
  split
  · exact prog_aC _ _ _ _
  · rfl
theorem dropP {l : List Pg} {i : Nat} {p : Pg} (h : l[i]? = some p) : l.drop i = p :: l.drop (i + 1) := by
  obtain ⟨h1, h2⟩ := List.getElem?_eq_some_iff.1 h
  rw [List.drop_eq_getElem_cons h1, h2]
section
variable {c : Chip} {t : Tab} {a dk : Nat}
theorem fill_fn (ha : c.aC = a) {b to' : Int} {count : Nat} {more : Sl Pg} (hc : count ≤ 8) (hm : more.list.length ≤ 1000) :
    Does Tryz.prog 93 [ptr dk, .int .i64 b, .int .i64 to', .int .i64 (count : Nat), more.val] ((dk, true, C [ptr a, ptr t.b] tDk) :: (tabH a t ++ (chH c ++ (more.hp tPg ++ []))))
    (Is (.int .i64 (fillC c (atD t.ts b) to' count more.list).1) ((dk, true, C [ptr a, ptr t.b] tDk) :: (tabH a t ++ (chH (fillC c (atD t.ts b) to' count more.list).2 ++ (more.hp tPg ++ []))))) := by
  refine fn_enter (n := 64) Tryz.func93 Tryz.ntmps93 rfl (Nat.le_of_ble_eq_true rfl) <| s_seq <| s_region0 fun ops => oA rfl <| o_nil <| n_K <| s_seq <| s_seq <| s_region0 fun ops => oM rfl <| oM rfl <| o_nil <| n_K <| s_block ?_
  refine s_loop2 [0, 1, 2, 3, 4, 17] kQ (fun (st : Nat × Chip) => [(18, .int .i64 st.1)]) (fun (st : Nat × Chip) => (dk, true, C [ptr a, ptr t.b] tDk) :: (tabH a t ++ (chH st.2 ++ (more.hp tPg ++ [])))) (fun (st : Nat × Chip) => st.1 ≤ count ∧ st.2.aC = a ∧ fillGo (count - st.1) st.2 (atD t.ts b) to' st.1 = fillGo count c (atD t.ts b) to' 0) (fun (st : Nat × Chip) => count - st.1) ((0, c)) ⟨Nat.zero_le _, ha, rfl⟩ kP sP ?_
  rintro ⟨i, c1⟩ ⟨h0, h1, h2⟩
  simp only at h0 h1 h2
  refine s_seq <| s_region0 fun ops => oR (rd_bin rfl rfl rfl) <| o_nil <| n_K <| s_seq ?_
  refine s_cond rfl (fun c19 => ?_) (fun c19 => ?_)
  · simp only [decide_eq_true_eq, decide_eq_false_iff_not] at c19
    have hgo : fillGo (count - i) c1 (atD t.ts b) to' i = if (fill1 c1 (atD t.ts b) to' i).1 ≠ 0 then fill1 c1 (atD t.ts b) to' i else fillGo (count - (i + 1)) (fill1 c1 (atD t.ts b) to' i).2 (atD t.ts b) to' ((i : Int) + 1) := (by rw [show count - i = (count - (i + 1)) + 1 by omega]; rfl)
    rw [h2] at hgo
    refine s_skip <| n_K <| s_seq <| s_block <| s_seq <| s_region0 fun ops => oM rfl <| oA rfl <| o_nil <| n_K <| s_seq <| s_region0 fun ops => oM rfl <| oM rfl ?_
    refine oM rfl ?_
    refine c_is rfl (dread_fn (c := c1) (t := t) (dk := dk) h1) sP rfl aQ ?_
    refine oM rfl <| oE rfl rfl <| oE rfl rfl ?_
    refine o_alloc rfl fun b12 => ?_
    first | refine o_store rfl rfl uD (vc_vb) (vbc_len) (spl_vb (by first | exact vbc_len | exact List.length_replicate ..)) ?_ | refine o_store rfl rfl uD rfl rfl rfl ?_
    refine oA rfl <| o_nil <| n_K <| s_seq <| s_seq <| s_region0 fun ops => oM rfl <| oR (rd_bin rfl rfl rfl) <| o_nil <| n_K ?_
    refine s_cond rfl (fun c29 => ?_) (fun c29 => ?_)
    · skip
      have hf1 : fill1 c1 (atD t.ts b) to' i = progC c1 to' i (mendP (readP c1 (atD t.ts b) i)) := (by unfold fill1; rw [if_pos (by simpa using c29)])
      refine s_draw [] [(8, [(0, false), (1, false), (2, false), (3, false), (4, false), (5, false), (6, false), (7, true)]), (9, [(8, true)]), (10, [(9, false)])] (by kernel_rfl) rfl fun ops w0 H0 y => ?_
      refine p_all <| xM rfl <| xN rfl <| xF rfl ?_
      refine xR (rd_ld rfl mM rfl) ?_
      refine xM rfl <| xM rfl ?_
      refine xR (rd_ldA rfl mM (by first | exact cut_vb | rfl)) ?_
      refine x_so ?_
      refine c_is rfl (mended_fn (p := readP c1 (atD t.ts b) i)) sP rfl aQ ?_
      refine o_nil ⟨rfl, ⟨_, sP⟩, ?_⟩
      refine x_nil <| p_none <| x_so ?_
      refine c_is rfl (program_a (c := c1) h1) sP rfl aQ ?_
      refine o_nil ⟨rfl, ⟨_, sP⟩, ?_⟩
      refine x_nil <| p_all <| xA rfl <| x_nil <| p_end <| n_K <| s_seq <| s_region0 fun ops => oM rfl <| oR (rd_bin rfl rfl rfl) <| o_nil <| n_K ?_
      refine s_cond rfl (fun c40 => ?_) (fun c40 => ?_)
      · skip
        have hres : fillC c (atD t.ts b) to' count more.list = fill1 c1 (atD t.ts b) to' i := (by have hne : (fill1 c1 (atD t.ts b) to' i).1 ≠ 0 := (by rw [hf1]; simpa using c40); rw [if_pos hne] at hgo; unfold fillC; rw [hgo, if_pos hne])
        rw [hf1] at hres
        refine s_seq <| s_region0 fun ops => oM rfl <| oA rfl <| o_nil <| n_K <| s_ret <| r_blk <| r_K <| r_K <| r_blk <| r_K ?_
        refine leaf_is (rets1 Tryz.results93 (rv_tmp rfl)) ?_ (by rw [hres]; exact sP)
        rw [hres]
      · skip
        have hz : (fill1 c1 (atD t.ts b) to' i).1 = 0 := (by rw [hf1]; simpa using c40)
        rw [if_neg (by rw [hz]; simp), hf1] at hgo
        refine s_skip <| n_blk <| n_K <| s_region0 fun ops => ?_
        refine oR (rd_add64 rfl rfl (by omega)) ?_
        refine oM rfl <| o_nil <| n_K ?_
        first | exact ⟨(i + 1, (progC c1 to' i (mendP (readP c1 (atD t.ts b) i))).2), ⟨by simp only; omega, (prog_aC _ _ _ _).trans h1, by simp only; exact hgo.symm⟩, by simp only; omega, lZ⟩ | exact ⟨(i + 1, c1), ⟨by simp only; omega, h1, by simp only; exact hgo.symm⟩, by simp only; omega, lZ⟩
    · skip
      have hf1 : fill1 c1 (atD t.ts b) to' i = (mayE c1 (atD t.ts b) i, c1) := (by unfold fill1; rw [if_neg (by simpa using c29)])
      refine s_skip <| n_K <| s_seq <| s_region0 fun ops => oM rfl <| oR (rd_bin rfl rfl rfl) <| o_nil <| n_K ?_
      refine s_cond rfl (fun c40 => ?_) (fun c40 => ?_)
      · skip
        have hres : fillC c (atD t.ts b) to' count more.list = fill1 c1 (atD t.ts b) to' i := (by have hne : (fill1 c1 (atD t.ts b) to' i).1 ≠ 0 := (by rw [hf1]; simpa using c40); rw [if_pos hne] at hgo; unfold fillC; rw [hgo, if_pos hne])
        rw [hf1] at hres
        refine s_seq <| s_region0 fun ops => oM rfl <| oA rfl <| o_nil <| n_K <| s_ret <| r_blk <| r_K <| r_K <| r_blk <| r_K ?_
        refine leaf_is (rets1 Tryz.results93 (rv_tmp rfl)) ?_ (by rw [hres]; exact sP)
        rw [hres]
      · skip
        have hz : (fill1 c1 (atD t.ts b) to' i).1 = 0 := (by rw [hf1]; simpa using c40)
        rw [if_neg (by rw [hz]; simp), hf1] at hgo
        refine s_skip <| n_blk <| n_K <| s_region0 fun ops => ?_
        refine oR (rd_add64 rfl rfl (by omega)) ?_
        refine oM rfl <| o_nil <| n_K ?_
        first | exact ⟨(i + 1, (progC c1 to' i (mendP (readP c1 (atD t.ts b) i))).2), ⟨by simp only; omega, (prog_aC _ _ _ _).trans h1, by simp only; exact hgo.symm⟩, by simp only; omega, lZ⟩ | exact ⟨(i + 1, c1), ⟨by simp only; omega, h1, by simp only; exact hgo.symm⟩, by simp only; omega, lZ⟩
  · simp only [decide_eq_true_eq, decide_eq_false_iff_not] at c19
    have hic : i = count := (by omega)
    subst hic
    have hz : fillGo i c (atD t.ts b) to' 0 = (0, c1) := (by rw [← h2, Nat.sub_self]; rfl)
    refine s_exit <| x_K <| x_K <| x_blk <| n_K <| s_seq <| s_seq <| s_region0 fun ops => oM rfl <| oR (rd_lenS rfl) <| oM rfl <| o_nil <| n_K <| s_block ?_
    refine s_loop2 [0, 2, 3, 43, 44] kQ (fun (st : Nat × Chip) => [(45, .int .i64 st.1)]) (fun (st : Nat × Chip) => (dk, true, C [ptr a, ptr t.b] tDk) :: (tabH a t ++ (chH st.2 ++ (more.hp tPg ++ [])))) (fun (st : Nat × Chip) => st.1 ≤ more.list.length ∧ st.2.aC = a ∧ fillM (more.list.drop st.1) st.2 to' ((i : Int) + st.1) = fillM more.list c1 to' i) (fun (st : Nat × Chip) => more.list.length - st.1) ((0, c1)) ⟨Nat.zero_le _, h1, by simp⟩ kP sP ?_
    rintro ⟨j, c2⟩ ⟨k0, k1, k2⟩
    simp only at k0 k1 k2
    refine s_seq <| s_region0 fun ops => oR (rd_bin rfl rfl rfl) <| o_nil <| n_K <| s_seq ?_
    refine s_cond rfl (fun c46 => ?_) (fun c46 => ?_)
    · simp only [decide_eq_true_eq, decide_eq_false_iff_not] at c46
      obtain ⟨p, hg⟩ : ∃ p, more.list[j]? = some p := ⟨_, List.getElem?_eq_getElem (by omega)⟩
      rw [dropP hg] at k2
      refine s_skip <| n_K <| s_seq <| s_block <| s_seq <| s_region0 fun ops => oM rfl ?_
      refine oR (rd_ixSl rfl rfl (by omega)) ?_
      refine oR (rd_ldSlA (o := 0) rfl pL hg cut_vb rfl) ?_
      refine o_alloc rfl fun b15 => ?_
      refine oA rfl ?_
      first | refine o_store rfl rfl uD (vc_vb) (vbc_len) (spl_vb (by first | exact vbc_len | exact List.length_replicate ..)) ?_ | refine o_store rfl rfl uD rfl rfl rfl ?_
      refine o_nil <| n_K <| s_seq ?_
      refine s_draw [] [(9, [(0, false), (1, false), (2, false), (3, false), (4, false), (5, false), (6, false), (7, false), (8, false)]), (10, [(9, true)]), (11, [(10, false)])] (by kernel_rfl) rfl fun ops w0 H0 y => ?_
      refine p_all <| xM rfl <| xN rfl <| xF rfl ?_
      refine xR (rd_ld rfl mM rfl) ?_
      refine xM rfl <| xM rfl <| xM rfl ?_
      refine xR (rd_add64 rfl rfl (by omega)) ?_
      refine xR (rd_ldA rfl mM (by first | exact cut_vb | rfl)) ?_
      refine x_nil <| p_none <| x_so ?_
      refine c_is rfl (program_a (c := c2) k1) sP rfl aQ ?_
      refine o_nil ⟨rfl, ⟨_, sP⟩, ?_⟩
      refine x_nil <| p_all <| xA rfl <| x_nil <| p_end <| n_K <| s_seq <| s_region0 fun ops => oM rfl <| oR (rd_bin rfl rfl rfl) <| o_nil <| n_K ?_
      refine s_cond rfl (fun c61 => ?_) (fun c61 => ?_)
      · skip
        have hres : fillC c (atD t.ts b) to' i more.list = progC c2 to' ((i : Int) + j) p := (by have hne : (progC c2 to' ((i : Int) + j) p).1 ≠ 0 := (by simpa using c61); unfold fillC; rw [hz, if_neg (by simp), ← k2]; exact if_pos hne)
        refine s_seq <| s_region0 fun ops => oM rfl <| oA rfl <| o_nil <| n_K <| s_ret <| r_blk <| r_K <| r_K <| r_blk <| r_K ?_
        refine leaf_is (rets1 Tryz.results93 (rv_tmp rfl)) ?_ (by rw [hres]; exact sP)
        rw [hres]
      · skip
        have hk : fillM (more.list.drop (j + 1)) (progC c2 to' ((i : Int) + j) p).2 to' ((i : Int) + j + 1) = fillM more.list c1 to' i := (by rw [← k2]; exact (if_neg (by simpa using c61)).symm)
        refine s_skip <| n_blk <| n_K <| s_region0 fun ops => ?_
        refine oR (rd_add64 rfl rfl (by omega)) ?_
        refine oM rfl <| o_nil <| n_K ?_
        exact ⟨(j + 1, (progC c2 to' ((i : Int) + j) p).2), ⟨by simp only; omega, (prog_aC _ _ _ _).trans k1, by simp only; rw [← hk]; congr 1⟩, (by simp only; omega), lZ⟩
    · simp only [decide_eq_true_eq, decide_eq_false_iff_not] at c46
      have hres : fillC c (atD t.ts b) to' i more.list = (0, c2) := (by unfold fillC; rw [hz, if_neg (by simp), ← k2, List.drop_of_length_le (by omega)]; rfl)
      refine s_exit <| x_K <| x_K <| x_blk <| n_K <| s_seq <| s_region0 fun ops => oA rfl <| o_nil <| n_K <| s_ret ?_
      refine leaf_is (rets1 Tryz.results93 (rv_tmp rfl)) ?_ (by rw [hres]; exact sP)
      rw [hres]
end
end Go.Proofs.YtdfidkhbldedlaaGreat
end
section
/- Walks of package disk: moving a block; writing, erasing. -/
namespace Go.Proofs.YtdfidkhbldedlaaGreat
open Go.K
set_option linter.unusedVariables false
set_option linter.unusedSimpArgs false
instance ent65 : Ent Tryz.prog 65 := ⟨fun _ _ => by kernel_rfl⟩
theorem fill1_bads (c : Chip) (src to' i : Int) : bads (fill1 c src to' i).2 = bads c := by
  unfold fill1
  split
  · exact prog_bads _ _ _ _
  · rfl
theorem fillGo_bads (src to' : Int) : ∀ (f : Nat) (c : Chip) (i : Int), bads (fillGo f c src to' i).2 = bads c ∧ (fillGo f c src to' i).2.aC = c.aC
  | 0, c, i => ⟨rfl, rfl⟩
  | f + 1, c, i => by
    unfold fillGo
    split
    · exact ⟨fill1_bads _ _ _ _, fill1_aC _ _ _ _⟩
    · obtain ⟨h1, h2⟩ := fillGo_bads src to' f (fill1 c src to' i).2 (i + 1)
      exact ⟨h1.trans (fill1_bads _ _ _ _), h2.trans (fill1_aC _ _ _ _)⟩
theorem fillM_bads (to' : Int) : ∀ (ps : List Pg) (c : Chip) (i : Int), bads (fillM ps c to' i).2 = bads c ∧ (fillM ps c to' i).2.aC = c.aC
  | [], c, i => ⟨rfl, rfl⟩
  | p :: ps, c, i => by
    unfold fillM
    split
    · exact ⟨prog_bads _ _ _ _, prog_aC _ _ _ _⟩
    · obtain ⟨h1, h2⟩ := fillM_bads to' ps (progC c to' i p).2 (i + 1)
      exact ⟨h1.trans (prog_bads _ _ _ _), h2.trans (prog_aC _ _ _ _)⟩
theorem fillC_bads (c : Chip) (src to' : Int) (count : Nat) (more : List Pg) : bads (fillC c src to' count more).2 = bads c ∧ (fillC c src to' count more).2.aC = c.aC := by
  obtain ⟨h1, h2⟩ := fillGo_bads src to' count c 0
  unfold fillC
  split
  · exact ⟨h1, h2⟩
  · obtain ⟨h3, h4⟩ := fillM_bads to' more (fillGo count c src to' 0).2 count
    exact ⟨h3.trans h1, h4.trans h2⟩
/-- A spare is tried: the error, the chip. -/
def tryC (c : Chip) (src to' : Int) (count : Nat) (more : List Pg) : Int × Chip := if (eraseC c to').1 = 0 then fillC (eraseC c to').2 src to' count more else eraseC c to'
theorem tryC_bads (c : Chip) (src to' : Int) (count : Nat) (more : List Pg) : bads (tryC c src to' count more).2 = bads c ∧ (tryC c src to' count more).2.aC = c.aC := by
  unfold tryC
  split
  · obtain ⟨h1, h2⟩ := fillC_bads (eraseC c to').2 src to' count more
    exact ⟨h1.trans (erase_bads _ _), h2.trans (erase_aC _ _)⟩
  · exact ⟨erase_bads _ _, erase_aC _ _⟩
/-- What moving a block comes to. -/
inductive MoveR (n : Nat) (block : Int) (count : Nat) (more : List Pg) : Chip → TS → Int × TS × Chip → Prop
  | none {c : Chip} {t : TS} : (spareV t n).2 = false → MoveR n block count more c t (34, t, c)
  | err {c : Chip} {t : TS} {e : Int} {c' : Chip} : (spareV t n).2 = true → tryC c (atD t block) (spareV t n).1 count more = (e, c') → e ≠ 0 → e ≠ 33 → MoveR n block count more c t (e, t, c')
  | swap {c : Chip} {t : TS} {c' : Chip} {r : Int × TS × Chip} : (spareV t n).2 = true → tryC c (atD t block) (spareV t n).1 count more = (0, c') → SwapD t c' block (spareV t n).1 r → MoveR n block count more c t r
  | bad {c : Chip} {t : TS} {c' : Chip} {e : Int} {t' : TS} {c'' : Chip} : (spareV t n).2 = true → tryC c (atD t block) (spareV t n).1 count more = (33, c') → LoseD t c' (spareV t n).1 (e, t', c'') → e ≠ 0 → MoveR n block count more c t (e, t', c'')
  | again {c : Chip} {t : TS} {c' : Chip} {t' : TS} {c'' : Chip} {r : Int × TS × Chip} : (spareV t n).2 = true → tryC c (atD t block) (spareV t n).1 count more = (33, c') → LoseD t c' (spareV t n).1 (0, t', c'') → MoveR n block count more c'' t' r → MoveR n block count more c t r
/-- A table of a chip of n blocks. -/
structure WT (n : Nat) (t : TS) : Prop where
  wf : WF n t.uses t.lost
  next : 0 ≤ t.next
  area : 0 ≤ t.area ∧ t.area ≤ 1
theorem keepC_zero {t : TS} {u l : List Int} {c : Chip} (h : (keepC t u l c).1 = 0) : (keepC t u l c).2.1.uses = u ∧ (keepC t u l c).2.1.lost = l := by
  unfold keepC at h ⊢
  simp only [] at h ⊢
  split at h
  · rename_i h1; exact absurd h h1
  · rename_i h1
    rw [if_neg h1]
    exact ⟨rfl, rfl⟩
theorem spareV_ok {t : TS} {n : Nat} (h : (spareV t n).2 = true) : spareB t n (spareV t n).1 = true := by
  unfold spareV at h ⊢
  cases h2 : spareU t n with
  | none => rw [h2] at h; cases h
  | some b =>
    unfold spareU at h2
    simpa using List.find?_some h2
theorem WT.lost {n : Nat} {t : TS} {c c' : Chip} {t' : TS} (h : WT n t) (hn : c.blocks.length = n) (hs : (spareV t n).2 = true) (hd : LoseD t c (spareV t n).1 (0, t', c')) : WT n t' ∧ t'.lost.length = t.lost.length + 1 ∧ bads c' = bads c ∧ c'.aC = c.aC := by
  have hb := spareV_ok hs
  obtain ⟨l, hp, he⟩ := hd.1 (by rw [hn]; exact hb)
  have h0 : (keepC t t.uses l c).1 = 0 := by rw [← he]
  have ht : t' = (keepC t t.uses l c).2.1 := by rw [← he]
  have hc : c' = (keepC t t.uses l c).2.2 := by rw [← he]
  obtain ⟨h1, h2⟩ := keepC_zero h0
  rw [← ht] at h1 h2
  have hk := keepC_t t t.uses l c h.next h.area
  rw [← ht] at hk
  refine ⟨⟨by rw [h1, h2]; exact h.wf.lose hb hp, ?_, ?_⟩, by rw [h2, hp.length_eq]; simp, by rw [hc]; exact keepC_bads _ _ _ _, by rw [hc]; exact keepC_aC _ _ _ _⟩
  · rcases hk with e | ⟨_, _, e, _⟩
    · rw [e]; exact h.next
    · exact e
  · rcases hk with e | ⟨_, _, _, e⟩
    · rw [e]; exact h.area
    · exact e
theorem WT.tab {n : Nat} {t : Tab} (h : WT n t.ts) : t.u.list.length ≤ 1000 ∧ t.l.list.length ≤ 4 ∧ 0 ≤ t.next ∧ (0 ≤ t.area ∧ t.area ≤ 1) := by
  have h1 := h.wf.n2
  have h2 : t.u.list.length + 6 = n := h.wf.len
  have h3 : t.l.list.length ≤ 4 := h.wf.lost4
  exact ⟨by omega, h3, h.next, h.area⟩
section
variable {c : Chip} {t : Tab} {a dk n : Nat}
theorem move_fn (ha : c.aC = a) (hn : c.blocks.length = n) (hw : WT n t.ts) {b : Int} {count : Nat} {more : Sl Pg} (hc : count ≤ 8) (hm : more.list.length ≤ 1000) :
    Does Tryz.prog 65 [ptr dk, .int .i64 b, .int .i64 (count : Nat), more.val] ((dk, true, C [ptr a, ptr t.b] tDk) :: (tabH a t ++ (chH c ++ (more.hp tPg ++ []))))
    (fun v H => ∃ (t' : Tab) (e : Int) (c' : Chip), t'.b = t.b ∧ v = .int .i64 e ∧ H = (dk, true, C [ptr a, ptr t'.b] tDk) :: (tabH a t' ++ (chH c' ++ (more.hp tPg ++ []))) ∧ c'.aC = a ∧ MoveR n b count more.list c t.ts (e, t'.ts, c')) := by
  refine fn_enter (n := 57) Tryz.func65 Tryz.ntmps65 rfl (Nat.le_of_ble_eq_true rfl) <| s_seq <| s_region0 fun ops => oA rfl <| o_nil <| n_K <| s_block ?_
  refine s_loop2 [0, 1, 2, 3] kQ (fun (st : Tab × Chip) => []) (fun (st : Tab × Chip) => (dk, true, C [ptr a, ptr st.1.b] tDk) :: (tabH a st.1 ++ (chH st.2 ++ (more.hp tPg ++ [])))) (fun (st : Tab × Chip) => st.1.b = t.b ∧ st.2.aC = a ∧ st.2.blocks.length = n ∧ WT n st.1.ts ∧ ∀ r, MoveR n b count more.list st.2 st.1.ts r → MoveR n b count more.list c t.ts r) (fun (st : Tab × Chip) => 5 - st.1.l.list.length) ((t, c)) ⟨rfl, ha, hn, hw, fun r h => h⟩ kP sP ?_
  rintro ⟨t1, c1⟩ ⟨h0, h1, h2, h3, h4⟩
  simp only at h0 h1 h2 h3 h4
  obtain ⟨w1, w2, w3, w4⟩ := h3.tab
  refine s_block <| s_seq <| s_region0 fun ops => oM rfl <| oN rfl <| oF rfl ?_
  refine oR (rd_ld rfl mM rfl) ?_
  refine c_is rfl ((spareM_fn (t := t1) (c := c1) h1 (by have := h3.wf.n2; omega)).to (by rw [h2]) rfl) sP rfl aQ ?_
  refine oM rfl <| oE rfl rfl <| oE rfl rfl <| oA rfl <| oA rfl <| o_nil <| n_K <| s_seq <| s_seq <| s_region0 fun ops => oM rfl <| oR (rd_not rfl) <| o_nil <| n_K ?_
  refine s_cond rfl (fun c21 => ?_) (fun c21 => ?_)
  · skip
    have hs : (spareV t1.ts n).2 = false := (by simpa using c21)
    refine s_seq <| s_region0 fun ops => oA rfl <| o_nil <| n_K <| s_ret <| r_K <| r_blk <| r_K <| r_blk ?_
    exact leaf_r (rets1 Tryz.results65 (rv_tmp rfl)) (by exact ⟨t1, 34, c1, h0, rfl, rfl, h1, h4 _ (.none hs)⟩) (by first | (rw [hb']; exact sP) | exact sP)
  · skip
    have hs : (spareV t1.ts n).2 = true := (by simpa using c21)
    refine s_skip <| n_K <| s_seq <| s_region0 fun ops => oM rfl <| oN rfl <| oF rfl ?_
    refine oR (rd_ld rfl mM rfl) ?_
    refine oM rfl ?_
    refine c_is rfl (erase_a (c := c1) h1) sP rfl aQ ?_
    refine oA rfl <| o_nil <| n_K <| s_seq <| s_seq <| s_region0 fun ops => oM rfl <| oR (rd_bin rfl rfl rfl) <| o_nil <| n_K ?_
    refine s_cond rfl (fun c29 => ?_) (fun c29 => ?_)
    · skip
      have htr : tryC c1 (atD t1.ts b) (spareV t1.ts n).1 count more.list = fillC (eraseC c1 (spareV t1.ts n).1).2 (atD t1.ts b) (spareV t1.ts n).1 count more.list := (by unfold tryC; rw [if_pos (by simpa using c29)])
      refine s_region0 fun ops => oM rfl <| oM rfl <| oM rfl <| oM rfl <| oM rfl ?_
      refine c_is rfl (fill_fn (c := (eraseC c1 (spareV t1.ts n).1).2) (t := t1) (dk := dk) (to' := (spareV t1.ts n).1) ((erase_aC _ _).trans h1) hc hm) sP rfl aQ ?_
      refine oA rfl <| o_nil <| n_K <| s_seq <| s_seq <| s_region0 fun ops => oM rfl <| o_nil <| n_K <| s_block <| s_seq <| s_region0 fun ops => oR (rd_bin rfl rfl rfl) <| oA rfl ?_
      refine o_nil <| n_K ?_
      refine s_cond rfl (fun c37 => ?_) (fun c37 => ?_)
      · skip
        try (exfalso; ((rw [c29] at c37; cases c37)); done)
        all_goals
          rw [← htr] at c37 ⊢
          obtain ⟨hTb, hTa⟩ := tryC_bads c1 (atD t1.ts b) (spareV t1.ts n).1 count more.list
          generalize hT : tryC c1 (atD t1.ts b) (spareV t1.ts n).1 count more.list = T at *
          have hTl : T.2.blocks.length = n := (bads_len hTb).trans h2
          have hTa' : T.2.aC = a := hTa.trans h1
          have hT0 : tryC c1 (atD t1.ts b) (spareV t1.ts n).1 count more.list = (0, T.2) := (by rw [hT]; exact Prod.ext (by simpa using c37) rfl)
          refine s_seq <| s_region0 fun ops => oM rfl <| oN rfl <| oF rfl ?_
          refine oR (rd_ld rfl mM rfl) ?_
          refine oM rfl <| oM rfl ?_
          refine c_ex rfl (swapD_fn (c := T.2) (t := t1) hTa' w1 (by omega) w3 w4) sP rfl fun v45 Y45 h45 => ?_
          obtain ⟨t', e, c', hb', rfl, rfl, ha', hd⟩ := h45
          refine so_ap aQ ?_
          refine oA rfl <| o_nil <| n_K <| s_ret <| r_blk <| r_K <| r_blk <| r_K <| r_blk ?_
          exact leaf_r (rets1 Tryz.results65 (rv_tmp rfl)) (by first | exact ⟨t', e, c', hb'.trans h0, rfl, rfl, ha', h4 _ (.swap hs hT0 hd)⟩ | exact ⟨t', e, c', hb'.trans h0, rfl, rfl, ha', h4 _ (.bad hs hT3 hd (by simpa using c55))⟩ | exact ⟨t1, T.1, T.2, h0, rfl, rfl, hTa', h4 _ (.err hs hT hTn hTn3)⟩) (by first | (rw [hb']; exact sP) | exact sP)
      · skip
        rw [← htr] at c37 ⊢
        obtain ⟨hTb, hTa⟩ := tryC_bads c1 (atD t1.ts b) (spareV t1.ts n).1 count more.list
        generalize hT : tryC c1 (atD t1.ts b) (spareV t1.ts n).1 count more.list = T at *
        have hTl : T.2.blocks.length = n := (bads_len hTb).trans h2
        have hTa' : T.2.aC = a := hTa.trans h1
        have hTn : T.1 ≠ 0 := (by simpa using c37)
        refine s_seq <| s_region0 fun ops => oR (rd_bin rfl rfl rfl) <| oA rfl <| o_nil <| n_K ?_
        refine s_cond rfl (fun c46 => ?_) (fun c46 => ?_)
        · skip
          have hT3 : tryC c1 (atD t1.ts b) (spareV t1.ts n).1 count more.list = (33, T.2) := (by rw [hT]; exact Prod.ext (by simpa using c46) rfl)
          refine s_region0 fun ops => oM rfl <| oN rfl <| oF rfl ?_
          refine oR (rd_ld rfl mM rfl) ?_
          refine oM rfl ?_
          refine c_ex rfl (loseD_fn (c := T.2) (t := t1) hTa' w1 (by omega) w3 w4) sP rfl fun v53 Y53 h53 => ?_
          obtain ⟨t', e, c', hb', rfl, rfl, ha', hd⟩ := h53
          refine so_ap aQ ?_
          refine oA rfl <| o_nil <| n_blk <| n_K <| s_seq <| s_region0 fun ops => oM rfl <| oR (rd_bin rfl rfl rfl) <| o_nil <| n_K ?_
          refine s_cond rfl (fun c55 => ?_) (fun c55 => ?_)
          · skip
            refine s_seq <| s_region0 fun ops => oM rfl <| oA rfl <| o_nil <| n_K <| s_ret <| r_blk <| r_K <| r_blk ?_
            exact leaf_r (rets1 Tryz.results65 (rv_tmp rfl)) (by first | exact ⟨t', e, c', hb'.trans h0, rfl, rfl, ha', h4 _ (.swap hs hT0 hd)⟩ | exact ⟨t', e, c', hb'.trans h0, rfl, rfl, ha', h4 _ (.bad hs hT3 hd (by simpa using c55))⟩ | exact ⟨t1, T.1, T.2, h0, rfl, rfl, hTa', h4 _ (.err hs hT hTn hTn3)⟩) (by first | (rw [hb']; exact sP) | exact sP)
          · skip
            try (exfalso; (rw [c37] at c55; cases c55); done)
            all_goals
              have he0 : e = 0 := (by simpa using c55)
              rw [he0] at hd
              obtain ⟨l1, l2, l3, l4⟩ := h3.lost hTl hs hd
              refine s_skip <| n_blk <| n_K ?_
              exact ⟨(t', c'), ⟨hb'.trans h0, ha', (bads_len l3).trans hTl, l1, fun r hr => h4 r (.again hs hT3 hd hr)⟩, (by have h5 : t'.l.list.length = t1.l.list.length + 1 := l2; simp only; omega), kP, kP, _, (by simp only; rw [hb']; exact sP)⟩
        · skip
          have hTn3 : T.1 ≠ 33 := (by simpa using c46)
          refine s_skip <| n_blk <| n_K <| s_seq <| s_region0 fun ops => oM rfl <| oR (rd_bin rfl rfl rfl) <| o_nil <| n_K ?_
          refine s_cond rfl (fun c55 => ?_) (fun c55 => ?_)
          · skip
            refine s_seq <| s_region0 fun ops => oM rfl <| oA rfl <| o_nil <| n_K <| s_ret <| r_blk <| r_K <| r_blk ?_
            exact leaf_r (rets1 Tryz.results65 (rv_tmp rfl)) (by first | exact ⟨t', e, c', hb'.trans h0, rfl, rfl, ha', h4 _ (.swap hs hT0 hd)⟩ | exact ⟨t', e, c', hb'.trans h0, rfl, rfl, ha', h4 _ (.bad hs hT3 hd (by simpa using c55))⟩ | exact ⟨t1, T.1, T.2, h0, rfl, rfl, hTa', h4 _ (.err hs hT hTn hTn3)⟩) (by first | (rw [hb']; exact sP) | exact sP)
          · skip
            try (exfalso; (rw [c37] at c55; cases c55); done)
            all_goals
              have he0 : e = 0 := (by simpa using c55)
              rw [he0] at hd
              obtain ⟨l1, l2, l3, l4⟩ := h3.lost hTl hs hd
              refine s_skip <| n_blk <| n_K ?_
              exact ⟨(t', c'), ⟨hb'.trans h0, ha', (bads_len l3).trans hTl, l1, fun r hr => h4 r (.again hs hT3 hd hr)⟩, (by have h5 : t'.l.list.length = t1.l.list.length + 1 := l2; simp only; omega), kP, kP, _, (by simp only; rw [hb']; exact sP)⟩
    · skip
      have htr : tryC c1 (atD t1.ts b) (spareV t1.ts n).1 count more.list = eraseC c1 (spareV t1.ts n).1 := (by unfold tryC; rw [if_neg (by simpa using c29)])
      refine s_skip <| n_K <| s_seq <| s_seq <| s_region0 fun ops => oM rfl <| o_nil <| n_K <| s_block <| s_seq <| s_region0 fun ops => oR (rd_bin rfl rfl rfl) <| oA rfl <| o_nil ?_
      refine n_K ?_
      refine s_cond rfl (fun c37 => ?_) (fun c37 => ?_)
      · skip
        try (exfalso; ((rw [c29] at c37; cases c37)); done)
        all_goals
          rw [← htr] at c37 ⊢
          obtain ⟨hTb, hTa⟩ := tryC_bads c1 (atD t1.ts b) (spareV t1.ts n).1 count more.list
          generalize hT : tryC c1 (atD t1.ts b) (spareV t1.ts n).1 count more.list = T at *
          have hTl : T.2.blocks.length = n := (bads_len hTb).trans h2
          have hTa' : T.2.aC = a := hTa.trans h1
          have hT0 : tryC c1 (atD t1.ts b) (spareV t1.ts n).1 count more.list = (0, T.2) := (by rw [hT]; exact Prod.ext (by simpa using c37) rfl)
          refine s_seq <| s_region0 fun ops => oM rfl <| oN rfl <| oF rfl ?_
          refine oR (rd_ld rfl mM rfl) ?_
          refine oM rfl <| oM rfl ?_
          refine c_ex rfl (swapD_fn (c := T.2) (t := t1) hTa' w1 (by omega) w3 w4) sP rfl fun v45 Y45 h45 => ?_
          obtain ⟨t', e, c', hb', rfl, rfl, ha', hd⟩ := h45
          refine so_ap aQ ?_
          refine oA rfl <| o_nil <| n_K <| s_ret <| r_blk <| r_K <| r_blk <| r_K <| r_blk ?_
          exact leaf_r (rets1 Tryz.results65 (rv_tmp rfl)) (by first | exact ⟨t', e, c', hb'.trans h0, rfl, rfl, ha', h4 _ (.swap hs hT0 hd)⟩ | exact ⟨t', e, c', hb'.trans h0, rfl, rfl, ha', h4 _ (.bad hs hT3 hd (by simpa using c55))⟩ | exact ⟨t1, T.1, T.2, h0, rfl, rfl, hTa', h4 _ (.err hs hT hTn hTn3)⟩) (by first | (rw [hb']; exact sP) | exact sP)
      · skip
        rw [← htr] at c37 ⊢
        obtain ⟨hTb, hTa⟩ := tryC_bads c1 (atD t1.ts b) (spareV t1.ts n).1 count more.list
        generalize hT : tryC c1 (atD t1.ts b) (spareV t1.ts n).1 count more.list = T at *
        have hTl : T.2.blocks.length = n := (bads_len hTb).trans h2
        have hTa' : T.2.aC = a := hTa.trans h1
        have hTn : T.1 ≠ 0 := (by simpa using c37)
        refine s_seq <| s_region0 fun ops => oR (rd_bin rfl rfl rfl) <| oA rfl <| o_nil <| n_K ?_
        refine s_cond rfl (fun c46 => ?_) (fun c46 => ?_)
        · skip
          have hT3 : tryC c1 (atD t1.ts b) (spareV t1.ts n).1 count more.list = (33, T.2) := (by rw [hT]; exact Prod.ext (by simpa using c46) rfl)
          refine s_region0 fun ops => oM rfl <| oN rfl <| oF rfl ?_
          refine oR (rd_ld rfl mM rfl) ?_
          refine oM rfl ?_
          refine c_ex rfl (loseD_fn (c := T.2) (t := t1) hTa' w1 (by omega) w3 w4) sP rfl fun v53 Y53 h53 => ?_
          obtain ⟨t', e, c', hb', rfl, rfl, ha', hd⟩ := h53
          refine so_ap aQ ?_
          refine oA rfl <| o_nil <| n_blk <| n_K <| s_seq <| s_region0 fun ops => oM rfl <| oR (rd_bin rfl rfl rfl) <| o_nil <| n_K ?_
          refine s_cond rfl (fun c55 => ?_) (fun c55 => ?_)
          · skip
            refine s_seq <| s_region0 fun ops => oM rfl <| oA rfl <| o_nil <| n_K <| s_ret <| r_blk <| r_K <| r_blk ?_
            exact leaf_r (rets1 Tryz.results65 (rv_tmp rfl)) (by first | exact ⟨t', e, c', hb'.trans h0, rfl, rfl, ha', h4 _ (.swap hs hT0 hd)⟩ | exact ⟨t', e, c', hb'.trans h0, rfl, rfl, ha', h4 _ (.bad hs hT3 hd (by simpa using c55))⟩ | exact ⟨t1, T.1, T.2, h0, rfl, rfl, hTa', h4 _ (.err hs hT hTn hTn3)⟩) (by first | (rw [hb']; exact sP) | exact sP)
          · skip
            try (exfalso; (rw [c37] at c55; cases c55); done)
            all_goals
              have he0 : e = 0 := (by simpa using c55)
              rw [he0] at hd
              obtain ⟨l1, l2, l3, l4⟩ := h3.lost hTl hs hd
              refine s_skip <| n_blk <| n_K ?_
              exact ⟨(t', c'), ⟨hb'.trans h0, ha', (bads_len l3).trans hTl, l1, fun r hr => h4 r (.again hs hT3 hd hr)⟩, (by have h5 : t'.l.list.length = t1.l.list.length + 1 := l2; simp only; omega), kP, kP, _, (by simp only; rw [hb']; exact sP)⟩
        · skip
          have hTn3 : T.1 ≠ 33 := (by simpa using c46)
          refine s_skip <| n_blk <| n_K <| s_seq <| s_region0 fun ops => oM rfl <| oR (rd_bin rfl rfl rfl) <| o_nil <| n_K ?_
          refine s_cond rfl (fun c55 => ?_) (fun c55 => ?_)
          · skip
            refine s_seq <| s_region0 fun ops => oM rfl <| oA rfl <| o_nil <| n_K <| s_ret <| r_blk <| r_K <| r_blk ?_
            exact leaf_r (rets1 Tryz.results65 (rv_tmp rfl)) (by first | exact ⟨t', e, c', hb'.trans h0, rfl, rfl, ha', h4 _ (.swap hs hT0 hd)⟩ | exact ⟨t', e, c', hb'.trans h0, rfl, rfl, ha', h4 _ (.bad hs hT3 hd (by simpa using c55))⟩ | exact ⟨t1, T.1, T.2, h0, rfl, rfl, hTa', h4 _ (.err hs hT hTn hTn3)⟩) (by first | (rw [hb']; exact sP) | exact sP)
          · skip
            try (exfalso; (rw [c37] at c55; cases c55); done)
            all_goals
              have he0 : e = 0 := (by simpa using c55)
              rw [he0] at hd
              obtain ⟨l1, l2, l3, l4⟩ := h3.lost hTl hs hd
              refine s_skip <| n_blk <| n_K ?_
              exact ⟨(t', c'), ⟨hb'.trans h0, ha', (bads_len l3).trans hTl, l1, fun r hr => h4 r (.again hs hT3 hd hr)⟩, (by have h5 : t'.l.list.length = t1.l.list.length + 1 := l2; simp only; omega), kP, kP, _, (by simp only; rw [hb']; exact sP)⟩
end
end Go.Proofs.YtdfidkhbldedlaaGreat
end
section
/- Walks of package disk: writing a page, erasing a block. -/
namespace Go.Proofs.YtdfidkhbldedlaaGreat
open Go.K
set_option linter.unusedVariables false
set_option linter.unusedSimpArgs false
instance ent27 : Ent Tryz.prog 27 := ⟨fun _ _ => by kernel_rfl⟩
instance ent33 : Ent Tryz.prog 33 := ⟨fun _ _ => by kernel_rfl⟩
set_option maxRecDepth 20000
theorem prog_33 {c : Chip} {i j : Int} {d : Pg} (h : (progC c i j d).1 = 33) : 0 ≤ j ∧ j < 8 := by
  by_cases hm : mayE c i j = 0
  · have := may_in hm; omega
  · rw [prog_may hm] at h
    simp only at h
    unfold mayE at h
    split at h
    · omega
    · split at h
      · omega
      · split at h <;> omega
theorem fill_page (p : Pg) : fillA (List.replicate 258 (Value.int .u8 0)).length (zrep 1 (List.replicate 258 (.int .u8 0))) [(0, .agg (vbc p).toArray)] = some (vbc p) := by
  have h1 : Nat.beq (Value.agg (vbc p).toArray).cells.toList.length 258 = true := by
    show Nat.beq (vbc p).length 258 = true
    rw [vbc_len]; rfl
  have h2 : splice (zrep 1 (List.replicate 258 (.int .u8 0))) (0 * 258) (Value.agg (vbc p).toArray).cells.toList = some (vbc p) := by
    show splice (List.replicate 258 (.int .u8 0) ++ []) 0 (vbc p) = some (vbc p)
    rw [List.append_nil]
    exact spl_vb (List.length_replicate ..)
  rw [List.length_replicate]
  unfold fillA
  rw [h1, cond_true, h2]
  rfl
/-- What a page's writing comes to. -/
def ProgD (n : Nat) (b k : Int) (p : Pg) (c : Chip) (t : TS) (r : Int × TS × Chip) : Prop :=
  ((progC c (atD t b) k p).1 = 33 → MoveR n b k.toNat [p] (progC c (atD t b) k p).2 t r) ∧ ((progC c (atD t b) k p).1 ≠ 33 → r = ((progC c (atD t b) k p).1, t, (progC c (atD t b) k p).2))
def EraseD (n : Nat) (b : Int) (c : Chip) (t : TS) (r : Int × TS × Chip) : Prop :=
  ((eraseC c (atD t b)).1 = 33 → MoveR n b 0 [] (eraseC c (atD t b)).2 t r) ∧ ((eraseC c (atD t b)).1 ≠ 33 → r = ((eraseC c (atD t b)).1, t, (eraseC c (atD t b)).2))
section
variable {c : Chip} {t : Tab} {a dk n : Nat}
theorem move1_fn (ha : c.aC = a) (hn : c.blocks.length = n) (hw : WT n t.ts) {b : Int} {count mb : Nat} {p : Pg} (hc : count ≤ 8) :
    Does Tryz.prog 65 [ptr dk, .int .i64 b, .int .i64 (count : Nat), .slice (some ⟨mb, 0, none⟩) 1 1] ((dk, true, C [ptr a, ptr t.b] tDk) :: (tabH a t ++ (chH c ++ [(mb, true, C (vbc p) tPg)])))
    (fun v H => ∃ (t' : Tab) (e : Int) (c' : Chip), t'.b = t.b ∧ v = .int .i64 e ∧ H = (dk, true, C [ptr a, ptr t'.b] tDk) :: (tabH a t' ++ (chH c' ++ [(mb, true, C (vbc p) tPg)])) ∧ c'.aC = a ∧ MoveR n b count [p] c t.ts (e, t'.ts, c')) := by
  have h := move_fn (dk := dk) (b := b) (more := (.own mb [p] 1 [] ⟨by simp, Nat.le_refl _, by simp⟩ : Sl Pg)) ha hn hw hc (by show 1 ≤ 1000; omega)
  have e : cells [p] ++ [] = vbc p := by simp [cells, Cel.cs]
  rw [Sl.hp_own, e] at h
  exact h
theorem move0_fn (ha : c.aC = a) (hn : c.blocks.length = n) (hw : WT n t.ts) {b : Int} :
    Does Tryz.prog 65 [ptr dk, .int .i64 b, .int .i64 0, .slice none 0 0] ((dk, true, C [ptr a, ptr t.b] tDk) :: (tabH a t ++ (chH c ++ [])))
    (fun v H => ∃ (t' : Tab) (e : Int) (c' : Chip), t'.b = t.b ∧ v = .int .i64 e ∧ H = (dk, true, C [ptr a, ptr t'.b] tDk) :: (tabH a t' ++ (chH c' ++ [])) ∧ c'.aC = a ∧ MoveR n b 0 [] c t.ts (e, t'.ts, c')) := by
  have h := move_fn (dk := dk) (b := b) (count := 0) (more := (.nil : Sl Pg)) ha hn hw (by omega) (by show 0 ≤ 1000; omega)
  rw [Sl.hp_nil] at h
  exact h
theorem dprogram_fn (ha : c.aC = a) (hn : c.blocks.length = n) (hw : WT n t.ts) {b k : Int} {p : Pg} :
    Does Tryz.prog 27 [ptr dk, .int .i64 b, .int .i64 k, .agg (vbc p).toArray] ((dk, true, C [ptr a, ptr t.b] tDk) :: (tabH a t ++ (chH c ++ [])))
    (fun v H => ∃ (t' : Tab) (e : Int) (c' : Chip), t'.b = t.b ∧ v = .int .i64 e ∧ H = (dk, true, C [ptr a, ptr t'.b] tDk) :: (tabH a t' ++ (chH c' ++ [])) ∧ c'.aC = a ∧ ProgD n b k p c t.ts (e, t'.ts, c')) := by
  refine fn_enter (n := 29) Tryz.func27 Tryz.ntmps27 rfl (Nat.le_of_ble_eq_true rfl) <| s_seq <| s_region0 fun ops => ?_
  refine o_boxA rfl rfl fun b7 => ?_
  refine oA rfl <| o_nil <| n_K <| s_seq ?_
  refine s_draw [] [(9, [(0, false), (1, false), (2, false), (3, false), (4, false), (5, false), (7, false), (8, false), (6, true)]), (10, [(9, true)]), (11, [(10, false)])] (by kernel_rfl) rfl fun ops w0 H0 y => ?_
  refine p_all <| xM rfl <| xN rfl <| xF rfl ?_
  refine xR (rd_ld rfl mM rfl) ?_
  refine xM rfl <| xM rfl <| xM rfl ?_
  refine xR (rd_ldA rfl mM (by first | exact cut_vb | rfl)) ?_
  refine x_so ?_
  refine c_is rfl (dat_fn (a := a) (t := t) (dk := dk)) sP rfl aQ ?_
  refine o_nil ⟨rfl, ⟨_, sP⟩, ?_⟩
  refine x_nil <| p_none <| x_so ?_
  refine c_is rfl (program_a ha) sP rfl aQ ?_
  refine o_nil ⟨rfl, ⟨_, sP⟩, ?_⟩
  refine x_nil <| p_all <| xA rfl <| x_nil <| p_end <| n_K <| s_seq <| s_seq <| s_region0 fun ops => oM rfl <| oR (rd_bin rfl rfl rfl) <| o_nil <| n_K ?_
  refine s_cond rfl (fun c21 => ?_) (fun c21 => ?_)
  · skip
    have h33 : (progC c (atD t.ts b) k p).1 = 33 := (by simpa using c21)
    obtain ⟨m, hm⟩ : ∃ m : Nat, k = m := ⟨k.toNat, by have := prog_33 h33; omega⟩
    subst hm
    have hm8 : m ≤ 8 := (by have := prog_33 h33; omega)
    refine s_region0 fun ops => oM rfl <| oM rfl <| oM rfl ?_
    refine oR (rd_ldA rfl mM (by first | exact cut_vb | rfl)) ?_
    refine o_bslice_k (cs := vbc p) (zs := List.replicate 258 (.int .u8 0)) rfl (fill_page p) rfl rfl fun b26 => ?_
    refine c_ex rfl (move1_fn (c := (progC c (atD t.ts b) m p).2) (t := t) (dk := dk) (b := b) (p := p) ((prog_aC _ _ _ _).trans ha) ((bads_len (prog_bads _ _ _ _)).trans hn) hw hm8) sP rfl fun v27 Y27 h27 => ?_
    obtain ⟨t', e, c', hb', rfl, rfl, ha', hd⟩ := h27
    refine so_ap aQ ?_
    refine oA rfl <| o_nil <| n_K <| s_seq <| s_region0 fun ops => oM rfl <| oA rfl <| o_nil <| n_K <| s_ret ?_
    exact leaf_r (rets1 Tryz.results27 (rv_tmp rfl)) (by exact ⟨t', e, c', hb', rfl, rfl, ha', fun _ => hd, fun h => absurd h33 h⟩) (by rw [hb']; exact sP)
  · skip
    have h33 : (progC c (atD t.ts b) k p).1 ≠ 33 := (by simpa using c21)
    refine s_skip <| n_K <| s_seq <| s_region0 fun ops => oM rfl <| oA rfl <| o_nil <| n_K <| s_ret ?_
    exact leaf_r (rets1 Tryz.results27 (rv_tmp rfl)) (by exact ⟨t, _, _, rfl, rfl, rfl, (prog_aC _ _ _ _).trans ha, fun h => absurd h h33, fun _ => rfl⟩) sP
theorem derase_fn (ha : c.aC = a) (hn : c.blocks.length = n) (hw : WT n t.ts) {b : Int} :
    Does Tryz.prog 33 [ptr dk, .int .i64 b] ((dk, true, C [ptr a, ptr t.b] tDk) :: (tabH a t ++ (chH c ++ [])))
    (fun v H => ∃ (t' : Tab) (e : Int) (c' : Chip), t'.b = t.b ∧ v = .int .i64 e ∧ H = (dk, true, C [ptr a, ptr t'.b] tDk) :: (tabH a t' ++ (chH c' ++ [])) ∧ c'.aC = a ∧ EraseD n b c t.ts (e, t'.ts, c')) := by
  refine fn_enter (n := 20) Tryz.func33 Tryz.ntmps33 rfl (Nat.le_of_ble_eq_true rfl) <| s_seq <| s_region0 fun ops => oA rfl <| o_nil <| n_K <| s_seq ?_
  refine s_draw [] [(7, [(0, false), (1, false), (2, false), (3, false), (4, false), (5, false), (6, true)]), (8, [(7, true)]), (9, [(8, false)])] (by kernel_rfl) rfl fun ops w0 H0 y => ?_
  refine p_all <| xM rfl <| xN rfl <| xF rfl ?_
  refine xR (rd_ld rfl mM rfl) ?_
  refine xM rfl <| xM rfl <| x_so ?_
  refine c_is rfl (dat_fn (a := a) (t := t) (dk := dk)) sP rfl aQ ?_
  refine o_nil ⟨rfl, ⟨_, sP⟩, ?_⟩
  refine x_nil <| p_none <| x_so ?_
  refine c_is rfl (erase_a ha) sP rfl aQ ?_
  refine o_nil ⟨rfl, ⟨_, sP⟩, ?_⟩
  refine x_nil <| p_all <| xA rfl <| x_nil <| p_end <| n_K <| s_seq <| s_seq <| s_region0 fun ops => oM rfl <| oR (rd_bin rfl rfl rfl) <| o_nil <| n_K ?_
  refine s_cond rfl (fun c15 => ?_) (fun c15 => ?_)
  · skip
    have h33 : (eraseC c (atD t.ts b)).1 = 33 := (by simpa using c15)
    refine s_region0 fun ops => oM rfl <| oM rfl ?_
    refine c_ex rfl (move0_fn (c := (eraseC c (atD t.ts b)).2) (t := t) (dk := dk) (b := b) ((erase_aC _ _).trans ha) ((bads_len (erase_bads _ _)).trans hn) hw) sP rfl fun v18 Y18 h18 => ?_
    obtain ⟨t', e, c', hb', rfl, rfl, ha', hd⟩ := h18
    refine so_ap aQ ?_
    refine oA rfl <| o_nil <| n_K <| s_seq <| s_region0 fun ops => oM rfl <| oA rfl <| o_nil <| n_K <| s_ret ?_
    exact leaf_r (rets1 Tryz.results33 (rv_tmp rfl)) (by exact ⟨t', e, c', hb', rfl, rfl, ha', fun _ => hd, fun h => absurd h33 h⟩) (by rw [hb']; exact sP)
  · skip
    have h33 : (eraseC c (atD t.ts b)).1 ≠ 33 := (by simpa using c15)
    refine s_skip <| n_K <| s_seq <| s_region0 fun ops => oM rfl <| oA rfl <| o_nil <| n_K <| s_ret ?_
    exact leaf_r (rets1 Tryz.results33 (rv_tmp rfl)) (by exact ⟨t, _, _, rfl, rfl, rfl, (erase_aC _ _).trans ha, fun h => absurd h h33, fun _ => rfl⟩) sP
end
end Go.Proofs.YtdfidkhbldedlaaGreat
end
section
/- Walks: acts that are to fail; disks made and opened. -/
namespace Go.Proofs.YtdfidkhbldedlaaGreat
open Go.K
set_option linter.unusedVariables false
set_option linter.unusedSimpArgs false
instance agg48 : Agg Tryz.prog 48 true := ⟨⟨_, Tryz.underlying48, rfl⟩⟩
instance siz48 : Siz Tryz.prog 48 2 := ⟨by kernel_rfl⟩
instance zer48 : Zer Tryz.prog 48 ([.slice none 0 0, .int .i64 0]) := ⟨by kernel_rfl⟩
instance zer62 : Zer Tryz.prog 62 ([.pointer none, .pointer none]) := ⟨by kernel_rfl⟩
instance plc48 : Plc Tryz.prog 48 [(0, 1), (1, 1)] := ⟨⟨_, Tryz.underlying48, fun _ => by kernel_rfl⟩⟩
instance plc62 : Plc Tryz.prog 62 [(0, 1), (1, 1)] := ⟨⟨_, Tryz.underlying62, fun _ => by kernel_rfl⟩⟩
instance ent29 : Ent Tryz.prog 29 := ⟨fun _ _ => by kernel_rfl⟩
instance ent68 : Ent Tryz.prog 68 := ⟨fun _ _ => by kernel_rfl⟩
def failC (c : Chip) (pr : Bool) (s : Sl Int) : Chip := if pr = true then { c with pf := s, pc := 0 } else { c with wf := s, wc := 0 }
section
variable {c : Chip} {a : Nat}
theorem fail_fn (ha : c.aC = a) {pr : Bool} {s : Sl Int} (hs : s.list.length ≤ 1000) : Does Tryz.prog 29 [ptr a, .bool pr, s.val] (chH c ++ (s.hp tI ++ []))
    (fun v H => ∃ s' : Sl Int, v = .tuple #[] ∧ H = chH (failC c pr s') ++ (s.hp tI ++ []) ∧ s'.list = s.list ∧ s'.isOwn = true) := by
  subst ha
  rw [chH_eq c]; simp only [List.cons_append, List.append_assoc, List.nil_append]
  refine fn_enter (n := 19) Tryz.func29 Tryz.ntmps29 rfl (Nat.le_of_ble_eq_true rfl) <| s_seq <| s_region0 fun ops => oM rfl ?_
  refine c_ex rfl (clonei_fn hs) sP rfl fun v8 Y8 h8 => ?_
  obtain ⟨s', rfl, rfl, hs', ho'⟩ := h8
  refine so_ap aQ ?_
  refine oR (rd_build_s rfl rfl) ?_
  refine o_alloc rfl fun b6 => ?_
  refine o_store rfl rfl uD rfl rfl rfl ?_
  refine o_nil <| n_K <| s_seq <| s_region0 fun ops => oM rfl <| o_nil <| n_K ?_
  refine s_cond rfl (fun c10 => ?_) (fun c10 => ?_)
  · skip
    refine s_region0 fun ops => oM rfl ?_
    refine oR (rd_ldA rfl mM rfl) ?_
    refine oN rfl <| oF rfl ?_
    refine o_store rfl rfl uD rfl rfl rfl ?_
    refine o_nil ?_
    exact leaf_rN (ret0 Tryz.results29) (by exact ⟨s', rfl, rfl, hs', ho'⟩) (by unfold failC; rw [if_pos c10, chH_eq]; simp only [List.cons_append, List.append_assoc, List.nil_append]; exact sP)
  · skip
    refine s_region0 fun ops => oM rfl ?_
    refine oR (rd_ldA rfl mM rfl) ?_
    refine oN rfl <| oF rfl ?_
    refine o_store rfl rfl uD rfl rfl rfl ?_
    refine o_nil ?_
    exact leaf_rN (ret0 Tryz.results29) (by exact ⟨s', rfl, rfl, hs', ho'⟩) (by unfold failC; rw [if_neg (by rw [c10]; exact Bool.false_ne_true), chH_eq]; simp only [List.cons_append, List.append_assoc, List.nil_append]; exact sP)
theorem disk_ok {tb : Nat} : Does Tryz.prog 68 [ptr a, ptr tb, .int .i64 0] [] (fun v H => ∃ dk, v = .tuple #[ptr dk, .int .i64 0] ∧ H = [(dk, true, C [ptr a, ptr tb] tDk)]) := by
  refine fn_enter (n := 15) Tryz.func68 Tryz.ntmps68 rfl (Nat.le_of_ble_eq_true rfl) <| s_seq <| s_region0 fun ops => oA rfl <| oA rfl <| o_nil <| n_K <| s_seq <| s_seq <| s_region0 fun ops => oM rfl <| oR (rd_bin rfl rfl rfl) <| o_nil <| n_K ?_
  refine s_condF rfl ?_
  refine s_skip <| n_K <| s_seq <| s_region0 fun ops => oM rfl <| oM rfl <| oR (rd_build_s rfl rfl) ?_
  refine o_box rfl rfl fun b14 => ?_
  refine oA rfl <| oA rfl <| o_nil <| n_K <| s_ret ?_
  exact leaf_r (rets2 Tryz.results68 (rv_tmp rfl) (rv_tmp rfl)) (by exact ⟨_, rfl, rfl⟩) sP
end
end Go.Proofs.YtdfidkhbldedlaaGreat
end
section
/- Walks of the laws of disks: a record's page; a disk of a new chip. -/
namespace Go.Proofs.YtdfidkhbldedlaaGreat
open Go.K
set_option linter.unusedVariables false
set_option linter.unusedSimpArgs false
instance ent26 : Ent Tryz.prog 26 := ⟨fun _ _ => by kernel_rfl⟩
instance ent28 : Ent Tryz.prog 28 := ⟨fun _ _ => by kernel_rfl⟩
instance ent62 : Ent Tryz.prog 62 := ⟨fun _ _ => by kernel_rfl⟩
def kindL (b : By) : By := 1 + b % 200
theorem kindL_nat : ∀ b : By, (kindL b).toNat = 1 + b.toNat % 200 := all8 (by decide +kernel)
theorem kind_u8 : ∀ b : By, IntKind.u8.wrap (1 + ((b.toNat % 200 : Nat) : Int)) = ((kindL b).toNat : Int) := all8 (by decide +kernel)
/-- A law's page. -/
def bodyL (b : By) (k : Int) : List By := [b, byteI k, b ^^^ 85]
def pageL (b : By) (k : Int) : Pg := (writeF (kindL b) (bodyL b k)).1
theorem rd_rem8 {P : Program} {E : Env} {H : Hp} {t u : TypeId} {x y : Operand} {i m : Nat} (hx : ev E x = some (.int .u8 (i : Nat))) (hy : ev E y = some (.int .u8 (m : Nat))) (hm : m ≠ 0) : Rd P E H (.binOp .rem t x y u) (.int .u8 ((i % m : Nat) : Int)) := fun a w d ty pos af g h1 h2 => by
  have e1 := ev_ok h1 hx
  have e2 := ev_ok h1 hy
  have e3 : ¬ (m : Int) = 0 := by omega
  have e4 : (i : Int).tmod (m : Int) = ((i % m : Nat) : Int) := by
    rw [Int.tmod_eq_emod_of_nonneg (by omega), ← Int.natCast_emod]
  simp only [execOp, e1, e2, eqGuard, binOp, Op.intDiv, if_neg e3, e4]
  simp
theorem write3_fn {q b : Nat} {kind x y z : By} : Does Tryz.prog 66 [bv kind, .slice (some ⟨q, 0, none⟩) 1 1] [(q, true, C [.slice (some ⟨b, 0, none⟩) 3 3] tSB), (b, true, C [bv x, bv y, bv z] tU8)]
    (Is (.tuple #[.agg (vbc (writeF kind [x, y, z]).1).toArray, .int .i64 (writeF kind [x, y, z]).2]) [(q, true, C [.slice (some ⟨b, 0, none⟩) 3 3] tSB), (b, true, C [bv x, bv y, bv z] tU8)]) := by
  have h := write_one (b := q) (kind := kind) (s := .own b [x, y, z] 3 [] ⟨by simp, Nat.le_refl _, by simp⟩) (by show 3 ≤ 70000000000000; omega)
  rw [Sl.hp_own] at h
  exact h
theorem byte_i64 (k : Int) : IntKind.u8.wrap k = ((byteI k).toNat : Int) := wrap_u .u8 rfl k
theorem page_fn7 {b : By} {k : Int} : Does Tryz.prog 28 [bv b, .int .i64 k] [] (Is (.agg (vbc (pageL b k)).toArray) []) := by
  refine fn_enter (n := 22) Tryz.func28 Tryz.ntmps28 rfl (Nat.le_of_ble_eq_true rfl) <| s_seq <| s_region0 fun ops => ?_
  refine o_alloc rfl fun b4 => ?_
  rw [zeroP_eq]
  refine o_nil <| n_K <| s_seq <| s_region0 fun ops => oM rfl ?_
  refine oR (rd_rem8 (i := b.toNat) (m := 200) rfl rfl (by omega)) ?_
  refine oR (show Rd _ _ _ _ (bv (kindL b)) from by (unfold bv; rw [← kind_u8]; exact rd_bin rfl rfl rfl)) ?_
  refine oM rfl <| oM rfl ?_
  refine oR (show Rd _ _ _ _ (bv (byteI k)) from by (unfold bv; rw [← byte_i64]; exact rd_convI rfl)) ?_
  refine oM rfl ?_
  refine oR (show Rd _ _ _ _ (bv (b ^^^ 85)) from by (unfold bv; rw [← xor_by]; exact rd_bin rfl rfl rfl)) ?_
  refine o_bslice_k rfl rfl rfl rfl fun b16 => ?_
  refine o_bslice_k rfl rfl rfl rfl fun b17 => ?_
  refine c_is rfl (write3_fn (kind := kindL b) (x := b) (y := byteI k) (z := b ^^^ 85)) sP rfl aQ ?_
  refine oM rfl <| oE rfl rfl <| oE rfl rfl ?_
  refine o_alloc rfl fun b5 => ?_
  first | refine o_store rfl rfl uD (vc_vb) (vbc_len) (spl_vb (by first | exact vbc_len | exact List.length_replicate ..)) ?_ | refine o_store rfl rfl uD rfl rfl rfl ?_
  refine oA rfl <| o_nil <| n_K <| s_seq <| s_region0 fun ops => ?_
  refine oR (rd_ldA rfl mM (by first | exact cut_vb | rfl)) ?_
  first | refine o_store rfl rfl uD (vc_vb) (vbc_len) (spl_vb (by first | exact vbc_len | exact List.length_replicate ..)) ?_ | refine o_store rfl rfl uD rfl rfl rfl ?_
  refine o_nil <| n_K <| s_ret ?_
  refine leaf_is (rets1 Tryz.results28 (rv_cell rfl mM (by first | exact cut_vb | rfl))) ?_ sP
  rfl
/-- The law's page is a record's. -/
theorem pageL_right (b : By) (k : Int) : wrong (kindL b) (bodyL b k) = false := by
  unfold wrong
  rw [kindL_nat]
  simp [bodyL]
  omega
theorem pageL_eq (b : By) (k : Int) : pageL b k = pageW (kindL b) (bodyL b k) := by
  unfold pageL writeF
  rw [if_neg (by rw [pageL_right]; simp)]
/-- A chip's table is made: what stands elsewhere. -/
theorem formatG_fn {pp aC aB m : Nat} (hm : 16 ≤ m ∧ m ≤ 40) (hX : fmtX (badL m []) = false) : Does Tryz.prog 15 [ptr aC] (chH (newG (-1) 0 pp aC aB m []))
    (fun v H => ∃ (tb : Tab) (c' : Chip), v = .tuple #[ptr tb.b, .int .i64 0] ∧ H = tabH aC tb ++ (chH c' ++ []) ∧ c'.aC = aC ∧ c'.aP = pp ∧ JI c' tb.ts (fmtV (badL m []) ((m : Int) - 6) m) (badL m []) m 0 ∧ PgP c' (PlB m) ∧ ∀ i, 2 ≤ i → i < m → c'.blocks[i]? = some (newB false)) := by
  have hlen : (newG (-1) 0 pp aC aB m []).blocks.length = m := new_len
  refine (format_b (c := newG (-1) 0 pp aC aB m []) (a := aC) rfl (by rw [hlen]; omega)).mono fun v H h => ?_
  obtain ⟨t, c', h1, h2, h3, h4⟩ := new_JI (aP := pp) (aC := aC) (aB := aB) hm hX
  obtain ⟨c2, q1, q2⟩ := new_format (after := -1) (keep := 0) (aP := pp) (aC := aC) (aB := aB) (n := m) (bad := []) (by omega) (by omega) ((new_fmtX hm).trans hX)
  unfold FormatR at h
  rw [h1] at h
  rcases h with ⟨tb, rfl, rfl, h5, _⟩ | ⟨_, _, h6⟩
  · refine ⟨tb, c', rfl, rfl, h3, h4, by rw [h5]; exact h2, newPg hm hX h1 h2, fun i hi hl => ?_⟩
    rw [q1] at h1
    simp only [Prod.mk.injEq] at h1
    rw [← h1.2.2, q2, prg_other (by omega), new_block hl]
    rfl
  · exact absurd rfl h6
theorem dformat_fn {pp aC aB m : Nat} (hm : 16 ≤ m ∧ m ≤ 40) (hX : fmtX (badL m []) = false) : Does Tryz.prog 62 [ptr aC] (chH (newG (-1) 0 pp aC aB m []))
    (fun v H => ∃ (dk : Nat) (tb : Tab) (c' : Chip), v = .tuple #[ptr dk, .int .i64 0] ∧ H = (dk, true, C [ptr aC, ptr tb.b] tDk) :: (tabH aC tb ++ (chH c' ++ [])) ∧ c'.aC = aC ∧ c'.aP = pp ∧ JI c' tb.ts (fmtV (badL m []) ((m : Int) - 6) m) (badL m []) m 0 ∧ ∀ i, 2 ≤ i → i < m → c'.blocks[i]? = some (newB false)) := by
  refine fn_enter (n := 17) Tryz.func62 Tryz.ntmps62 rfl (Nat.le_of_ble_eq_true rfl) <| s_seq <| s_region0 fun ops => oA rfl <| oA rfl <| o_nil <| n_K <| s_seq <| s_region0 fun ops => oM rfl ?_
  refine c_ex rfl (formatG_fn (pp := pp) (aC := aC) (aB := aB) (m := m) hm hX) sP rfl fun v8 Y8 h8 => ?_
  obtain ⟨tb, c', rfl, rfl, a1, a2, a3, _, a4⟩ := h8
  refine so_ap aQ ?_
  refine oM rfl <| oE rfl rfl <| oE rfl rfl <| oA rfl <| oA rfl <| o_nil <| n_K <| s_seq <| s_region0 fun ops => oM rfl <| oM rfl <| oM rfl ?_
  refine c_ex rfl (disk_ok (a := aC) (tb := tb.b)) sP rfl fun v14 Y14 h14 => ?_
  obtain ⟨dk, rfl, rfl⟩ := h14
  refine so_ap aQ ?_
  refine oE rfl rfl <| oE rfl rfl <| oA rfl <| oA rfl <| o_nil <| n_K <| s_ret ?_
  exact leaf_r (rets2 Tryz.results62 (rv_tmp rfl) (rv_tmp rfl)) (by exact ⟨dk, tb, c', rfl, rfl, a1, a2, a3, a4⟩) sP
theorem laid_fn {m : Nat} (hm : 16 ≤ m ∧ m ≤ 40) (hX : fmtX (badL m []) = false) : Does Tryz.prog 26 [.int .i64 (m : Nat)] []
    (fun v H => ∃ (dk aC : Nat) (tb : Tab) (c' : Chip), v = ptr dk ∧ H = (dk, true, C [ptr aC, ptr tb.b] tDk) :: (tabH aC tb ++ (chH c' ++ [])) ∧ c'.aC = aC ∧ JI c' tb.ts (fmtV (badL m []) ((m : Int) - 6) m) (badL m []) m 0 ∧ ∀ i, 2 ≤ i → i < m → c'.blocks[i]? = some (newB false)) := by
  have hok : okNew (m : Int) [] = true := by unfold okNew; simp; omega
  refine fn_enter (n := 21) Tryz.func26 Tryz.ntmps26 rfl (Nat.le_of_ble_eq_true rfl) <| s_seq <| s_region0 fun ops => oA rfl <| o_nil <| n_K <| s_seq <| s_region0 fun ops => ?_
  refine c_ex rfl (newPower_fn) sP rfl fun v8 Y8 h8 => ?_
  obtain ⟨p8, rfl, rfl⟩ := h8
  refine so_ap aQ ?_
  refine oM rfl ?_
  refine c_ex rfl (new0_fn (n := m) hok) sP rfl fun v10 Y10 h10 => ?_
  obtain ⟨aC, aB, rfl, rfl⟩ := h10
  refine so_ap aQ ?_
  refine oM rfl <| oE rfl rfl <| oE rfl rfl <| oA rfl <| oA rfl <| o_nil <| n_K <| s_seq <| s_seq <| s_region0 fun ops => oM rfl <| oR (rd_eqNil rfl rfl) <| o_nil <| n_K ?_
  refine s_condF rfl ?_
  refine s_skip <| n_K <| s_seq <| s_region0 fun ops => oM rfl ?_
  refine c_ex rfl (dformat_fn (pp := p8) (aC := aC) (aB := aB) (m := m) hm hX) sP rfl fun v17 Y17 h17 => ?_
  obtain ⟨dk, tb, c', rfl, rfl, a1, a2, a3, a4⟩ := h17
  refine so_ap aQ ?_
  refine oM rfl <| oE rfl rfl <| oE rfl rfl <| oA rfl <| oA rfl <| o_nil <| n_K <| s_seq <| s_region0 fun ops => oM rfl <| oA rfl <| o_nil <| n_K <| s_ret ?_
  exact leaf_r (rets1 Tryz.results26 (rv_tmp rfl)) (by exact ⟨dk, aC, tb, c', rfl, rfl, a1, a3, a4⟩) sP
end Go.Proofs.YtdfidkhbldedlaaGreat
end
section
/- Plain laws of disks: mended pages; acts on a chip's other blocks. -/
namespace Go.Proofs.YtdfidkhbldedlaaGreat
open Go.K
set_option linter.unusedVariables false
set_option linter.unusedSimpArgs false
theorem mend_err {p : Pg} (h : (readF p).2.2.2 ≠ 0) : mendP p = p := by unfold mendP; rw [if_pos (.inl h)]
theorem mend_blank : mendP blankP = blankP := mend_err (by rw [readF_blank blankP_b]; decide)
theorem mend_torn {p : Pg} (h : p[257] = 255#8) : mendP p = p := mend_err (readF_torn h)
theorem mend_page {k : By} {b : List By} (hw : wrong k b = false) : mendP (pageW k b) = pageW k b := by
  unfold mendP
  rw [readF_page hw, if_pos (.inr rfl)]
theorem mend_flip {k : By} {b : List By} {i : Nat} (hw : wrong k b = false) (hi : i < 2064) : mendP (flipP (pageW k b) i) = pageW k b := by
  unfold mendP
  rw [readF_flip hw hi, if_neg (by simp)]
  simp only
  unfold writeF
  rw [if_neg (by rw [hw]; simp)]
theorem mend_pageL (b : By) (k : Int) : mendP (pageL b k) = pageL b k := by rw [pageL_eq]; exact mend_page (pageL_right b k)
theorem mend_flipL {b : By} {k : Int} {i : Nat} (hi : i < 2064) : mendP (flipP (pageL b k) i) = pageL b k := by rw [pageL_eq]; exact mend_flip (pageL_right b k) hi
/-! acts on a block that isn't the table's own -/
theorem Hold.far {c c' : Chip} {v : Nat} {u l : List Int} {a k : Nat} (h : Hold c v u l a) (hk : 2 ≤ k) (f : Fr k c c') : Hold c' v u l a := by
  have ho : ∀ i, i < 2 → c'.blocks[i]? = c.blocks[i]? := fun i hi => f.oth i (by omega)
  refine ⟨by rw [f.len]; exact h.ok, h.a2, fun i hi => by rw [ho i hi]; exact h.bs i hi, fun i hi b hb => ?_, ?_⟩
  · rw [ho i hi] at hb
    rw [f.len]
    exact h.le i hi b hb
  · rw [ho a h.a2, f.len]
    exact h.ex
theorem TI.far {c c' : Chip} {t : TS} {k : Nat} (h : TI c t) (hk : 2 ≤ k) (f : Fr k c c') : TI c' t := by
  obtain ⟨a, h1, h2, h3⟩ := h
  exact ⟨a, h1, h2.far hk f, by rw [f.oth a (by have := h2.a2; omega)]; exact h3⟩
/-- No block of a chip is bad, and pages from the next one on hold nothing. -/
def AllB (c : Chip) : Prop := ∀ (i : Nat) (b : Blk), c.blocks[i]? = some b → BI b ∧ b.bad = false
theorem AllB.far {c c' : Chip} {k : Nat} {b : Blk} (h : AllB c) (f : Fr k c c') (hb : c'.blocks[k]? = some b) (h1 : BI b) (h2 : b.bad = false) : AllB c' := fun i b' hb' => by
  by_cases e : i = k
  · subst e
    rw [hb] at hb'
    cases hb'
    exact ⟨h1, h2⟩
  · rw [f.oth i e] at hb'
    exact h i b' hb'
theorem AllB.keep {c c' : Chip} {v : Nat} {u l : List Int} {a : Nat} (h : AllB c) (f : Fr2 c c') (hh : Hold c' v u l a) : AllB c' := fun i b' hb' => by
  by_cases e : i < 2
  · obtain ⟨b2, h1, h2, h3⟩ := hh.bs i e
    rw [h1] at hb'
    cases hb'
    exact ⟨h2, h3⟩
  · rw [f.oth i (by omega)] at hb'
    exact h i b' hb'
/-- A program of a block: what it comes to. -/
theorem prog_data {c : Chip} {a j : Nat} {b : Blk} {d : Pg} {B : Int} (up : Up c) (hb : c.blocks[a]? = some b) (hj : j < 8) (hbad : b.bad = false) (hbi : BI b) (hn : b.next = j) (hc : Cnt c B) (hB : B < 8000000000000000000) :
    ∃ e m c', progC c a j d = (e, c') ∧ Fr a c c' ∧ Cnt c' (B + 1) ∧ c'.blocks[a]? = some (wrK b j (andP m blankP d)) ∧
      ((e = 30 ∧ c'.off = true ∧ ¬ c.after < 0) ∨ (e = 33 ∧ m = 129 ∧ Up c' ∧ FP c' + 1 ≤ FP c) ∨ (e = 0 ∧ m = 258 ∧ Up c')) := by
  obtain ⟨e, m, hp, hcase⟩ := prog_step up (d := d) hb hj hbad hbi hn
  obtain ⟨hfr, hcn, hfp⟩ := cp_fr (a := a) (b := wrK b j (andP m blankP d)) hc (by omega)
  have hoff := cp_off (a := a) (b := wrK b j (andP m blankP d)) up
  refine ⟨e, m, _, hp, hfr, hcn, setB_at hb, ?_⟩
  rcases hcase with ⟨h1, h2⟩ | ⟨h1, h2, h3, h4⟩ | ⟨h1, h2, h3, h4⟩
  · exact .inl ⟨h1, by rw [hoff]; exact h2, ends_pos h2⟩
  · exact .inr (.inl ⟨h1, h2, up.of hfr.dead hfr.out (by rw [hoff]; exact h3), hfp h4⟩)
  · exact .inr (.inr ⟨h1, h2, up.of hfr.dead hfr.out (by rw [hoff]; exact h3)⟩)
end Go.Proofs.YtdfidkhbldedlaaGreat
end
section
/- Plain laws of disks: what filling a block leaves. -/
namespace Go.Proofs.YtdfidkhbldedlaaGreat
open Go.K
set_option linter.unusedVariables false
set_option linter.unusedSimpArgs false
/-- What is left of a chip behind acts on one block, one of which may have failed, or been the last. -/
def Out (c c' : Chip) (e : Int) : Prop := (e = 30 ∧ c'.off = true ∧ ¬ c.after < 0) ∨ (e = 33 ∧ Up c' ∧ FP c' + 1 ≤ FP c) ∨ (e = 0 ∧ Up c')
theorem Out.step {k : Nat} {c c1 c2 : Chip} {e : Int} (f : Fr k c c1) (h : Out c1 c2 e) : Out c c2 e := by
  rcases h with ⟨h1, h2, h3⟩ | ⟨h1, h2, h3⟩ | ⟨h1, h2⟩
  · exact .inl ⟨h1, h2, fun hp => h3 (by rw [(f.pos hp).1]; exact hp)⟩
  · exact .inr (.inl ⟨h1, h2, by have := f.fp; omega⟩)
  · exact .inr (.inr ⟨h1, h2⟩)
theorem fillGo_spec {a to' : Nat} {bs : Blk} (hne : a ≠ to') : ∀ (f : Nat) (c : Chip) (i : Nat) (bt : Blk) (B : Int), i + f ≤ 8 → Up c → c.blocks[a]? = some bs → c.blocks[to']? = some bt → bt.bad = false → BI bt → bt.next = i → Cnt c B → B + f < 8000000000000000000 →
    ∃ e c', fillGo f c a to' i = (e, c') ∧ Fr to' c c' ∧ Cnt c' (B + f) ∧ Out c c' e ∧ ∃ b', c'.blocks[to']? = some b' ∧ BI b' ∧ b'.bad = false ∧
      (e = 0 → b'.next = ((i + f : Nat) : Int) ∧ (∀ (j : Nat) (h : j < 8), j < i → b'.pages[j] = bt.pages[j]) ∧ ∀ (j : Nat) (h : j < 8), i ≤ j → j < i + f → b'.pages[j] = mendP bs.pages[j])
  | 0, c, i, bt, B, hf, up, ha, hb, hbad, hbi, hn, hc, hB =>
    ⟨0, c, rfl, Fr.refl _ _, by simpa using hc, .inr (.inr ⟨rfl, up⟩), bt, hb, hbi, hbad, fun _ => ⟨hn, fun _ _ _ => rfl, fun j h h1 h2 => by omega⟩⟩
  | f + 1, c, i, bt, B, hf, up, ha, hb, hbad, hbi, hn, hc, hB => by
    have hi8 : i < 8 := by omega
    have hal : a < c.blocks.length := (List.getElem?_eq_some_iff.1 ha).1
    have hm : mayE c (a : Nat) (i : Nat) = 0 := mayU up hal hi8
    have hrd : readP c (a : Nat) (i : Nat) = bs.pages[i] := read_of hm ha hi8
    obtain ⟨e, m, c1, hp, hfr, hcn, hbk, hcase⟩ := prog_data (d := mendP bs.pages[i]) up hb hi8 hbad hbi hn hc (by omega)
    have hf1 : fill1 c (a : Nat) (to' : Nat) (i : Nat) = (e, c1) := by
      unfold fill1
      rw [if_pos hm, hrd, hp]
    have hbi' := wrK_bi (q := andP m blankP (mendP bs.pages[i])) hbi hi8 hn
    have hcn' : Cnt c1 (B + ((f + 1 : Nat) : Int)) := ⟨by have := hcn.p0; push_cast; omega, by have := hcn.w0; push_cast; omega⟩
    unfold fillGo
    rw [hf1]
    rcases hcase with ⟨rfl, h1, h2⟩ | ⟨rfl, h1, h2, h3⟩ | ⟨rfl, h1, h2⟩
    · rw [if_pos (by simp)]
      exact ⟨30, c1, rfl, hfr, hcn', .inl ⟨rfl, h1, h2⟩, _, hbk, hbi', hbad, fun h => by cases h⟩
    · rw [if_pos (by simp)]
      exact ⟨33, c1, rfl, hfr, hcn', .inr (.inl ⟨rfl, h2, h3⟩), _, hbk, hbi', hbad, fun h => by cases h⟩
    · rw [if_neg (by simp)]
      subst h1
      obtain ⟨e2, c2, k1, k2, k3, k4, b2, k5, k6, k7, k8⟩ := fillGo_spec hne f c1 (i + 1) (wrK bt i (andP 258 blankP (mendP bs.pages[i]))) (B + 1) (by omega) h2 (by rw [hfr.oth a hne]; exact ha) hbk hbad hbi' rfl hcn (by omega)
      refine ⟨e2, c2, ?_, hfr.trans k2, ⟨by have := k3.p0; push_cast; omega, by have := k3.w0; push_cast; omega⟩, k4.step hfr, b2, k5, k6, k7, fun h => ?_⟩
      · exact_mod_cast k1
      · obtain ⟨q1, q2, q3⟩ := k8 h
        refine ⟨by rw [q1]; push_cast; omega, fun j hj hlt => ?_, fun j hj hge hlt => ?_⟩
        · rw [q2 j hj (by omega), wrK_at hj, if_neg (by omega)]
        · by_cases e1 : j = i
          · subst e1
            rw [q2 j hj (by omega), wrK_at hj, if_pos rfl]
            exact and_full (Nat.le_refl _)
          · exact q3 j hj (by omega) (by omega)
end Go.Proofs.YtdfidkhbldedlaaGreat
end
section
/- Plain laws of disks: what trying a spare leaves. -/
namespace Go.Proofs.YtdfidkhbldedlaaGreat
open Go.K
set_option linter.unusedVariables false
set_option linter.unusedSimpArgs false
/-- As Out, with erases. -/
def OutW (c c' : Chip) (e : Int) : Prop := (e = 30 ∧ c'.off = true ∧ ¬ c.after < 0) ∨ (e = 33 ∧ Up c' ∧ FP c' + FW c' + 1 ≤ FP c + FW c) ∨ (e = 0 ∧ Up c')
theorem Out.w {k : Nat} {c c' : Chip} {e : Int} (f : Fr k c c') (h : Out c c' e) : OutW c c' e := by
  rcases h with h | ⟨h1, h2, h3⟩ | h
  · exact .inl h
  · exact .inr (.inl ⟨h1, h2, by have := f.fw; omega⟩)
  · exact .inr (.inr h)
theorem OutW.step {k : Nat} {c c1 c2 : Chip} {e : Int} (f : Fr k c c1) (h : OutW c1 c2 e) : OutW c c2 e := by
  rcases h with ⟨h1, h2, h3⟩ | ⟨h1, h2, h3⟩ | ⟨h1, h2⟩
  · exact .inl ⟨h1, h2, fun hp => h3 (by rw [(f.pos hp).1]; exact hp)⟩
  · exact .inr (.inl ⟨h1, h2, by have := f.fp; have := f.fw; omega⟩)
  · exact .inr (.inr ⟨h1, h2⟩)
/-- What stands in a block that was filled. -/
def Filled (bs b' : Blk) (count : Nat) (more : List Pg) : Prop :=
  b'.next = ((count + more.length : Nat) : Int) ∧ (∀ (j : Nat) (h : j < 8), j < count → b'.pages[j] = mendP bs.pages[j]) ∧ ∀ (p : Pg) (h : count < 8), more = [p] → b'.pages[count] = p
theorem fillC_spec {a to' : Nat} {bs bt : Blk} {c : Chip} {count : Nat} {more : List Pg} {B : Int} (hne : a ≠ to') (hl : more.length ≤ 1) (h8 : count + more.length ≤ 8) (up : Up c) (ha : c.blocks[a]? = some bs) (hb : c.blocks[to']? = some bt) (hbad : bt.bad = false) (hbi : BI bt) (hn : bt.next = 0) (hc : Cnt c B) (hB : B + 100 < 8000000000000000000) :
    ∃ e c', fillC c (a : Nat) (to' : Nat) count more = (e, c') ∧ Fr to' c c' ∧ Cnt c' (B + 9) ∧ Out c c' e ∧ ∃ b', c'.blocks[to']? = some b' ∧ BI b' ∧ b'.bad = false ∧ (e = 0 → Filled bs b' count more) := by
  obtain ⟨e, c1, h1, h2, h3, h4, b1, h5, h6, h7, h8'⟩ := fillGo_spec hne count c 0 bt B (by omega) up ha hb hbad hbi hn hc (by omega)
  have h1' : fillGo count c (a : Nat) (to' : Nat) 0 = (e, c1) := h1
  have hc1 : Cnt c1 (B + 9) := ⟨by have := h3.p0; omega, by have := h3.w0; omega⟩
  unfold fillC
  rw [h1']
  by_cases he : e = 0
  · subst he
    rw [if_neg (by simp)]
    obtain ⟨q1, q2, q3⟩ := h8' rfl
    have up1 : Up c1 := by
      rcases h4 with ⟨h, _⟩ | ⟨h, _⟩ | ⟨_, h⟩
      · cases h
      · cases h
      · exact h
    match more, hl, h8 with
    | [], _, _ =>
      exact ⟨0, c1, rfl, h2, hc1, h4, b1, h5, h6, h7, fun _ => ⟨by rw [q1]; simp, fun j h hlt => q3 j h (by omega) (by omega), fun p h hp => by cases hp⟩⟩
    | [p], _, h8 =>
      have hc8 : count < 8 := by simp at h8; omega
      obtain ⟨e2, m, c2, p1, p2, p3, p4, p5⟩ := prog_data (d := p) up1 h5 hc8 h7 h6 (by rw [q1]; simp) h3 (by omega)
      have hM : fillM [p] c1 (to' : Nat) (count : Nat) = (e2, c2) := by
        unfold fillM
        rw [p1]
        split
        · rfl
        · rename_i h
          have : e2 = 0 := by simpa using h
          rw [this]; rfl
      have hbi' := wrK_bi (q := andP m blankP p) h6 hc8 (by rw [q1]; simp)
      refine ⟨e2, c2, hM, h2.trans p2, ⟨by have := p3.p0; omega, by have := p3.w0; omega⟩, ?_, _, p4, hbi', h7, fun h => ?_⟩
      · refine Out.step h2 ?_
        rcases p5 with p5 | ⟨r1, r2, r3, r4⟩ | ⟨r1, r2, r3⟩
        · exact .inl p5
        · exact .inr (.inl ⟨r1, r3, r4⟩)
        · exact .inr (.inr ⟨r1, r3⟩)
      · have hm : m = 258 := by
          rcases p5 with ⟨r1, _⟩ | ⟨r1, _⟩ | ⟨_, r2, _⟩
          · omega
          · omega
          · exact r2
        subst hm
        refine ⟨by show (count : Int) + 1 = _; simp, fun j hj hlt => ?_, fun p' hp' heq => ?_⟩
        · rw [wrK_at hj, if_neg (by omega)]
          exact q3 j hj (by omega) (by omega)
        · cases heq
          rw [wrK_at hp', if_pos rfl]
          exact and_full (Nat.le_refl _)
  · rw [if_pos (by simpa using he)]
    exact ⟨e, c1, rfl, h2, hc1, h4, b1, h5, h6, h7, fun h => absurd h he⟩
/-- A spare is tried. -/
theorem tryC_spec {a to' : Nat} {bs bt : Blk} {c : Chip} {count : Nat} {more : List Pg} {B : Int} (hne : a ≠ to') (hl : more.length ≤ 1) (h8 : count + more.length ≤ 8) (up : Up c) (ha : c.blocks[a]? = some bs) (hb : c.blocks[to']? = some bt) (hbad : bt.bad = false) (hc : Cnt c B) (hB : B + 200 < 8000000000000000000) :
    ∃ e c', tryC c (a : Nat) (to' : Nat) count more = (e, c') ∧ Fr to' c c' ∧ Cnt c' (B + 10) ∧ OutW c c' e ∧ ∃ b', c'.blocks[to']? = some b' ∧ BI b' ∧ b'.bad = false ∧ (e = 0 → Filled bs b' count more) := by
  obtain ⟨e, c1, h1, h2, h3⟩ := erase_spec up hb hbad hc (by omega)
  obtain ⟨b1, k1, k2, k3, k4, k5⟩ := h2.blk
  unfold tryC
  rw [h1]
  rcases h2.how with ⟨rfl, q1, q2⟩ | ⟨rfl, q1, q2⟩ | ⟨rfl, q1⟩
  · rw [if_neg (by simp)]
    exact ⟨30, c1, rfl, h2.fr, ⟨by have := h3.p0; omega, by have := h3.w0; omega⟩, .inl ⟨rfl, q1, q2⟩, b1, k1, k2, k3.trans hbad, fun h => by cases h⟩
  · rw [if_neg (by simp)]
    exact ⟨33, c1, rfl, h2.fr, ⟨by have := h3.p0; omega, by have := h3.w0; omega⟩, .inr (.inl ⟨rfl, up.of h2.fr.dead h2.fr.out q1, by have := h2.fr.fp; omega⟩), b1, k1, k2, k3.trans hbad, fun h => by cases h⟩
  · rw [if_pos rfl]
    have up1 := up.of h2.fr.dead h2.fr.out q1
    obtain ⟨e2, c2, r1, r2, r3, r4, b2, r5, r6, r7, r8⟩ := fillC_spec (bs := bs) (count := count) (more := more) hne hl h8 up1 (by rw [h2.fr.oth a hne]; exact ha) k1 (k3.trans hbad) k2 (k5 rfl) h3 (by omega)
    exact ⟨e2, c2, r1, h2.fr.trans r2, ⟨by have := r3.p0; omega, by have := r3.w0; omega⟩, OutW.step h2.fr (r4.w r2), b2, r5, r6, r7, r8⟩
end Go.Proofs.YtdfidkhbldedlaaGreat
end
section
/- Plain laws of disks: the invariant; a plan is kept. -/
namespace Go.Proofs.YtdfidkhbldedlaaGreat
open Go.K
set_option linter.unusedVariables false
set_option linter.unusedSimpArgs false
/-- What is known of a disk: k is how much was done. -/
structure DI (c : Chip) (t : TS) (n k : Nat) : Prop where
  up : Up c
  ti : TI c t
  wf : WF n t.uses t.lost
  len : c.blocks.length = n
  bs : AllB c
  cnt : Cnt c (1000 * k + 1000)
  ver : t.version.toNat ≤ k + 1
theorem DI.wt {c : Chip} {t : TS} {n k : Nat} (h : DI c t n k) : WT n t := by
  obtain ⟨a, h1, h2, b, h3, h4, h5⟩ := h.ti
  have := h2.a2
  exact ⟨h.wf, h4, by omega⟩
theorem DI.mono {c : Chip} {t : TS} {n k k' : Nat} (h : DI c t n k) (hk : k ≤ k') : DI c t n k' :=
  ⟨h.up, h.ti, h.wf, h.len, h.bs, ⟨by have := h.cnt.p0; omega, by have := h.cnt.w0; omega⟩, by have := h.ver; omega⟩
/-- A plan is kept: it is the new one, or the power is gone, and it is one of both. -/
theorem DI.keep {c : Chip} {t : TS} {n k : Nat} {u lost : List Int} {e : Int} {t' : TS} {c' : Chip} (h : DI c t n k) (hk : k ≤ 1000000) (hfp : FP c ≤ 7) (hfw : FW c ≤ 3) (hw : WF n u lost) (hr : (e, t', c') = keepC t u lost c) :
    Fr2 c c' ∧ ((e = 0 ∧ DI c' t' n (k + 1) ∧ t'.uses = u ∧ t'.lost = lost) ∨
      (e = 30 ∧ c'.off = true ∧ ¬ c.after < 0 ∧ t' = t ∧ Cnt c' (1000 * ((k + 1 : Nat) : Int) + 1000) ∧ AllB c' ∧ ∃ v uu ll a, v ≤ k + 2 ∧ Hold c' v uu ll a ∧ WF n uu ll ∧ ((uu = t.uses ∧ ll = t.lost) ∨ (uu = u ∧ ll = lost)))) := by
  obtain ⟨e2, t2, c2, h1, h2, h3, h4⟩ := keep_hold (u := u) (l := lost) (B := 1000 * k + 1000) h.up h.ti (by have := h.ver; omega) (by rw [h.len]; exact hw.okP) hfp hfw h.cnt (by omega)
  rw [h1] at hr
  simp only [Prod.mk.injEq] at hr
  obtain ⟨rfl, rfl, rfl⟩ := hr
  have p := h3.p0
  have q := h3.w0
  have hc : Cnt c' (1000 * ((k + 1 : Nat) : Int) + 1000) := ⟨by push_cast; omega, by push_cast; omega⟩
  have hv := h.ver
  refine ⟨h2, ?_⟩
  rcases h4 with ⟨h5, h6, h7, h8, h9, h10⟩ | ⟨h5, h6, h7, h8, h9⟩
  · have h7k := h7
    obtain ⟨a, _, hh, _⟩ := h7k
    exact .inl ⟨h5, ⟨h6, h7, by rw [h8, h9]; exact hw, h2.len.trans h.len, h.bs.keep h2 hh, hc, by omega⟩, h8, h9⟩
  · refine .inr ⟨h5, h6, h7, h8, hc, ?_⟩
    rcases h9 with ⟨a, hh⟩ | ⟨a, hh⟩
    · exact ⟨h.bs.keep h2 hh, _, _, _, a, by omega, hh, h.wf, .inl ⟨rfl, rfl⟩⟩
    · exact ⟨h.bs.keep h2 hh, _, _, _, a, by omega, hh, hw, .inr ⟨rfl, rfl⟩⟩
/-- An act on a block that isn't the table's own. -/
theorem DI.far {c c' : Chip} {t : TS} {n k i : Nat} {b : Blk} (h : DI c t n k) (hi : 2 ≤ i) (f : Fr i c c') (up : Up c') (hb : c'.blocks[i]? = some b) (h1 : BI b) (h2 : b.bad = false) (hc : Cnt c' (1000 * k + 1000 + 10)) : DI c' t n (k + 1) :=
  ⟨up, h.ti.far hi f, h.wf, f.len.trans h.len, h.bs.far f hb h1 h2, ⟨by have := hc.p0; push_cast; omega, by have := hc.w0; push_cast; omega⟩, by have := h.ver; omega⟩
/-- Once the power is there again: the disk that is opened. -/
theorem open_disk {c : Chip} {n k v a : Nat} {u l : List Int} (up : Up c) (h : Hold c v u l a) (hw : WF n u l) (hl : c.blocks.length = n) (hb : AllB c) (hc : Cnt c (1000 * k + 1000)) (hv : v ≤ k + 1) : ∃ t, openC c = (0, t) ∧ DI c t n k ∧ t.uses = u ∧ t.lost = l := by
  obtain ⟨t, h1, h2, h3, h4, h5⟩ := open_hold up h
  exact ⟨t, h1, ⟨up, h2, by rw [h3, h4]; exact hw, hl, hb, hc, by omega⟩, h3, h4⟩
end Go.Proofs.YtdfidkhbldedlaaGreat
end
section
/- Plain laws of disks: what moving a block comes to. -/
namespace Go.Proofs.YtdfidkhbldedlaaGreat
open Go.K
set_option linter.unusedVariables false
set_option linter.unusedSimpArgs false
/-- The blocks in use stay. -/
def SameU (u : List Int) (c c' : Chip) : Prop := ∀ x ∈ u, c'.blocks[x.toNat]? = c.blocks[x.toNat]?
/-- What stays of a chip behind acts on any blocks. -/
structure FrA (c c' : Chip) : Prop where
  len : c'.blocks.length = c.blocks.length
  dead : c'.dead = c.dead
  out : c'.out = c.out
  aP : c'.aP = c.aP
  aC : c'.aC = c.aC
  aB : c'.aB = c.aB
  pf : c'.pf = c.pf
  wf : c'.wf = c.wf
  fp : FP c' ≤ FP c
  fw : FW c' ≤ FW c
  pos : c.after < 0 → c'.after = c.after ∧ c'.off = c.off
  keep : c'.keep = c.keep
theorem FrA.refl (c : Chip) : FrA c c := ⟨rfl, rfl, rfl, rfl, rfl, rfl, rfl, rfl, Nat.le_refl _, Nat.le_refl _, fun _ => ⟨rfl, rfl⟩, rfl⟩
theorem Fr.all {a : Nat} {c c' : Chip} (h : Fr a c c') : FrA c c' := ⟨h.len, h.dead, h.out, h.aP, h.aC, h.aB, h.pf, h.wf, h.fp, h.fw, h.pos, h.keep⟩
theorem Fr2.all {c c' : Chip} (h : Fr2 c c') : FrA c c' := ⟨h.len, h.dead, h.out, h.aP, h.aC, h.aB, h.pf, h.wf, h.fp, h.fw, h.pos, h.keep⟩
theorem FrA.trans {c c' c'' : Chip} (h : FrA c c') (k : FrA c' c'') : FrA c c'' :=
  ⟨k.len.trans h.len, k.dead.trans h.dead, k.out.trans h.out, k.aP.trans h.aP, k.aC.trans h.aC, k.aB.trans h.aB, k.pf.trans h.pf, k.wf.trans h.wf, Nat.le_trans k.fp h.fp, Nat.le_trans k.fw h.fw,
    fun hp => by
      obtain ⟨h1, h2⟩ := h.pos hp
      obtain ⟨h3, h4⟩ := k.pos (by omega)
      exact ⟨h3.trans h1, h4.trans h2⟩, k.keep.trans h.keep⟩
/-- What moving a block leaves: worn; moved; the power is gone. -/
def MoveOut (n k : Nat) (b : Int) (count : Nat) (more : List Pg) (bs : Blk) (c : Chip) (t : TS) (r : Int × TS × Chip) : Prop :=
  FrA c r.2.2 ∧ SameU t.uses c r.2.2 ∧
  ((r.1 = 34 ∧ DI r.2.2 r.2.1 n k ∧ r.2.1.uses = t.uses ∧ (spareV r.2.1 n).2 = false ∧ r.2.1.lost.length + FP r.2.2 + FW r.2.2 ≤ t.lost.length + FP c + FW c) ∨
   (r.1 = 0 ∧ DI r.2.2 r.2.1 n k ∧ r.2.1.lost.length + FP r.2.2 + FW r.2.2 ≤ t.lost.length + FP c + FW c + 1 ∧ t.lost.length + 1 ≤ r.2.1.lost.length ∧ ∃ (x : Nat) (b' : Blk), (x : Int) ∉ t.uses ∧ 2 ≤ x ∧ r.2.1.uses = t.uses.set b.toNat x ∧ r.2.2.blocks[x]? = some b' ∧ Filled bs b' count more) ∨
   (r.1 = 30 ∧ r.2.2.off = true ∧ ¬ c.after < 0 ∧ Cnt r.2.2 (1000 * k + 1000) ∧ AllB r.2.2 ∧ ∃ v uu ll a, v ≤ k + 1 ∧ ll.length + FP r.2.2 + FW r.2.2 ≤ t.lost.length + FP c + FW c + 1 ∧ Hold r.2.2 v uu ll a ∧ WF n uu ll ∧ (uu = t.uses ∨ ∃ (x : Nat) (b' : Blk), (x : Int) ∉ t.uses ∧ 2 ≤ x ∧ uu = t.uses.set b.toNat x ∧ r.2.2.blocks[x]? = some b' ∧ Filled bs b' count more)))
theorem SameU.trans {u : List Int} {c c' c'' : Chip} (h : SameU u c c') (k : SameU u c' c'') : SameU u c c'' := fun x hx => (k x hx).trans (h x hx)
theorem SameU.far {u : List Int} {c c' : Chip} {i : Nat} (f : Fr i c c') (h : ∀ x ∈ u, 0 ≤ x) (hi : (i : Int) ∉ u) : SameU u c c' := fun x hx => f.oth _ (fun e => hi (by have := h x hx; rw [← e, Int.toNat_of_nonneg this]; exact hx))
theorem SameU.two {u : List Int} {c c' : Chip} (f : Fr2 c c') (h : ∀ x ∈ u, 2 ≤ x) : SameU u c c' := fun x hx => f.oth _ (by have := h x hx; omega)
end Go.Proofs.YtdfidkhbldedlaaGreat
end
section
/- Plain laws of disks: what moving a block comes to, by induction. -/
namespace Go.Proofs.YtdfidkhbldedlaaGreat
open Go.K
set_option linter.unusedVariables false
set_option linter.unusedSimpArgs false
/-- A spare is tried, on a disk. -/
theorem DI.try {c : Chip} {t : TS} {n k a : Nat} {bs : Blk} {count : Nat} {more : List Pg} {b e : Int} {c' : Chip} (h : DI c t n k) (hk : k ≤ 1000000) (hl : more.length ≤ 1) (h8 : count + more.length ≤ 8) (hb : 0 ≤ b ∧ b < t.uses.length) (ha : at0 t.uses b = (a : Nat)) (hbs : c.blocks[a]? = some bs)
    (hs : (spareV t n).2 = true) (ht : tryC c (atD t b) (spareV t n).1 count more = (e, c')) :
    ∃ x : Nat, (spareV t n).1 = (x : Nat) ∧ 2 ≤ x ∧ (x : Int) ∉ t.uses ∧ Fr x c c' ∧ OutW c c' e ∧ SameU t.uses c c' ∧ Cnt c' (1000 * k + 1000 + 10) ∧ AllB c' ∧ ∃ b', c'.blocks[x]? = some b' ∧ BI b' ∧ b'.bad = false ∧ (e = 0 → Filled bs b' count more) := by
  obtain ⟨s1, s2, s3, s4⟩ := spare_n (spareV_ok hs)
  obtain ⟨x, hx⟩ : ∃ x : Nat, (spareV t n).1 = (x : Nat) := ⟨(spareV t n).1.toNat, by omega⟩
  rw [hx] at s1 s2 s3 s4 ht
  have hat : atD t b = (a : Nat) := by
    unfold atD
    have : atT t b = (at0 t.uses b, true) := by
      unfold atT
      rw [if_neg (by simp; omega)]
    rw [this, if_pos rfl]
    exact ha
  have hmem : (a : Int) ∈ t.uses := by rw [← ha]; exact at0_mem hb
  have hne : a ≠ x := fun e1 => s3 (by rw [← e1]; exact hmem)
  have hlen := h.len
  obtain ⟨bt, hbt⟩ : ∃ bt, c.blocks[x]? = some bt := ⟨_, List.getElem?_eq_getElem (by omega)⟩
  obtain ⟨hbi, hbad⟩ := h.bs x bt hbt
  obtain ⟨e2, c2, r1, r2, r3, r4, b', r5, r6, r7, r8⟩ := tryC_spec (bs := bs) (count := count) (more := more) (B := 1000 * k + 1000) hne hl h8 h.up hbs hbt hbad h.cnt (by omega)
  rw [hat, r1] at ht
  simp only [Prod.mk.injEq] at ht
  obtain ⟨rfl, rfl⟩ := ht
  exact ⟨x, hx, by omega, s3, r2, r4, SameU.far r2 (fun y hy => by have := h.wf.us y hy; omega) s3, r3, h.bs.far r2 r5 r6 r7, b', r5, r6, r7, r8⟩
end Go.Proofs.YtdfidkhbldedlaaGreat
end
section
/- Plain laws of disks: what moving a block comes to, the induction. -/
namespace Go.Proofs.YtdfidkhbldedlaaGreat
open Go.K
set_option linter.unusedVariables false
set_option linter.unusedSimpArgs false
theorem move_spec {n : Nat} {b : Int} {count : Nat} {more : List Pg} {c : Chip} {t : TS} {r : Int × TS × Chip} (hm : MoveR n b count more c t r) :
    ∀ (k a : Nat) (bs : Blk), DI c t n k → k + 2 * (FP c + FW c) ≤ 900000 → FP c + FW c ≤ 3 → more.length ≤ 1 → count + more.length ≤ 8 → 0 ≤ b ∧ b < t.uses.length → at0 t.uses b = (a : Nat) → c.blocks[a]? = some bs →
      MoveOut n (k + 4 * (FP c + FW c) + 4) b count more bs c t r := by
  induction hm with
  | none hs =>
    intro k a bs h hk hf hl h8 hb ha hbs
    exact ⟨.refl _, fun x hx => rfl, .inl ⟨rfl, h.mono (by omega), rfl, hs, by simp only; omega⟩⟩
  | @err c t e c' hs ht he he3 =>
    intro k a bs h hk hf hl h8 hb ha hbs
    obtain ⟨x, _, hx2, hxu, f, ho, hS, hc, hA, _⟩ := h.try (by omega) hl h8 hb ha hbs hs ht
    obtain ⟨a0, _, hh, _⟩ := h.ti
    rcases ho with ⟨h1, h2, h3⟩ | ⟨h1, _⟩ | ⟨h1, _⟩
    · exact ⟨f.all, hS, .inr (.inr ⟨h1, h2, h3, ⟨by have := hc.p0; simp only; push_cast; omega, by have := hc.w0; simp only; push_cast; omega⟩, hA, _, _, _, a0, by have := h.ver; omega, (by have := f.fp; have := f.fw; simp only; omega), hh.far hx2 f, h.wf, .inl rfl⟩)⟩
    · exact absurd h1 he3
    · exact absurd h1 he
  | @swap c t c' r hs ht hsw =>
    intro k a bs h hk hf hl h8 hb ha hbs
    obtain ⟨x, hx, hx2, hxu, f, ho, hS, hc, hA, b', hb', hbi, hbad, hfl⟩ := h.try (by omega) hl h8 hb ha hbs hs ht
    have upc : Up c' := by
      rcases ho with ⟨h1, _⟩ | ⟨h1, _⟩ | ⟨_, h1⟩
      · cases h1
      · cases h1
      · exact h1
    have hD := h.far hx2 f upc hb' hbi hbad hc
    have hsp := spareV_ok hs
    rw [hx] at hsp hsw
    have hat : (atT t b).2 = true := by
      unfold atT
      rw [if_neg (by simp; omega)]
    obtain ⟨lost, hp, hr⟩ := hsw.1 (by rw [hat, hD.len, hsp]; rfl)
    have hw := h.wf.swap hb hsp hp
    obtain ⟨e, t', c''⟩ := r
    have fp := f.fp
    have fw := f.fw
    obtain ⟨f2, hk2⟩ := hD.keep (by omega) (by omega) (by omega) hw hr
    have hb2 : c''.blocks[x]? = some b' := by rw [f2.oth x hx2]; exact hb'
    have hS2 := hS.trans (SameU.two f2 (fun y hy => (h.wf.us y hy).1))
    have fp2 := f2.fp
    have fw2 := f2.fw
    rcases hk2 with ⟨h1, h2, h3, h4⟩ | ⟨h1, h2, h3, h4, h5, h6, v, uu, ll, a0, h7, h9, h10, h11⟩
    · refine ⟨f.all.trans f2.all, hS2, .inr (.inl ⟨h1, h2.mono (by omega), ?_, ?_, x, b', hxu, hx2, h3, hb2, hfl rfl⟩)⟩
      · simp only
        rw [h4, hp.length_eq]
        simp
        omega
      · simp only
        rw [h4, hp.length_eq]
        simp
    · refine ⟨f.all.trans f2.all, hS2, .inr (.inr ⟨h1, h2, fun hp => h3 (by rw [(f.pos hp).1]; exact hp), ⟨by have := h5.p0; simp only; push_cast at this ⊢; omega, by have := h5.w0; simp only; push_cast at this ⊢; omega⟩, h6, v, uu, ll, a0, by omega, (by have := f2.fp; have := f2.fw; have := f.fp; have := f.fw; have := hp.length_eq; simp only [List.length_append, List.length_singleton] at this ⊢; rcases h11 with ⟨_, e⟩ | ⟨_, e⟩ <;> rw [e] <;> omega), h9, h10, ?_⟩)⟩
      rcases h11 with ⟨h12, _⟩ | ⟨h12, _⟩
      · exact .inl h12
      · exact .inr ⟨x, b', hxu, hx2, h12, hb2, hfl rfl⟩
  | @bad c t c' e t' c'' hs ht hlo he =>
    intro k a bs h hk hf hl h8 hb ha hbs
    obtain ⟨x, hx, hx2, hxu, f, ho, hS, hc, hA, b', hb', hbi, hbad, hfl⟩ := h.try (by omega) hl h8 hb ha hbs hs ht
    have upc : Up c' := by
      rcases ho with ⟨h1, _⟩ | ⟨_, h1, _⟩ | ⟨h1, _⟩
      · cases h1
      · exact h1
      · cases h1
    have hD := h.far hx2 f upc hb' hbi hbad hc
    have hsp := spareV_ok hs
    obtain ⟨lost, hp, hr⟩ := hlo.1 (by rw [hD.len]; exact hsp)
    have hw := h.wf.lose hsp hp
    have fp := f.fp
    have fw := f.fw
    obtain ⟨f2, hk2⟩ := hD.keep (by omega) (by omega) (by omega) hw hr
    have hS2 := hS.trans (SameU.two f2 (fun y hy => (h.wf.us y hy).1))
    rcases hk2 with ⟨h1, _⟩ | ⟨h1, h2, h3, h4, h5, h6, v, uu, ll, a0, h7, h9, h10, h11⟩
    · exact absurd h1 he
    · refine ⟨f.all.trans f2.all, hS2, .inr (.inr ⟨h1, h2, fun hp => h3 (by rw [(f.pos hp).1]; exact hp), ⟨by have := h5.p0; simp only; push_cast at this ⊢; omega, by have := h5.w0; simp only; push_cast at this ⊢; omega⟩, h6, v, uu, ll, a0, by omega, (by have := f2.fp; have := f2.fw; have := f.fp; have := f.fw; have := hp.length_eq; simp only [List.length_append, List.length_singleton] at this ⊢; rcases h11 with ⟨_, e⟩ | ⟨_, e⟩ <;> rw [e] <;> omega), h9, h10, ?_⟩)⟩
      rcases h11 with ⟨h12, _⟩ | ⟨h12, _⟩
      · exact .inl h12
      · exact .inl h12
  | @again c t c' t' c'' r hs ht hlo _ ih =>
    intro k a bs h hk hf hl h8 hb ha hbs
    obtain ⟨x, hx, hx2, hxu, f, ho, hS, hc, hA, b', hb', hbi, hbad, hfl⟩ := h.try (by omega) hl h8 hb ha hbs hs ht
    have upc : Up c' ∧ FP c' + FW c' + 1 ≤ FP c + FW c := by
      rcases ho with ⟨h1, _⟩ | ⟨_, h1⟩ | ⟨h1, _⟩
      · cases h1
      · exact h1
      · cases h1
    have hD := h.far hx2 f upc.1 hb' hbi hbad hc
    have hsp := spareV_ok hs
    obtain ⟨lost, hp, hr⟩ := hlo.1 (by rw [hD.len]; exact hsp)
    have hw := h.wf.lose hsp hp
    have hf1 := upc.2
    obtain ⟨f2, hk2⟩ := hD.keep (by omega) (by omega) (by omega) hw hr
    have hS2 := hS.trans (SameU.two f2 (fun y hy => (h.wf.us y hy).1))
    have fp2 := f2.fp
    have fw2 := f2.fw
    have hmem : (a : Int) ∈ t.uses := by rw [← ha]; exact at0_mem hb
    rcases hk2 with ⟨_, h2, h3, h4⟩ | ⟨h1, _⟩
    · have hbs2 : c''.blocks[a]? = some bs := by
        have := hS2 _ hmem
        rw [Int.toNat_natCast] at this
        rw [this]; exact hbs
      have hll : t'.lost.length = t.lost.length + 1 := by rw [h4, hp.length_eq]; simp
      obtain ⟨g0, g1, g2⟩ := ih (k + 2) a bs h2 (by omega) (by omega) hl h8 (by rw [h3]; exact hb) (by rw [h3]; exact ha) hbs2
      rw [h3] at g1 g2
      refine ⟨(f.all.trans f2.all).trans g0, hS2.trans g1, ?_⟩
      rcases g2 with ⟨q1, q2, q3, q4, q5⟩ | ⟨q1, q2, q3, q3', q4⟩ | ⟨q1, q2, q3, q4, q5, v, uu, ll, a0, q6, q6', q7⟩
      · exact .inl ⟨q1, q2.mono (by omega), q3, q4, by omega⟩
      · exact .inr (.inl ⟨q1, q2.mono (by omega), by omega, by omega, q4⟩)
      · exact .inr (.inr ⟨q1, q2, fun hp => q3 (by rw [(f2.pos (by rw [(f.pos hp).1]; exact hp)).1, (f.pos hp).1]; exact hp), ⟨by have := q4.p0; omega, by have := q4.w0; omega⟩, q5, v, uu, ll, a0, by omega, by omega, q7⟩)
    · cases h1
end Go.Proofs.YtdfidkhbldedlaaGreat
end
section
/- Plain laws of disks: a page is written. -/
namespace Go.Proofs.YtdfidkhbldedlaaGreat
open Go.K
set_option linter.unusedVariables false
set_option linter.unusedSimpArgs false
theorem atD_in {t : TS} {b : Int} {a : Nat} (hb : 0 ≤ b ∧ b < t.uses.length) (ha : at0 t.uses b = (a : Nat)) : atD t b = (a : Nat) := by
  unfold atD
  have : atT t b = (at0 t.uses b, true) := by
    unfold atT
    rw [if_neg (by simp; omega)]
  rw [this, if_pos rfl]
  exact ha
/-- The next page of a block is written. -/
theorem prog_disk {c : Chip} {t : TS} {n k a j : Nat} {b : Int} {bs : Blk} {p : Pg} {r : Int × TS × Chip} (h : DI c t n k) (hk : k ≤ 800000) (hf : FP c + FW c ≤ 3) (hb : 0 ≤ b ∧ b < t.uses.length) (ha : at0 t.uses b = (a : Nat)) (hbs : c.blocks[a]? = some bs) (hj : j < 8) (hn : bs.next = j) (hr : ProgD n b j p c t r) :
    ∃ m c1, Fr a c c1 ∧ c1.blocks[a]? = some (wrK bs j (andP m blankP p)) ∧ AllB c1 ∧
      ((c1.off = true ∧ ¬ c.after < 0 ∧ r = (30, t, c1) ∧ Cnt c1 (1000 * ((k + 1 : Nat) : Int) + 1000)) ∨
       (m = 129 ∧ (progC c (atD t b) j p).1 = 33 ∧ DI c1 t n (k + 1) ∧ FP c1 + 1 ≤ FP c ∧ MoveOut n (k + 1 + 4 * (FP c1 + FW c1) + 4) b j [p] (wrK bs j (andP 129 blankP p)) c1 t r) ∨
       (m = 258 ∧ progC c (atD t b) j p = (0, c1) ∧ DI c1 t n (k + 1) ∧ r = (0, t, c1))) := by
  obtain ⟨hbi, hbad⟩ := h.bs a bs hbs
  have hat := atD_in hb ha
  have ha2 : 2 ≤ a := by have := h.wf.us _ (at0_mem hb); rw [ha] at this; omega
  obtain ⟨e, m, c1, p1, f, hc, hblk, hcase⟩ := prog_data (d := p) (B := 1000 * k + 1000) h.up hbs hj hbad hbi hn h.cnt (by omega)
  have hbi' := wrK_bi (q := andP m blankP p) hbi hj hn
  have hA := h.bs.far f hblk hbi' hbad
  obtain ⟨r1, r2⟩ := hr
  rw [hat, p1] at r1 r2
  have hc1 : Cnt c1 (1000 * k + 1000 + 10) := ⟨by have := hc.p0; omega, by have := hc.w0; omega⟩
  refine ⟨m, c1, f, hblk, hA, ?_⟩
  rcases hcase with ⟨rfl, h1, h2⟩ | ⟨rfl, rfl, h2, h3⟩ | ⟨rfl, rfl, h2⟩
  · exact .inl ⟨h1, h2, r2 (show ¬ (30 : Int) = 33 by decide), ⟨by have := hc.p0; push_cast; omega, by have := hc.w0; push_cast; omega⟩⟩
  · have hD := h.far ha2 f h2 hblk hbi' hbad hc1
    have fw := f.fw
    have hM : MoveR n b j [p] c1 t r := by
      have := r1 rfl
      rwa [Int.toNat_natCast] at this
    exact .inr (.inl ⟨rfl, by rw [hat, p1], hD, h3, move_spec hM (k + 1) a _ hD (by omega) (by omega) (by simp) (by simp; omega) hb ha hblk⟩)
  · exact .inr (.inr ⟨rfl, by rw [hat, p1], h.far ha2 f h2 hblk hbi' hbad hc1, r2 (show ¬ (0 : Int) = 33 by decide)⟩)
end Go.Proofs.YtdfidkhbldedlaaGreat
end
section
/- Plain laws of disks: a block is erased. -/
namespace Go.Proofs.YtdfidkhbldedlaaGreat
open Go.K
set_option linter.unusedVariables false
set_option linter.unusedSimpArgs false
/-- A block is erased. -/
theorem erase_disk {c : Chip} {t : TS} {n k a : Nat} {b : Int} {bs : Blk} {r : Int × TS × Chip} (h : DI c t n k) (hk : k ≤ 800000) (hf : FP c + FW c ≤ 3) (hb : 0 ≤ b ∧ b < t.uses.length) (ha : at0 t.uses b = (a : Nat)) (hbs : c.blocks[a]? = some bs) (hr : EraseD n b c t r) :
    ∃ b1 c1, Fr a c c1 ∧ c1.blocks[a]? = some b1 ∧ BI b1 ∧ AllB c1 ∧ (∀ (j : Nat) (h : j < 8), b1.pages[j] = blankP ∨ b1.pages[j] = bs.pages[j]) ∧
      ((c1.off = true ∧ ¬ c.after < 0 ∧ r = (30, t, c1) ∧ Cnt c1 (1000 * ((k + 1 : Nat) : Int) + 1000)) ∨
       (DI c1 t n (k + 1) ∧ FW c1 + 1 ≤ FW c ∧ MoveOut n (k + 1 + 4 * (FP c1 + FW c1) + 4) b 0 [] b1 c1 t r) ∨
       (DI c1 t n (k + 1) ∧ b1.next = 0 ∧ r = (0, t, c1))) := by
  obtain ⟨hbi, hbad⟩ := h.bs a bs hbs
  have hat := atD_in hb ha
  have ha2 : 2 ≤ a := by have := h.wf.us _ (at0_mem hb); rw [ha] at this; omega
  obtain ⟨e, c1, p1, p2, hc⟩ := erase_spec (B := 1000 * k + 1000) h.up hbs hbad h.cnt (by omega)
  obtain ⟨b1, k1, k2, k3, k4, k5⟩ := p2.blk
  have hA := h.bs.far p2.fr k1 k2 (k3.trans hbad)
  obtain ⟨r1, r2⟩ := hr
  rw [hat, p1] at r1 r2
  have hc1 : Cnt c1 (1000 * k + 1000 + 10) := ⟨by have := hc.p0; omega, by have := hc.w0; omega⟩
  refine ⟨b1, c1, p2.fr, k1, k2, hA, k4, ?_⟩
  rcases p2.how with ⟨rfl, h1, h2⟩ | ⟨rfl, h1, h2⟩ | ⟨rfl, h1⟩
  · exact .inl ⟨h1, h2, r2 (show ¬ (30 : Int) = 33 by decide), ⟨by have := hc.p0; push_cast; omega, by have := hc.w0; push_cast; omega⟩⟩
  · have hD := h.far ha2 p2.fr (h.up.of p2.fr.dead p2.fr.out h1) k1 k2 (k3.trans hbad) hc1
    have fp := p2.fr.fp
    have hM : MoveR n b 0 [] c1 t r := r1 rfl
    exact .inr (.inl ⟨hD, h2, move_spec hM (k + 1) a _ hD (by omega) (by omega) (by simp) (by simp) hb ha k1⟩)
  · exact .inr (.inr ⟨h.far ha2 p2.fr (h.up.of p2.fr.dead p2.fr.out h1) k1 k2 (k3.trans hbad) hc1, k5 rfl, r2 (show ¬ (0 : Int) = 33 by decide)⟩)
end Go.Proofs.YtdfidkhbldedlaaGreat
end
section
/- Plain laws of disks: a page is read. -/
namespace Go.Proofs.YtdfidkhbldedlaaGreat
open Go.K
set_option linter.unusedVariables false
set_option linter.unusedSimpArgs false
theorem atD_out {t : TS} {b : Int} (hb : ¬ (0 ≤ b ∧ b < t.uses.length)) : atD t b = -1 := by
  unfold atD
  have : atT t b = (0, false) := by
    unfold atT
    rw [if_pos (by simp; omega)]
  rw [this, if_neg (by simp)]
theorem may_bad {c : Chip} (up : Up c) {i j : Int} (h : ¬ (0 ≤ i ∧ i < c.blocks.length) ∨ ¬ (0 ≤ j ∧ j < 8)) : mayE c i j = 1 := by
  unfold mayE thereB
  rw [up.off, up.dead, up.out, if_neg (by simp), if_neg (by simp), if_pos]
  simp
  omega
theorem read_disk {c : Chip} {t : TS} {n k a j : Nat} {b : Int} {bs : Blk} (h : DI c t n k) (hb : 0 ≤ b ∧ b < t.uses.length) (ha : at0 t.uses b = (a : Nat)) (hbs : c.blocks[a]? = some bs) (hj : j < 8) : mayE c (atD t b) j = 0 ∧ readP c (atD t b) j = bs.pages[j] := by
  have hi : a < c.blocks.length := (List.getElem?_eq_some_iff.1 hbs).1
  rw [atD_in hb ha]
  have hm := mayU h.up hi hj
  exact ⟨hm, read_of hm hbs hj⟩
theorem read_bad {c : Chip} {t : TS} {n k : Nat} {b j : Int} (h : DI c t n k) (hx : ¬ (0 ≤ b ∧ b < t.uses.length) ∨ ¬ (0 ≤ j ∧ j < 8)) : mayE c (atD t b) j = 1 := by
  rcases hx with hx | hx
  · rw [atD_out hx]; exact may_bad h.up (.inl (by omega))
  · exact may_bad h.up (.inr hx)
end Go.Proofs.YtdfidkhbldedlaaGreat
end
section
/- Plain laws of disks: where a spare stands; what fails, told exactly. -/
namespace Go.Proofs.YtdfidkhbldedlaaGreat
open Go.K
set_option linter.unusedVariables false
set_option linter.unusedSimpArgs false
/-- Without a spare four blocks are lost. -/
theorem no_spare {n : Nat} {t : TS} (h : WF n t.uses t.lost) (hs : (spareV t n).2 = false) : 4 ≤ t.lost.length := by
  have hall : ∀ x : Int, 2 ≤ x → x < n → x ∈ t.uses ++ t.lost := fun x h1 h2 => by
    have hsp : spareB t n x = false := by
      unfold spareV at hs
      cases hu : spareU t n with
      | some b => rw [hu] at hs; cases hs
      | none =>
        unfold spareU at hu
        have := List.find?_eq_none.1 hu x.toNat (List.mem_range.2 (by omega))
        rw [Int.toNat_of_nonneg (by omega)] at this
        simpa using this
    unfold spareB at hsp
    rw [List.mem_append]
    cases h3 : hasI t.uses x with
    | true => exact .inl (has_mem.1 h3)
    | false =>
      cases h4 : hasI t.lost x with
      | true => exact .inr (has_mem.1 h4)
      | false =>
        rw [h3, h4] at hsp
        simp at hsp
        omega
  have h1 := h.n1
  have := nodup_le (l := (List.range (n - 2)).map fun i => ((i : Nat) : Int) + 2) (m := t.uses ++ t.lost) (by
    rw [List.nodup_iff_pairwise_ne, List.pairwise_map]
    exact (List.nodup_iff_pairwise_ne.1 List.nodup_range).imp fun hne e => hne (by omega)) (fun x hx => by
      obtain ⟨i, hi, rfl⟩ := List.mem_map.1 hx
      have := List.mem_range.1 hi
      exact hall _ (by omega) (by omega))
  have h2 := h.len
  simp at this
  omega
end Go.Proofs.YtdfidkhbldedlaaGreat
end
section
/- Plain laws of disks: which program fails, told exactly. -/
namespace Go.Proofs.YtdfidkhbldedlaaGreat
open Go.K
set_option linter.unusedVariables false
set_option linter.unusedSimpArgs false
theorem prog_exact {c : Chip} {a j : Nat} {b : Blk} {d : Pg} {B : Int} (up : Up c) (hp : c.after < 0) (hb : c.blocks[a]? = some b) (hj : j < 8) (hbad : b.bad = false) (hbi : BI b) (hn : b.next = j) (hc : Cnt c B) (hB : B < 8000000000000000000) :
    (progC c a j d).1 = (if hasI c.pf.list c.pc = true then 33 else 0) ∧ (progC c a j d).2.pc = c.pc + 1 ∧ (progC c a j d).2.wc = c.wc ∧ (progC c a j d).2.pf = c.pf ∧ (progC c a j d).2.wf = c.wf ∧ (progC c a j d).2.after < 0 := by
  obtain ⟨e, m, h1, h2⟩ := prog_step up (d := d) hb hj hbad hbi hn
  have hf := failP_eq hc (by omega)
  have hpc : (setB (cp c) a (wrK b j (andP m blankP d))).pc = c.pc + 1 := by
    show w64 (c.pc + 1) = c.pc + 1
    have := hc.p0
    exact w64_in (by omega)
  obtain ⟨hfr, _, _⟩ := cp_fr (a := a) (b := wrK b j (andP m blankP d)) hc (by omega)
  rw [h1]
  refine ⟨?_, hpc, rfl, rfl, rfl, by rw [(hfr.pos hp).1]; exact hp⟩
  rcases h2 with ⟨_, h3⟩ | ⟨h3, _, _, h4⟩ | ⟨h3, _, _, h4⟩
  · exact absurd hp (ends_pos h3)
  · rw [hf] at h4; rw [if_pos h4]; exact h3
  · rw [hf] at h4; rw [if_neg (by rw [h4]; simp)]; exact h3
end Go.Proofs.YtdfidkhbldedlaaGreat
end
section
/- Plain laws of disks: what stands in the logical blocks. -/
namespace Go.Proofs.YtdfidkhbldedlaaGreat
open Go.K
set_option linter.unusedVariables false
set_option linter.unusedSimpArgs false
/-- What is known of a disk whose logical blocks are these. -/
structure DV (c : Chip) (t : TS) (n k : Nat) (V : Nat → Blk) : Prop where
  di : DI c t n k
  vw : ∀ l : Nat, l + 6 < n → c.blocks[(at0 t.uses (l : Nat)).toNat]? = some (V l)
def upV (V : Nat → Blk) (b : Nat) (v : Blk) : Nat → Blk := fun l => if l = b then v else V l
theorem upV_at (V : Nat → Blk) (b : Nat) (v : Blk) : upV V b v b = v := if_pos rfl
theorem upV_ne {V : Nat → Blk} {b l : Nat} {v : Blk} (h : l ≠ b) : upV V b v l = V l := if_neg h
theorem DV.mono {c : Chip} {t : TS} {n k k' : Nat} {V : Nat → Blk} (h : DV c t n k V) (hk : k ≤ k') : DV c t n k' V := ⟨h.di.mono hk, h.vw⟩
theorem JI.di {c : Chip} {t : TS} {u : List Int} {l : List Bool} {n : Nat} (h : JI c t u l n 0) (hb : ∀ i, 2 ≤ i → i < n → c.blocks[i]? = some (newB false)) : DV c t n 0 fun _ => newB false := by
  have hU : ∀ l : Nat, l + 6 < n → 2 ≤ at0 t.uses (l : Nat) ∧ at0 t.uses (l : Nat) < n := fun l hl => by
    have := h.wf.us _ (at0_mem (l := t.uses) (i := (l : Nat)) (by have := h.wf.len; omega))
    exact ⟨this.1, this.2.1⟩
  refine ⟨⟨h.up, h.ti, h.wf, h.len, fun i b hi => ?_, h.cnt, h.ver⟩, fun l hl => ?_⟩
  · by_cases e : i < 2
    · obtain ⟨a, _, hh, _⟩ := h.ti
      obtain ⟨b2, h1, h2, h3⟩ := hh.bs i e
      rw [h1] at hi
      cases hi
      exact ⟨h2, h3⟩
    · have hl : i < n := by
        have := (List.getElem?_eq_some_iff.1 hi).1
        have := h.len
        omega
      rw [hb i (by omega) hl] at hi
      cases hi
      refine ⟨⟨by simp [newB], fun j hj _ => by simp [newB]⟩, rfl⟩
  · have := hU l hl
    exact hb _ (by omega) (by omega)
theorem at0_inj {u : List Int} (h : u.Nodup) {l m : Nat} (hl : l < u.length) (hm : m < u.length) (e : at0 u (l : Nat) = at0 u (m : Nat)) : l = m := by
  have h1 : at0 u (l : Nat) = u[l] := by simp [at0, List.getD_eq_getElem?_getD, hl]
  have h2 : at0 u (m : Nat) = u[m] := by simp [at0, List.getD_eq_getElem?_getD, hm]
  rw [h1, h2] at e
  have hp := List.pairwise_iff_getElem.1 (List.nodup_iff_pairwise_ne.1 h)
  rcases Nat.lt_trichotomy l m with h3 | h3 | h3
  · exact absurd e (hp l m hl hm h3)
  · exact h3
  · exact absurd e.symm (hp m l hm hl h3)
theorem at0_set {u : List Int} {b l : Nat} {x : Int} (hb : b < u.length) : at0 (u.set b x) (l : Nat) = if l = b then x else at0 u (l : Nat) := by
  unfold at0
  rw [Int.toNat_natCast, List.getD_eq_getElem?_getD, List.getD_eq_getElem?_getD, List.getElem?_set]
  by_cases e : l = b
  · subst e; simp [hb]
  · rw [if_neg (fun h => e h.symm), if_neg e]
section
variable {c : Chip} {t : TS} {n k : Nat} {V : Nat → Blk}
theorem DV.us (h : DV c t n k V) {l : Nat} (hl : l + 6 < n) : 2 ≤ at0 t.uses (l : Nat) ∧ at0 t.uses (l : Nat) < n ∧ l < t.uses.length := by
  have h1 := h.di.wf.len
  have := h.di.wf.us _ (at0_mem (l := t.uses) (i := (l : Nat)) (by omega))
  exact ⟨this.1, this.2.1, by omega⟩
/-- An act on one logical block's block. -/
theorem DV.act {c' : Chip} {k' : Nat} {b : Nat} {v : Blk} (h : DV c t n k V) (hb : b + 6 < n) (f : Fr (at0 t.uses (b : Nat)).toNat c c') (hv : c'.blocks[(at0 t.uses (b : Nat)).toNat]? = some v) (hd : DI c' t n k') : DV c' t n k' (upV V b v) := by
  refine ⟨hd, fun l hl => ?_⟩
  by_cases e : l = b
  · subst e; rw [upV_at]; exact hv
  · rw [upV_ne e, f.oth _ (fun e2 => e ?_)]
    · exact h.vw l hl
    · have h1 := h.us hl
      have h2 := h.us hb
      exact at0_inj h.di.wf.un h1.2.2 h2.2.2 (by omega)
theorem same_u {c c' : Chip} {t : TS} {x l : Nat} (h : SameU t.uses c c') (hl : l < t.uses.length) : c'.blocks[(at0 t.uses (l : Nat)).toNat]? = c.blocks[(at0 t.uses (l : Nat)).toNat]? := h _ (at0_mem (by omega))
/-- A block was moved. -/
theorem DV.moved {c' : Chip} {t' : TS} {k' : Nat} {b x : Nat} {v : Blk} (h : DV c t n k V) (hb : b + 6 < n) (hS : SameU t.uses c c') (hu : t'.uses = t.uses.set b x) (hv : c'.blocks[x]? = some v) (hd : DI c' t' n k') : DV c' t' n k' (upV V b v) := by
  refine ⟨hd, fun l hl => ?_⟩
  have h1 := h.us hl
  have h2 := h.us hb
  rw [hu, at0_set h2.2.2]
  by_cases e : l = b
  · subst e; rw [upV_at, if_pos rfl]; exact hv
  · rw [upV_ne e, if_neg e, same_u (x := 0) hS h1.2.2]
    exact h.vw l hl
theorem DV.stay {c' : Chip} {t' : TS} {k' : Nat} (h : DV c t n k V) (hS : SameU t.uses c c') (hu : t'.uses = t.uses) (hd : DI c' t' n k') : DV c' t' n k' V := by
  refine ⟨hd, fun l hl => ?_⟩
  have h1 := h.us hl
  rw [hu, same_u (x := 0) hS h1.2.2]
  exact h.vw l hl
end
/-- What stands on a chip whose power went, once it is there again. -/
def Later (c : Chip) (n k m : Nat) (V : Nat → Blk) : Prop :=
  ∀ d : Chip, d.blocks = c.blocks → Up d → d.pc = c.pc → d.wc = c.wc → ∃ t2, openC d = (0, t2) ∧ DV d t2 n k V ∧ t2.lost.length + FP c + FW c ≤ m
theorem AllB.same {c c' : Chip} (h : AllB c) (hb : c'.blocks = c.blocks) : AllB c' := fun i b hi => h i b (by rw [← hb]; exact hi)
theorem later_of {c : Chip} {n k m v a : Nat} {u l : List Int} {V : Nat → Blk} (h : Hold c v u l a) (hw : WF n u l) (hl : c.blocks.length = n) (hb : AllB c) (hc : Cnt c (1000 * k + 1000)) (hv : v ≤ k + 1) (hm : l.length + FP c + FW c ≤ m)
    (hV : ∀ i : Nat, i + 6 < n → c.blocks[(at0 u (i : Nat)).toNat]? = some (V i)) : Later c n k m V := fun d h1 h2 h3 h4 => by
  obtain ⟨t, o1, o2, o3, o4⟩ := open_disk h2 (h.same h1) hw (by rw [h1]; exact hl) (hb.same h1) ⟨by rw [h3]; exact hc.p0, by rw [h4]; exact hc.w0⟩ hv
  exact ⟨t, o1, ⟨o2, fun i hi => by rw [o3, h1]; exact hV i hi⟩, by rw [o4]; exact hm⟩
/-- A block's first pages stay, or are mended. -/
def Kept (v w : Blk) (j : Nat) : Prop := ∀ (i : Nat) (h : i < 8), i < j → v.pages[i] = w.pages[i] ∨ v.pages[i] = mendP w.pages[i]
end Go.Proofs.YtdfidkhbldedlaaGreat
end
section
/- Plain laws of disks: what writing a page, and erasing a block, leave in the logical blocks. -/
namespace Go.Proofs.YtdfidkhbldedlaaGreat
open Go.K
set_option linter.unusedVariables false
set_option linter.unusedSimpArgs false
/-- What writing a block's next page leaves. -/
def PV (n k : Nat) (V : Nat → Blk) (b j : Nat) (p : Pg) (c : Chip) (t : TS) (r : Int × TS × Chip) : Prop :=
  FrA c r.2.2 ∧ ∃ v : Blk, v.next = ((j + 1 : Nat) : Int) ∧ Kept v (V b) j ∧
  ((r.1 = 0 ∧ DV r.2.2 r.2.1 n k (upV V b v) ∧ (∀ h : j < 8, v.pages[j] = p) ∧ r.2.1.lost.length + FP r.2.2 + FW r.2.2 ≤ t.lost.length + FP c + FW c ∧
      (((progC c (atD t (b : Nat)) j p).1 = 33 ∧ t.lost.length + 1 ≤ r.2.1.lost.length ∧ ∀ (i : Nat) (h : i < 8), i < j → v.pages[i] = mendP (V b).pages[i]) ∨ (progC c (atD t (b : Nat)) j p = (0, r.2.2) ∧ r.2.1 = t ∧ v = wrK (V b) j p))) ∨
   (r.1 = 34 ∧ DV r.2.2 r.2.1 n k (upV V b v) ∧ 4 ≤ r.2.1.lost.length ∧ r.2.1.lost.length + FP r.2.2 + FW r.2.2 + 1 ≤ t.lost.length + FP c + FW c) ∨
   (r.1 = 30 ∧ r.2.2.off = true ∧ ¬ c.after < 0 ∧ (∃ m, ∀ h : j < 8, v.pages[j] = andP m blankP p) ∧ Later r.2.2 n k (t.lost.length + FP c + FW c) (upV V b v)))
theorem wrK_kept {w : Blk} {j : Nat} {q : Pg} : Kept (wrK w j q) w j := fun i h hi => .inl (by rw [wrK_at h, if_neg (by omega)])
theorem filled_kept {w x v : Blk} {j : Nat} {more : List Pg} {q : Pg} (h : Filled (wrK w j q) v j more) : Kept v w j := fun i hi hlt => .inr (by rw [h.2.1 i hi hlt, wrK_at hi, if_neg (by omega)])
theorem filled_mended {w x v : Blk} {j : Nat} {more : List Pg} {q : Pg} (h : Filled (wrK w j q) v j more) : ∀ (i : Nat) (h : i < 8), i < j → v.pages[i] = mendP w.pages[i] := fun i hi hlt => by rw [h.2.1 i hi hlt, wrK_at hi, if_neg (by omega)]
theorem upV_up (V : Nat → Blk) (b : Nat) (v w : Blk) : upV (upV V b v) b w = upV V b w := by
  funext l
  unfold upV
  split <;> rfl
theorem prog_view {c : Chip} {t : TS} {n k b j : Nat} {V : Nat → Blk} {p : Pg} {r : Int × TS × Chip} (h : DV c t n k V) (hk : k ≤ 700000) (hf : FP c + FW c ≤ 3) (hb : b + 6 < n) (hj : j < 8) (hn : (V b).next = j) (hr : ProgD n (b : Nat) j p c t r) : PV n (k + 20) V b j p c t r := by
  have hu := h.us hb
  have hlen := h.di.len
  obtain ⟨a, ha⟩ : ∃ a : Nat, at0 t.uses (b : Nat) = (a : Nat) := ⟨(at0 t.uses (b : Nat)).toNat, by omega⟩
  have hva := h.vw b hb
  have hta : (at0 t.uses (b : Nat)).toNat = a := by omega
  rw [hta] at hva
  obtain ⟨m, c1, f, hw, hA, hcase⟩ := prog_disk h.di (by omega) hf (by omega) ha hva hj hn hr
  rcases hcase with ⟨h1, h2, rfl, h3⟩ | ⟨rfl, hpe, h1, h2, h0, hS, h3⟩ | ⟨rfl, hpe, h1, rfl⟩
  · refine ⟨f.all, wrK (V b) j (andP m blankP p), by show (j : Int) + 1 = _; omega, wrK_kept, .inr (.inr ⟨rfl, h1, h2, ⟨m, fun hj' => by rw [wrK_at hj', if_pos rfl]⟩, ?_⟩)⟩
    obtain ⟨a0, _, hh, _⟩ := h.di.ti
    have fp := f.fp
    have fw := f.fw
    have hv := h.di.ver
    refine later_of (hh.far (by omega) f) h.di.wf (f.len.trans hlen) hA ⟨by have := h3.p0; push_cast at this ⊢; omega, by have := h3.w0; push_cast at this ⊢; omega⟩ (by omega) (by simp only; omega) fun i hi => ?_
    by_cases e : i = b
    · subst e; rw [upV_at, hta]; exact hw
    · have hui := h.us hi
      rw [upV_ne e, f.oth _ (fun e2 => e (at0_inj h.di.wf.un hui.2.2 hu.2.2 (by omega)))]
      exact h.vw i hi
  · have fw := f.fw
    have hD := h.act hb (by rw [hta]; exact f) (by rw [hta]; exact hw) h1
    refine ⟨f.all.trans h0, ?_⟩
    rcases h3 with ⟨q1, q2, q3, q4, q5⟩ | ⟨q1, q2, q3, q4, x, b', q5, q6, q7, q8, q9⟩ | ⟨q1, q2, q3, q4, q5, v, uu, ll, a0, q6, q6', q7, q8, q9⟩
    · refine ⟨_, by show (j : Int) + 1 = _; omega, wrK_kept, .inr (.inl ⟨q1, (hD.stay hS q3 q2).mono (by omega), no_spare q2.wf q4, by omega⟩)⟩
    · refine ⟨b', by rw [q9.1]; simp, filled_kept (x := b') q9, .inl ⟨q1, ?_, fun hj' => q9.2.2 p hj' rfl, by omega, .inl ⟨hpe, q4, filled_mended (x := b') q9⟩⟩⟩
      have := (hD.moved hb hS (by rw [Int.toNat_natCast] at q7; exact q7) q8 q2).mono (k' := k + 20) (by omega)
      rwa [upV_up] at this
    · have q3' : ¬ c.after < 0 := fun hp => q3 (by rw [(f.pos hp).1]; exact hp)
      have hc' : Cnt r.2.2 (1000 * ((k + 20 : Nat) : Int) + 1000) := ⟨by have := q4.p0; push_cast at this ⊢; omega, by have := q4.w0; push_cast at this ⊢; omega⟩
      have hl' : r.2.2.blocks.length = n := h0.len.trans h1.len
      rcases q9 with q9 | ⟨x, b', r1, r2, r3, r4, r5⟩
      · refine ⟨_, by show (j : Int) + 1 = _; omega, wrK_kept, .inr (.inr ⟨q1, q2, q3', ⟨129, fun hj' => by rw [wrK_at hj', if_pos rfl]⟩, ?_⟩)⟩
        refine later_of q7 q8 hl' q5 hc' (by omega) (by omega) fun i hi => ?_
        rw [q9, same_u (x := 0) hS (h.us hi).2.2]
        exact hD.vw i hi
      · refine ⟨b', by rw [r5.1]; simp, filled_kept (x := b') r5, .inr (.inr ⟨q1, q2, q3', ⟨258, fun hj' => by rw [and_full (Nat.le_refl _)]; exact r5.2.2 p hj' rfl⟩, ?_⟩)⟩
        refine later_of q7 q8 hl' q5 hc' (by omega) (by omega) fun i hi => ?_
        rw [r3, Int.toNat_natCast, at0_set hu.2.2]
        by_cases e : i = b
        · subst e; rw [if_pos rfl, upV_at]; exact r4
        · rw [if_neg e, upV_ne e, same_u (x := 0) hS (h.us hi).2.2, hD.vw i hi, upV_ne e]
  · refine ⟨f.all, _, by show (j : Int) + 1 = _; omega, wrK_kept, .inl ⟨rfl, (h.act hb (by rw [hta]; exact f) (by rw [hta]; exact hw) h1).mono (by omega), fun hj' => by rw [wrK_at hj', if_pos rfl]; exact and_full (Nat.le_refl _), ?_, .inr ⟨hpe, rfl, by rw [and_full (Nat.le_refl _)]⟩⟩⟩
    have fp := f.fp
    have fw := f.fw
    simp only
    omega
/-- What erasing a block leaves. -/
def EV (n k : Nat) (V : Nat → Blk) (b : Nat) (c : Chip) (t : TS) (r : Int × TS × Chip) : Prop :=
  FrA c r.2.2 ∧ ∃ v : Blk, (∀ (j : Nat) (h : j < 8), v.pages[j] = blankP ∨ v.pages[j] = (V b).pages[j]) ∧
  ((r.1 = 0 ∧ DV r.2.2 r.2.1 n k (upV V b v) ∧ v.next = 0 ∧ r.2.1.lost.length + FP r.2.2 + FW r.2.2 ≤ t.lost.length + FP c + FW c) ∨
   (r.1 = 34 ∧ DV r.2.2 r.2.1 n k (upV V b v) ∧ 4 ≤ r.2.1.lost.length ∧ r.2.1.lost.length + FP r.2.2 + FW r.2.2 + 1 ≤ t.lost.length + FP c + FW c) ∨
   (r.1 = 30 ∧ r.2.2.off = true ∧ ¬ c.after < 0 ∧ Later r.2.2 n k (t.lost.length + FP c + FW c) (upV V b v)))
theorem DV.blk {c : Chip} {t : TS} {n k : Nat} {V : Nat → Blk} (h : DV c t n k V) {l : Nat} (hl : l + 6 < n) : BI (V l) ∧ (V l).bad = false := h.di.bs _ _ (h.vw l hl)
theorem BI.none {b : Blk} (h : BI b) (h0 : b.next = 0) (j : Nat) (hj : j < 8) : b.pages[j] = blankP := h.bl j hj (by omega)
theorem erase_view {c : Chip} {t : TS} {n k b : Nat} {V : Nat → Blk} {r : Int × TS × Chip} (h : DV c t n k V) (hk : k ≤ 700000) (hf : FP c + FW c ≤ 3) (hb : b + 6 < n) (hr : EraseD n (b : Nat) c t r) : EV n (k + 20) V b c t r := by
  have hu := h.us hb
  have hlen := h.di.len
  obtain ⟨a, ha⟩ : ∃ a : Nat, at0 t.uses (b : Nat) = (a : Nat) := ⟨(at0 t.uses (b : Nat)).toNat, by omega⟩
  have hva := h.vw b hb
  have hta : (at0 t.uses (b : Nat)).toNat = a := by omega
  rw [hta] at hva
  obtain ⟨b1, c1, f, hw, hbi, hA, hpg, hcase⟩ := erase_disk h.di (by omega) hf (by omega) ha hva hr
  rcases hcase with ⟨h1, h2, rfl, h3⟩ | ⟨h1, h2, h0, hS, h3⟩ | ⟨h1, h2, rfl⟩
  · refine ⟨f.all, b1, hpg, .inr (.inr ⟨rfl, h1, h2, ?_⟩)⟩
    obtain ⟨a0, _, hh, _⟩ := h.di.ti
    have fp := f.fp
    have fw := f.fw
    have hv := h.di.ver
    refine later_of (hh.far (by omega) f) h.di.wf (f.len.trans hlen) hA ⟨by have := h3.p0; push_cast at this ⊢; omega, by have := h3.w0; push_cast at this ⊢; omega⟩ (by omega) (by simp only; omega) fun i hi => ?_
    by_cases e : i = b
    · subst e; rw [upV_at, hta]; exact hw
    · have hui := h.us hi
      rw [upV_ne e, f.oth _ (fun e2 => e (at0_inj h.di.wf.un hui.2.2 hu.2.2 (by omega)))]
      exact h.vw i hi
  · have fp := f.fp
    have hD := h.act hb (by rw [hta]; exact f) (by rw [hta]; exact hw) h1
    refine ⟨f.all.trans h0, ?_⟩
    rcases h3 with ⟨q1, q2, q3, q4, q5⟩ | ⟨q1, q2, q3, q4, x, b', q5, q6, q7, q8, q9⟩ | ⟨q1, q2, q3, q4, q5, v, uu, ll, a0, q6, q6', q7, q8, q9⟩
    · exact ⟨b1, hpg, .inr (.inl ⟨q1, (hD.stay hS q3 q2).mono (by omega), no_spare q2.wf q4, by omega⟩)⟩
    · have hb0 : b'.next = 0 := by rw [q9.1]; rfl
      have hbi' := (q2.bs _ _ q8).1
      refine ⟨b', fun j hj => .inl (hbi'.none hb0 j hj), .inl ⟨q1, ?_, hb0, by omega⟩⟩
      have := (hD.moved hb hS (by rw [Int.toNat_natCast] at q7; exact q7) q8 q2).mono (k' := k + 20) (by omega)
      rwa [upV_up] at this
    · have q3' : ¬ c.after < 0 := fun hp => q3 (by rw [(f.pos hp).1]; exact hp)
      have hc' : Cnt r.2.2 (1000 * ((k + 20 : Nat) : Int) + 1000) := ⟨by have := q4.p0; push_cast at this ⊢; omega, by have := q4.w0; push_cast at this ⊢; omega⟩
      have hl' : r.2.2.blocks.length = n := h0.len.trans h1.len
      rcases q9 with q9 | ⟨x, b', r1, r2, r3, r4, r5⟩
      · refine ⟨b1, hpg, .inr (.inr ⟨q1, q2, q3', ?_⟩)⟩
        refine later_of q7 q8 hl' q5 hc' (by omega) (by omega) fun i hi => ?_
        rw [q9, same_u (x := 0) hS (h.us hi).2.2]
        exact hD.vw i hi
      · have hb0 : b'.next = 0 := by rw [r5.1]; rfl
        have hbi' := (q5 _ _ r4).1
        refine ⟨b', fun j hj => .inl (hbi'.none hb0 j hj), .inr (.inr ⟨q1, q2, q3', ?_⟩)⟩
        refine later_of q7 q8 hl' q5 hc' (by omega) (by omega) fun i hi => ?_
        rw [r3, Int.toNat_natCast, at0_set hu.2.2]
        by_cases e : i = b
        · subst e; rw [if_pos rfl, upV_at]; exact r4
        · rw [if_neg e, upV_ne e, same_u (x := 0) hS (h.us hi).2.2, hD.vw i hi, upV_ne e]
  · exact ⟨f.all, b1, hpg, .inl ⟨rfl, (h.act hb (by rw [hta]; exact f) (by rw [hta]; exact hw) h1).mono (by omega), h2, by have fp := f.fp; have fw := f.fw; simp only; omega⟩⟩
end Go.Proofs.YtdfidkhbldedlaaGreat
end
section
/- Plain laws of disks: calls that are refused; what fails, and what does not. -/
namespace Go.Proofs.YtdfidkhbldedlaaGreat
open Go.K
set_option linter.unusedVariables false
set_option linter.unusedSimpArgs false
section
variable {c : Chip} {t : TS} {n k : Nat} {V : Nat → Blk} {b j : Int} {p : Pg} {r : Int × TS × Chip}
theorem prog_arg (h : DV c t n k V) (hx : ¬ (0 ≤ b ∧ b + 6 < n) ∨ ¬ (0 ≤ j ∧ j < 8)) (hr : ProgD n b j p c t r) : r = (1, t, c) := by
  have hl := h.di.wf.len
  have hm : mayE c (atD t b) j = 1 := read_bad h.di (by rcases hx with hx | hx; exact .inl (by omega); exact .inr hx)
  have hp := prog_may (d := p) (c := c) (i := atD t b) (j := j) (by rw [hm]; decide)
  rw [hm] at hp
  have := hr.2 (by rw [hp]; simp)
  rw [hp] at this
  exact this
theorem prog_ord (h : DV c t n k V) {b j : Nat} (hb : b + 6 < n) (hj : j < 8) (hn : (V b).next ≠ j) (hr : ProgD n (b : Nat) (j : Nat) p c t r) : r = (32, t, c) := by
  have hu := h.us hb
  have hv := h.vw b hb
  have hat : atD t (b : Nat) = ((at0 t.uses (b : Nat)).toNat : Nat) := atD_in (by omega) (by omega)
  have hp := prog_skip h.di.up (d := p) hv hj hn
  rw [← hat] at hp
  have := hr.2 (by rw [hp]; simp)
  rw [hp] at this
  exact this
theorem erase_arg (h : DV c t n k V) (hx : ¬ (0 ≤ b ∧ b + 6 < n)) (hr : EraseD n b c t r) : r = (1, t, c) := by
  have hl := h.di.wf.len
  have hm : mayE c (atD t b) 0 = 1 := read_bad h.di (.inl (by omega))
  have hp := erase_may (c := c) (i := atD t b) (by rw [hm]; decide)
  rw [hm] at hp
  have := hr.2 (by rw [hp]; simp)
  rw [hp] at this
  exact this
/-- Which program fails, told exactly. -/
theorem prog_tells (h : DV c t n k V) (hk : k ≤ 700000) (hp : c.after < 0) {b j : Nat} (hb : b + 6 < n) (hj : j < 8) (hn : (V b).next = j) :
    (progC c (atD t (b : Nat)) j p).1 = (if hasI c.pf.list c.pc = true then 33 else 0) ∧ (progC c (atD t (b : Nat)) j p).2.pc = c.pc + 1 := by
  have hu := h.us hb
  have hv := h.vw b hb
  have hat : atD t (b : Nat) = ((at0 t.uses (b : Nat)).toNat : Nat) := atD_in (by omega) (by omega)
  obtain ⟨h1, h2⟩ := h.di.bs _ _ hv
  have := prog_exact (d := p) h.di.up hp hv hj h2 h1 hn h.di.cnt (by omega)
  rw [← hat] at this
  exact ⟨this.1, this.2.1⟩
/-- A page whose program does not fail. -/
theorem prog_well (h : DV c t n k V) (hk : k ≤ 700000) (hf : FP c + FW c ≤ 3) (hp : c.after < 0) (hno : hasI c.pf.list c.pc = false) {b j : Nat} (hb : b + 6 < n) (hj : j < 8) (hn : (V b).next = j) (hr : ProgD n (b : Nat) (j : Nat) p c t r) :
    r.1 = 0 ∧ r.2.1 = t ∧ DV r.2.2 t n (k + 20) (upV V b (wrK (V b) j p)) ∧ r.2.2.pc = c.pc + 1 ∧ FrA c r.2.2 := by
  obtain ⟨h1, h2⟩ := prog_tells (p := p) h hk hp hb hj hn
  rw [hno, if_neg (by simp)] at h1
  obtain ⟨f, v, _, _, hc⟩ := prog_view h hk hf hb hj hn hr
  rcases hc with ⟨q1, q2, q3, q4, q5⟩ | ⟨q1, _⟩ | ⟨_, _, q3, _⟩
  · rcases q5 with ⟨q5, _⟩ | ⟨q5, q6, q7⟩
    · rw [h1] at q5; cases q5
    · rw [q6, q7] at q2
      rw [q5] at h2
      exact ⟨q1, q6, q2, h2, f⟩
  · have := hr.2 (by rw [h1]; decide)
    rw [this] at q1
    simp only at q1
    omega
  · exact absurd hp q3
/-- A page whose program fails. -/
theorem prog_fails (h : DV c t n k V) (hk : k ≤ 700000) (hf : FP c + FW c ≤ 3) (hp : c.after < 0) (hyes : hasI c.pf.list c.pc = true) {b j : Nat} (hb : b + 6 < n) (hj : j < 8) (hn : (V b).next = j) (hr : ProgD n (b : Nat) (j : Nat) p c t r) :
    FrA c r.2.2 ∧ ∃ v : Blk, v.next = ((j + 1 : Nat) : Int) ∧ Kept v (V b) j ∧ DV r.2.2 r.2.1 n (k + 20) (upV V b v) ∧
    ((r.1 = 0 ∧ (∀ h : j < 8, v.pages[j] = p) ∧ t.lost.length + 1 ≤ r.2.1.lost.length ∧ (∀ (i : Nat) (h : i < 8), i < j → v.pages[i] = mendP (V b).pages[i]) ∧ r.2.1.lost.length + FP r.2.2 + FW r.2.2 ≤ t.lost.length + FP c + FW c) ∨
     (r.1 = 34 ∧ 4 ≤ r.2.1.lost.length ∧ r.2.1.lost.length + FP r.2.2 + FW r.2.2 + 1 ≤ t.lost.length + FP c + FW c)) := by
  obtain ⟨h1, h2⟩ := prog_tells (p := p) h hk hp hb hj hn
  rw [hyes, if_pos rfl] at h1
  obtain ⟨f, v, hv1, hv2, hc⟩ := prog_view h hk hf hb hj hn hr
  refine ⟨f, v, hv1, hv2, ?_⟩
  rcases hc with ⟨q1, q2, q3, q4, q5⟩ | ⟨q1, q2, q3, q4⟩ | ⟨_, _, q3, _⟩
  · rcases q5 with ⟨_, q5, q6⟩ | ⟨q5, _⟩
    · exact ⟨q2, .inl ⟨q1, q3, q5, q6, q4⟩⟩
    · rw [q5] at h1; cases h1
  · exact ⟨q2, .inr ⟨q1, q3, q4⟩⟩
  · exact absurd hp q3
theorem dread_at (h : DV c t n k V) {b j : Nat} (hb : b + 6 < n) (hj : j < 8) : mayE c (atD t (b : Nat)) j = 0 ∧ readP c (atD t (b : Nat)) j = (V b).pages[j] := by
  have hu := h.us hb
  exact read_disk h.di (by omega) (by omega) (h.vw b hb) hj
theorem dread_bad (h : DV c t n k V) (hx : ¬ (0 ≤ b ∧ b + 6 < n) ∨ ¬ (0 ≤ j ∧ j < 8)) : mayE c (atD t b) j = 1 := by
  have hl := h.di.wf.len
  exact read_bad h.di (by rcases hx with hx | hx; exact .inl (by omega); exact .inr hx)
/-- Acts that are to fail. -/
theorem DV.fail (h : DV c t n k V) (pr : Bool) (s : Sl Int) : DV (failC c pr s) t n k V := by
  have e : (failC c pr s).blocks = c.blocks := by unfold failC; split <;> rfl
  refine ⟨⟨?_, h.di.ti.same e, h.di.wf, by rw [e]; exact h.di.len, h.di.bs.same e, ?_, h.di.ver⟩, by rw [e]; exact h.vw⟩
  · unfold failC; split <;> exact ⟨h.di.up.off, h.di.up.dead, h.di.up.out⟩
  · have h1 := h.di.cnt.p0
    have h2 := h.di.cnt.w0
    unfold failC; split
    · exact ⟨by simp only; omega, by simp only; omega⟩
    · exact ⟨by simp only; omega, by simp only; omega⟩
end
end Go.Proofs.YtdfidkhbldedlaaGreat
end
section
/- A disk in one shut piece of memory: contracts of its calls. -/
namespace Go.Proofs.YtdfidkhbldedlaaGreat
open Go.K
set_option linter.unusedVariables false
set_option linter.unusedSimpArgs false
/-- A disk: its block of memory, its table, its chip. -/
structure Dsk where
  dk : Nat
  t : Tab
  c : Chip
@[irreducible] def dkH (d : Dsk) : Hp := (d.dk, true, C [ptr d.c.aC, ptr d.t.b] tDk) :: (tabH d.c.aC d.t ++ (chH d.c ++ []))
theorem dkH_eq (d : Dsk) : dkH d = (d.dk, true, C [ptr d.c.aC, ptr d.t.b] tDk) :: (tabH d.c.aC d.t ++ (chH d.c ++ [])) := by unfold dkH; rfl
def DD (d : Dsk) (n k : Nat) (V : Nat → Blk) : Prop := DV d.c d.t.ts n k V
theorem rd_dc {P : Program} {E : Env} {H F : Hp} {t : TypeId} {x : Operand} {d : Dsk} [ht : Agg P t false] (hx : ev E x = some (.pointer (some ⟨d.dk, 0, none⟩))) (hm : PickL (dkH d) H F) : Rd P E H (.load t x) (ptr d.c.aC) :=
  rd_ld hx (hm.sub (by rw [dkH_eq]; exact .head _)) rfl
theorem chH_in (d : Dsk) : ∀ x ∈ chH d.c, x ∈ dkH d := fun x hx => by
  rw [dkH_eq]
  exact .tail _ (List.mem_append_right _ (List.mem_append_left _ hx))
theorem rd_dp {P : Program} {E : Env} {H F : Hp} {t : TypeId} {x : Operand} {d : Dsk} [ht : Agg P t false] (hx : ev E x = some (.pointer (some ⟨d.c.aC, 0, none⟩))) (hm : PickL (dkH d) H F) : Rd P E H (.load t x) (ptr d.c.aP) :=
  rd_ld hx (hm.sub (chH_in d _ (by rw [chH_eq]; exact .tail _ (.head _)))) rfl
section
variable {d : Dsk}
theorem dk_len : Does Tryz.prog 72 [ptr d.dk] (dkH d) (Is (.int .i64 d.t.u.list.length) (dkH d)) := by
  rw [dkH_eq]; exact (dlen_fn (a := d.c.aC) (t := d.t) (dk := d.dk)).inIs sP aQ sP
theorem dk_lost : Does Tryz.prog 30 [ptr d.dk] (dkH d) (Is (.int .i64 d.t.l.list.length) (dkH d)) := by
  rw [dkH_eq]; exact (dlost_fn (a := d.c.aC) (t := d.t) (dk := d.dk)).inIs sP aQ sP
theorem dk_read {b k : Int} : Does Tryz.prog 31 [ptr d.dk, .int .i64 b, .int .i64 k] (dkH d)
    (Is (.tuple #[.agg (vbc (readP d.c (atD d.t.ts b) k)).toArray, .int .i64 (mayE d.c (atD d.t.ts b) k)]) (dkH d)) := by
  rw [dkH_eq]; exact (dread_fn (c := d.c) (t := d.t) (dk := d.dk) rfl).inIs sP aQ sP
theorem dk_program {n k : Nat} {V : Nat → Blk} (h : DD d n k V) {b j : Int} {p : Pg} : Does Tryz.prog 27 [ptr d.dk, .int .i64 b, .int .i64 j, .agg (vbc p).toArray] (dkH d)
    (fun v H => ∃ (t' : Tab) (c' : Chip) (e : Int), v = .int .i64 e ∧ H = dkH ⟨d.dk, t', c'⟩ ++ [] ∧ ProgD n b j p d.c d.t.ts (e, t'.ts, c')) := by
  rw [dkH_eq]
  refine (dprogram_fn (c := d.c) (t := d.t) (dk := d.dk) (n := n) rfl h.di.len h.di.wt).inn sP fun v Y ⟨t', e, c', h1, h2, h3, h4, h5⟩ => ?_
  refine ⟨_, ⟨t', c', e, h2, rfl, h5⟩, ?_⟩
  rw [h3, dkH_eq]
  simp only [h4, List.append_nil]
  exact ⟨_, _, aQ, sP⟩
theorem dk_erase {n k : Nat} {V : Nat → Blk} (h : DD d n k V) {b : Int} : Does Tryz.prog 33 [ptr d.dk, .int .i64 b] (dkH d)
    (fun v H => ∃ (t' : Tab) (c' : Chip) (e : Int), v = .int .i64 e ∧ H = dkH ⟨d.dk, t', c'⟩ ++ [] ∧ EraseD n b d.c d.t.ts (e, t'.ts, c')) := by
  rw [dkH_eq]
  refine (derase_fn (c := d.c) (t := d.t) (dk := d.dk) (n := n) rfl h.di.len h.di.wt).inn sP fun v Y ⟨t', e, c', h1, h2, h3, h4, h5⟩ => ?_
  refine ⟨_, ⟨t', c', e, h2, rfl, h5⟩, ?_⟩
  rw [h3, dkH_eq]
  simp only [h4, List.append_nil]
  exact ⟨_, _, aQ, sP⟩
theorem failC_aC (c : Chip) (pr : Bool) (s : Sl Int) : (failC c pr s).aC = c.aC := by unfold failC; split <;> rfl
theorem dk_fail {pr : Bool} {s : Sl Int} (hs : s.list.length ≤ 1000) : Does Tryz.prog 29 [ptr d.c.aC, .bool pr, s.val] (dkH d ++ (s.hp tI ++ []))
    (fun v H => ∃ s' : Sl Int, v = .tuple #[] ∧ H = dkH ⟨d.dk, d.t, failC d.c pr s'⟩ ++ (s.hp tI ++ []) ∧ s'.list = s.list) := by
  rw [dkH_eq]; simp only [List.cons_append, List.append_assoc, List.nil_append]
  refine (fail_fn (c := d.c) (pr := pr) rfl hs).inn sP fun v Y ⟨s', h1, h2, h3, h4⟩ => ?_
  refine ⟨_, ⟨s', h1, rfl, h3⟩, ?_⟩
  rw [h2, dkH_eq]; simp only [failC_aC, List.cons_append, List.append_assoc, List.nil_append]
  exact ⟨_, _, aQ, sP⟩
theorem dk_fail1 {pr : Bool} {b : Nat} {x : Int} : Does Tryz.prog 29 [ptr d.c.aC, .bool pr, .slice (some ⟨b, 0, none⟩) 1 1] (dkH d ++ [(b, true, C [.int .i64 x] tI)])
    (fun v H => ∃ s' : Sl Int, v = .tuple #[] ∧ H = dkH ⟨d.dk, d.t, failC d.c pr s'⟩ ++ [(b, true, C [.int .i64 x] tI)] ∧ s'.list = [x]) := by
  have h := dk_fail (d := d) (pr := pr) (s := .own b [x] 1 [] ⟨by simp, Nat.le_refl _, by simp⟩) (by show 1 ≤ 1000; omega)
  rw [Sl.hp_own] at h
  exact h
end
theorem count_no (m : Nat) : (badL m []).countP id = 0 := by
  unfold badL
  rw [List.countP_map]
  exact List.countP_eq_zero.2 fun x _ => (show ¬ false = true from Bool.false_ne_true)
/-- What a new disk is. -/
structure New0 (d : Dsk) (m : Nat) : Prop where
  dd : DD d m 0 fun _ => newB false
  pf : d.c.pf.list = []
  wf : d.c.wf.list = []
  af : d.c.after < 0
  lost : d.t.ts.lost.length = 0
  uses : d.t.ts.uses = fmtV (badL m []) ((m : Int) - 6) m
theorem dk_format {pp aC aB m : Nat} (hm : 16 ≤ m ∧ m ≤ 40) (hX : fmtX (badL m []) = false) : Does Tryz.prog 62 [ptr aC] (chH (newG (-1) 0 pp aC aB m []))
    (fun v H => ∃ d : Dsk, v = .tuple #[ptr d.dk, .int .i64 0] ∧ H = dkH d ++ [] ∧ New0 d m) := by
  refine (dformat_fn (pp := pp) (aC := aC) (aB := aB) hm hX).mono fun v H ⟨dk, tb, c', h1, h2, h3, _, h4, h5⟩ => ?_
  refine ⟨⟨dk, tb, c'⟩, h1, by rw [dkH_eq, h2, ← h3]; simp, h4.di h5, h4.pf, h4.wfl, h4.af, ?_, h4.rel.uu.symm⟩
  have := h4.rel.count
  rw [count_no] at this
  exact this.symm
theorem dk_laid {m : Nat} (hm : 16 ≤ m ∧ m ≤ 40) (hX : fmtX (badL m []) = false) : Does Tryz.prog 26 [.int .i64 (m : Nat)] [] (fun v H => ∃ d : Dsk, v = ptr d.dk ∧ H = dkH d ++ [] ∧ New0 d m) := by
  refine (laid_fn hm hX).mono fun v H ⟨dk, aC, tb, c', h1, h2, h3, h4, h5⟩ => ?_
  refine ⟨⟨dk, tb, c'⟩, h1, by rw [dkH_eq, h2, ← h3]; simp, h4.di h5, h4.pf, h4.wfl, h4.af, ?_, h4.rel.uu.symm⟩
  have := h4.rel.count
  rw [count_no] at this
  exact this.symm
theorem fx16 : fmtX (badL 16 []) = false := by decide +kernel
theorem fp_nil {c : Chip} (h : c.pf.list = []) : FP c = 0 := by unfold FP; rw [h]; rfl
theorem fw_nil {c : Chip} (h : c.wf.list = []) : FW c = 0 := by unfold FW; rw [h]; rfl
end Go.Proofs.YtdfidkhbldedlaaGreat
end
section
/- Walks of the laws of disks: the example; pages in order; once no spare is left. -/
namespace Go.Proofs.YtdfidkhbldedlaaGreat
open Go.K
set_option linter.unusedVariables false
set_option linter.unusedSimpArgs false
instance und54 : Und Tryz.prog 54 (.pointer 62) := ⟨Tryz.underlying54⟩
instance agg54 : Agg Tryz.prog 54 false := ⟨⟨_, Tryz.underlying54, rfl⟩⟩
instance siz54 : Siz Tryz.prog 54 1 := ⟨by kernel_rfl⟩
instance ent25 : Ent Tryz.prog 25 := ⟨fun _ _ => by kernel_rfl⟩
set_option maxRecDepth 20000
/-- The example's state. -/
structure SpI (t : Tab) (c : Chip) (i : Nat) : Prop where
  dv : ∃ V, DV c t.ts 16 (20 * i) V ∧ (V 4).next = i ∧ (0 < i → (V 4).pages[0] = pageL 1 0)
  af : c.after < 0
  pf : c.pf.list = [2]
  wf : c.wf.list = []
  pc : i ≤ 2 → c.pc = i ∧ t.ts.lost.length = 0
  lo : i = 3 → t.ts.lost.length = 1
theorem fp_one {c : Chip} {x : Int} (h : c.pf.list = [x]) : FP c ≤ 1 := by
  unfold FP; rw [h]
  exact List.length_filter_le _ _
theorem fp_zero {c : Chip} {x : Int} (h : c.pf.list = [x]) (hx : x < c.pc) : FP c = 0 := by
  unfold FP; rw [h]
  simp; omega
theorem has_one {x y : Int} : hasI [x] y = decide (x = y) := by
  by_cases h : x = y
  · subst h
    rw [decide_eq_true rfl]
    exact has_mem.2 (by simp)
  · rw [decide_eq_false h]
    cases h2 : hasI [x] y with
    | false => rfl
    | true =>
      have := has_mem.1 h2
      simp at this
      exact absurd this.symm h
theorem SpI.step {t t' : Tab} {c c' : Chip} {i : Nat} {e : Int} (h : SpI t c i) (hi : i < 3) (hr : ProgD 16 4 i (pageL 1 i) c t.ts (e, t'.ts, c')) : e = 0 ∧ SpI t' c' (i + 1) := by
  obtain ⟨V, hd, hn, h0⟩ := h.dv
  have hp1 := fp_one h.pf
  have hw0 := fw_nil h.wf
  obtain ⟨hpc, hlo⟩ := h.pc (by omega)
  by_cases e2 : i = 2
  · subst e2
    obtain ⟨f, v, hv1, hv2, hv3, hv4⟩ := prog_fails hd (by omega) (by omega) h.af (by rw [h.pf, has_one, hpc]; rfl) (b := 4) (by omega) (by omega) hn hr
    rcases hv4 with ⟨q1, q2, q3, _, q4⟩ | ⟨q1, q2, q3⟩
    · refine ⟨q1, ⟨⟨_, hv3, by rw [upV_at]; exact hv1, fun _ => ?_⟩, by rw [(f.pos h.af).1]; exact h.af, by rw [f.pf]; exact h.pf, by rw [f.wf]; exact h.wf, fun h5 => by omega, fun _ => ?_⟩⟩
      · rw [upV_at]
        rcases hv2 0 (by omega) (by omega) with h6 | h6
        · rw [h6]; exact h0 (by omega)
        · rw [h6, h0 (by omega), mend_pageL]
      · simp only at q3 q4; omega
    · simp only at q2 q3; omega
  · obtain ⟨q1, q2, q3, q4, f⟩ := prog_well hd (by omega) (by omega) h.af (by rw [h.pf, has_one, hpc, decide_eq_false (by omega)]) (b := 4) (by omega) (by omega) hn hr
    simp only at q1 q2 q3 q4 f
    refine ⟨q1, ⟨⟨_, by rw [q2]; exact q3, by rw [upV_at]; show (i : Int) + 1 = _; omega, fun _ => ?_⟩, by rw [(f.pos h.af).1]; exact h.af, by rw [f.pf]; exact h.pf, by rw [f.wf]; exact h.wf, fun h5 => ⟨by omega, by rw [q2]; exact hlo⟩, fun h5 => by omega⟩⟩
    rw [upV_at, wrK_at (by omega)]
    split
    · rename_i h6; subst h6; rfl
    · exact h0 (by omega)
theorem SpI.start {d : Dsk} {s : Sl Int} (h : New0 d 16) (hs : s.list = [2]) : SpI d.t (failC d.c true s) 0 :=
  ⟨⟨_, h.dd.fail true s, rfl, fun h => by omega⟩, h.af, hs, h.wf, fun _ => ⟨rfl, h.lost⟩, fun h => by omega⟩
theorem speaks7_fn : Does Tryz.prog 25 [] [] (Is (.bool true) []) := by
  refine fn_enter (n := 58) Tryz.func25 Tryz.ntmps25 rfl (Nat.le_of_ble_eq_true rfl) <| s_seq <| s_region0 fun ops => oA rfl <| o_nil <| n_K <| s_seq <| s_region0 fun ops => ?_
  refine c_ex rfl (newPower_fn) sP rfl fun v8 Y8 h8 => ?_
  obtain ⟨p8, rfl, rfl⟩ := h8
  refine so_ap aQ ?_
  refine c_ex rfl (new0_fn (n := 16) (by decide)) sP rfl fun v9 Y9 h9 => ?_
  obtain ⟨aC, aB, rfl, rfl⟩ := h9
  refine so_ap aQ ?_
  refine oM rfl <| oE rfl rfl <| oE rfl rfl <| oA rfl <| oA rfl <| o_nil <| n_K <| s_seq <| s_seq <| s_region0 fun ops => oM rfl <| oR (rd_eqNil rfl rfl) <| o_nil <| n_K ?_
  refine s_condF rfl ?_
  refine s_skip <| n_K <| s_seq <| s_region0 fun ops => oM rfl ?_
  refine c_ex rfl (dk_format (pp := p8) (aC := aC) (aB := aB) (m := 16) (by decide) fx16) sP rfl fun v16 Y16 h16 => ?_
  obtain ⟨d, rfl, rfl, hd⟩ := h16
  refine so_ap aQ ?_
  refine oM rfl <| oE rfl rfl <| oE rfl rfl <| oA rfl <| oA rfl <| o_nil <| n_K <| s_seq <| s_seq ?_
  refine s_region [(2, 21)] rfl fun ops y => ?_
  refine oM rfl <| oR (rd_eqNil rfl rfl) <| oM rfl ?_
  refine' o_or (j := 2) (k := 2) y rfl rfl rfl rfl rfl rfl rfl (fun hg21 => ?_) ?_
  rotate_left
  · try (simp at hg21; show _)
    refine o_g y rfl rfl ?_
    refine oM rfl ?_
    refine o_g y rfl rfl ?_
    refine oR (rd_bin rfl rfl rfl) ?_
    exact o_nil ⟨rfl, rfl, ⟨_, sP⟩⟩
  refine o_nil <| n_K ?_
  refine s_condF rfl ?_
  refine s_skip <| n_K <| s_seq <| s_region0 fun ops => oM rfl <| oN rfl <| oF rfl ?_
  refine oR (rd_dc rfl pL) ?_
  refine o_bslice_k rfl rfl rfl rfl fun b29 => ?_
  refine c_ex rfl (dk_fail1 (d := d)) sP rfl fun v30 Y30 h30 => ?_
  obtain ⟨s', rfl, rfl, hs'⟩ := h30
  refine so_ap aQ ?_
  refine o_nil <| n_K <| s_seq <| s_seq <| s_region0 fun ops => oA rfl <| o_nil <| n_K <| s_block ?_
  refine s_loop2 [3] kQ (fun (st : Nat × Tab × Chip) => [(5, .int .i64 st.1)]) (fun (st : Nat × Tab × Chip) => dkH ⟨d.dk, st.2.1, st.2.2⟩ ++ []) (fun (st : Nat × Tab × Chip) => st.1 ≤ 3 ∧ SpI st.2.1 st.2.2 st.1) (fun (st : Nat × Tab × Chip) => 3 - st.1) ((0, d.t, failC d.c true s')) ⟨Nat.zero_le _, SpI.start hd hs'⟩ kP sP ?_
  rintro ⟨i, t1, c1⟩ ⟨g0, g1⟩
  simp only at g0 g1
  refine s_seq <| s_seq <| s_region0 fun ops => oM rfl <| oR (rd_bin rfl rfl rfl) <| o_nil <| n_K ?_
  refine s_cond rfl (fun c32 => ?_) (fun c32 => ?_)
  · simp only [decide_eq_true_eq, decide_eq_false_iff_not] at c32
    have hi3 : i < 3 := (by omega)
    refine s_skip <| n_K <| s_seq <| s_block <| s_seq <| s_region0 fun ops => oM rfl <| oM rfl <| oM rfl ?_
    refine c_is rfl (page_fn7 (b := 1) (k := (i : Nat))) sP rfl aQ ?_
    refine c_ex rfl (dk_program (d := ⟨d.dk, t1, c1⟩) g1.dv.choose_spec.1 (b := 4) (p := pageL 1 i)) sP rfl fun v39 Y39 h39 => ?_
    obtain ⟨t', c', e, rfl, rfl, hP⟩ := h39
    refine so_ap aQ ?_
    refine oR (rd_bin rfl rfl rfl) <| o_nil <| n_K ?_
    refine s_cond rfl (fun c40 => ?_) (fun c40 => ?_)
    · skip
      have h40 := (g1.step hi3 hP).1
      subst h40
      cases c40
    · skip
      refine s_skip <| n_blk <| n_K <| s_region0 fun ops => oM rfl ?_
      refine oR (rd_add64 rfl rfl (by omega)) ?_
      refine oA rfl <| o_nil <| n_K ?_
      exact ⟨(i + 1, t', c'), ⟨by simp only; omega, (g1.step hi3 hP).2⟩, (by simp only; omega), lZ⟩
  · simp only [decide_eq_true_eq, decide_eq_false_iff_not] at c32
    have hi : i = 3 := (by omega)
    subst hi
    obtain ⟨V, hd1, _, h0⟩ := g1.dv
    have hrd : mayE c1 (atD t1.ts 4) 0 = 0 ∧ readP c1 (atD t1.ts 4) 0 = (V 4).pages[0] := dread_at hd1 (b := 4) (j := 0) (by omega) (by omega)
    refine s_exit <| x_K <| x_K <| x_blk <| n_K <| s_seq <| s_region0 fun ops => oM rfl ?_
    refine c_is rfl ((dk_read (d := ⟨d.dk, t1, c1⟩) (b := 4) (k := 0)).to (by rw [hrd.1, hrd.2, h0 (by omega)]) rfl) sP rfl aQ ?_
    refine oM rfl <| oE rfl rfl <| oE rfl rfl ?_
    refine o_alloc rfl fun b6 => ?_
    rw [zeroP_eq]
    first | refine o_store rfl rfl uD (vc_vb) (vbc_len) (spl_vb (by first | exact vbc_len | exact List.length_replicate ..)) ?_ | refine o_store rfl rfl uD rfl rfl rfl ?_
    refine oA rfl <| o_nil <| n_K <| s_seq ?_
    refine s_draw [(3, 49), (7, 53)] [(1, [(0, false)]), (2, [(1, true)]), (7, [(2, false), (3, false), (4, false), (5, false), (6, false)]), (12, [(7, false), (8, false), (9, true), (10, false), (11, false)]), (13, [(12, false)])] (by kernel_rfl) rfl fun ops w0 H0 y => ?_
    refine p_all <| xM rfl <| x_nil <| p_none <| x_so ?_
    refine c_is rfl ((dk_lost (d := ⟨d.dk, t1, c1⟩)).to (by rw [show t1.l.list.length = 1 from g1.lo rfl]) rfl) sP rfl aQ ?_
    refine o_nil ⟨rfl, ⟨_, sP⟩, ?_⟩
    refine x_nil <| p_all <| xR (rd_bin rfl rfl rfl) <| xM rfl ?_
    refine' x_and (j := 3) (k := 2) y rfl rfl rfl rfl rfl rfl rfl (fun hg49 => ?_) ?_
    rotate_left
    · try (simp at hg49; show _)
      refine x_g y rfl rfl ?_
      refine xM rfl ?_
      refine x_g y rfl rfl ?_
      refine xR (rd_bin rfl rfl rfl) ?_
      exact x_nil ⟨rfl, ⟨_, sP⟩⟩
    refine x_nil <| p_all <| xM rfl ?_
    refine' x_and (j := 7) (k := 3) y rfl rfl rfl rfl rfl rfl rfl (fun hg53 => ?_) ?_
    rotate_left
    · try (simp at hg53; show _)
      refine x_g y rfl rfl ?_
      refine xR (rd_ldA rfl mM (by first | exact cut_vb | rfl)) ?_
      refine x_g y rfl rfl ?_
      refine x_so ?_
      refine c_is rfl (page_fn7 (b := 1) (k := 0)) sP rfl aQ ?_
      refine o_nil ⟨rfl, ⟨_, sP⟩, ?_⟩
      refine x_g y rfl rfl ?_
      refine xR (rd_eqA rfl rfl (pg_eq _ _)) ?_
      exact x_nil ⟨rfl, ⟨_, sP⟩⟩
    refine x_nil <| p_all <| xA rfl <| x_nil <| p_end <| n_K <| s_ret ?_
    refine leaf_is (rets1 Tryz.results25 (rv_tmp rfl)) ?_ sP
    simp
end Go.Proofs.YtdfidkhbldedlaaGreat
end
