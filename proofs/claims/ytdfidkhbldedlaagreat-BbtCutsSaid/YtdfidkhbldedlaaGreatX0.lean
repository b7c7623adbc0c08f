/- Walk of the law BbtCuts. -/
import Derived.Test.YtdfidkhbldedlaaGreatZ8
namespace Go.Proofs.YtdfidkhbldedlaaGreat
open Go.K
set_option linter.unusedVariables false
set_option linter.unusedSimpArgs false
instance ent4 : Ent Tryz.prog 4 := ⟨fun _ _ => by kernel_rfl⟩
/-- The power is there again. -/
def onC (c : Chip) : Chip := { c with off := false, after := -1 }
def cutC (c : Chip) (a k : Int) : Chip := { c with after := max a (-1), keep := k }
/-- All that is known between two calls, whatever the power is to do. -/
structure JC (c : Chip) (t : TS) (u : List Int) (l : List Bool) (n k : Nat) : Prop where
  up : Up c
  ti : TI c t
  rel : RelT t u l n
  wf : WF n t.uses t.lost
  len : c.blocks.length = n
  ver : t.version.toNat ≤ k + 1
  cnt : Cnt c (1000 * k + 1000)
  pf : c.pf.list = []
  wfl : c.wf.list = []
theorem Hold.same {c c' : Chip} {v : Nat} {u l : List Int} {a : Nat} (h : Hold c v u l a) (hb : c'.blocks = c.blocks) : Hold c' v u l a :=
  ⟨by rw [hb]; exact h.ok, h.a2, by rw [hb]; exact h.bs, by rw [hb]; exact h.le, by rw [hb]; exact h.ex⟩
theorem TI.same {c c' : Chip} {t : TS} (h : TI c t) (hb : c'.blocks = c.blocks) : TI c' t := by
  obtain ⟨a, h1, h2, h3⟩ := h
  exact ⟨a, h1, h2.same hb, by rw [hb]; exact h3⟩
theorem JC.on {c : Chip} {t : TS} {u : List Int} {l : List Bool} {n k : Nat} (h : JC c t u l n k) : JC (onC c) t u l n k :=
  ⟨⟨rfl, h.up.dead, h.up.out⟩, h.ti.same rfl, h.rel, h.wf, h.len, h.ver, ⟨h.cnt.p0, h.cnt.w0⟩, h.pf, h.wfl⟩
theorem JC.cut {c : Chip} {t : TS} {u : List Int} {l : List Bool} {n k : Nat} (h : JC c t u l n k) (a q : Int) : JC (cutC c a q) t u l n k :=
  ⟨⟨h.up.off, h.up.dead, h.up.out⟩, h.ti.same rfl, h.rel, h.wf, h.len, h.ver, ⟨h.cnt.p0, h.cnt.w0⟩, h.pf, h.wfl⟩
theorem JC.mono {c : Chip} {t : TS} {u : List Int} {l : List Bool} {n k : Nat} (h : JC c t u l n k) : JC c t u l n (k + 1) :=
  ⟨h.up, h.ti, h.rel, h.wf, h.len, by have := h.ver; omega, ⟨by have := h.cnt.p0; push_cast; omega, by have := h.cnt.w0; push_cast; omega⟩, h.pf, h.wfl⟩
theorem JI.jc {c : Chip} {t : TS} {u : List Int} {l : List Bool} {n k : Nat} (h : JI c t u l n k) : JC c t u l n k := ⟨h.up, h.ti, h.rel, h.wf, h.len, h.ver, h.cnt, h.pf, h.wfl⟩
theorem JC.refS {c : Chip} {t : TS} {u : List Int} {l : List Bool} {n k : Nat} (h : JC c t u l n k) : u.length ≤ 1000 ∧ l.length ≤ 1000 ∧ ∀ x ∈ u, 0 ≤ x ∧ x < l.length := by
  have h1 := h.wf.n2
  have h2 := h.wf.len
  have h3 := h.rel.uu
  have h4 := h.rel.ll
  refine ⟨by rw [h3]; omega, by omega, fun x hx => ?_⟩
  rw [h3] at hx
  have := h.wf.us x hx
  omega
theorem JC.tabS {c : Chip} {t : Tab} {u : List Int} {l : List Bool} {n k : Nat} (h : JC c t.ts u l n k) : t.u.list.length ≤ 1000 ∧ t.l.list.length ≤ 11 ∧ 0 ≤ t.next ∧ (0 ≤ t.area ∧ t.area ≤ 1) := by
  have h1 := h.wf.n2
  have h2 : t.u.list.length + 6 = n := h.wf.len
  have h3 : t.l.list.length ≤ 4 := h.wf.lost4
  obtain ⟨a, h4, h5, b, h6, h7, h8⟩ := h.ti
  have h9 := h5.a2
  have h10 : t.area = a := h4
  have h11 : 0 ≤ t.next := h7
  omega
/-- What a call comes to, whenever the power goes. -/
theorem JC.keep {c : Chip} {t : TS} {u u' lost : List Int} {l l' : List Bool} {n k : Nat} {e : Int} {t' : TS} {c' : Chip} (h : JC c t u l n k) (hk : k ≤ 1000) (hr : (e, t', c') = keepC t u' lost c) (hw : WF n u' lost) (hn : lost.length = t.lost.length + 1) (hrel : ∀ t' : TS, t'.uses = u' → t'.lost = lost → RelT t' u' l' n) :
    (e = 0 ∧ JC c' t' u' l' n (k + 1)) ∨ (e = 30 ∧ ∃ t2, openC (onC c') = (0, t2) ∧ ((JC (onC c') t2 u l n (k + 1) ∧ ¬ t2.lost.length = l'.countP id) ∨ JC (onC c') t2 u' l' n (k + 1))) := by
  have hfp : FP c ≤ 7 := by unfold FP; rw [h.pf]; simp
  have hfw : FW c ≤ 3 := by unfold FW; rw [h.wfl]; simp
  obtain ⟨e2, t2, c2, h1, h2, h3, h4⟩ := keep_hold (u := u') (l := lost) (B := 1000 * k + 1000) h.up h.ti (by have := h.ver; omega) (by rw [h.len]; exact hw.okP) hfp hfw h.cnt (by omega)
  rw [h1] at hr
  simp only [Prod.mk.injEq] at hr
  obtain ⟨rfl, rfl, rfl⟩ := hr
  have p := h3.p0
  have q := h3.w0
  have hc : ∀ d : Chip, d.pc = c'.pc → d.wc = c'.wc → Cnt d (1000 * ((k + 1 : Nat) : Int) + 1000) := fun d h5 h6 => ⟨by rw [h5]; push_cast; omega, by rw [h6]; push_cast; omega⟩
  rcases h4 with ⟨h5, h6, h7, h8, h9, h10⟩ | ⟨h5, h6, h7, h8, h9⟩
  · exact .inl ⟨h5, h6, h7, hrel _ h8 h9, by rw [h8, h9]; exact hw, h2.len.trans h.len, by have := h.ver; omega, hc _ rfl rfl, by rw [h2.pf]; exact h.pf, by rw [h2.wf]; exact h.wfl⟩
  · have upo : Up (onC c') := ⟨rfl, h2.dead.trans h.up.dead, h2.out.trans h.up.out⟩
    have hlen : (onC c').blocks.length = n := h2.len.trans h.len
    have hpf : (onC c').pf.list = [] := by show c'.pf.list = []; rw [h2.pf]; exact h.pf
    have hwf : (onC c').wf.list = [] := by show c'.wf.list = []; rw [h2.wf]; exact h.wfl
    have hver := h.ver
    refine .inr ⟨h5, ?_⟩
    rcases h9 with ⟨a, hh⟩ | ⟨a, hh⟩
    · obtain ⟨t3, o1, o2, o3, o4, o5⟩ := open_hold upo (hh.same (c' := onC c') rfl)
      refine ⟨t3, o1, .inl ⟨⟨upo, o2, h.rel.of o3 o4, by rw [o3, o4]; exact h.wf, hlen, by omega, hc _ rfl rfl, hpf, hwf⟩, ?_⟩⟩
      have := (hrel ⟨u', lost, 0, 0, 0, 0⟩ rfl rfl).count
      rw [o4, this]
      show ¬ t.lost.length = lost.length
      omega
    · obtain ⟨t3, o1, o2, o3, o4, o5⟩ := open_hold upo (hh.same (c' := onC c') rfl)
      exact ⟨t3, o1, .inr ⟨upo, o2, hrel _ o3 o4, by rw [o3, o4]; exact hw, hlen, by omega, hc _ rfl rfl, hpf, hwf⟩⟩
theorem rd_pw {P : Program} {E : Env} {H F : Hp} {t : TypeId} {x : Operand} {c : Chip} {a : Nat} [ht : Agg P t false] (ha : c.aC = a) (hx : ev E x = some (.pointer (some ⟨a, 0, none⟩))) (hm : PickL (chH c) H F) : Rd P E H (.load t x) (ptr c.aP) := by
  subst ha
  exact rd_ld hx (hm.sub (by rw [chH_eq]; exact .tail _ (.head _))) rfl
theorem doC_fn {c : Chip} {t : Tab} {a n k : Nat} {u u' : List Int} {l l' : List Bool} {o : OpV} {b : Int} {ok : Bool} (ha : c.aC = a) (h : JC c t.ts u l n k) (hk : k ≤ 1000) (hst : StepR u l o b ok u' l') :
    Does Tryz.prog 19 [ptr t.b, .agg (opC o).toArray, .int .i64 b] (tabH a t ++ (chH c ++ []))
    (fun v H => (ok = false ∧ v = .int .i64 1 ∧ ∃ (t' : Tab) (c' : Chip), t'.b = t.b ∧ H = tabH a t' ++ (chH c' ++ []) ∧ c'.aC = a ∧ JC (onC c') t'.ts u l n (k + 1)) ∨
      (ok = true ∧ v = .int .i64 0 ∧ ∃ (t' : Tab) (c' : Chip), t'.b = t.b ∧ H = tabH a t' ++ (chH c' ++ []) ∧ c'.aC = a ∧ JC (onC c') t'.ts u' l' n (k + 1)) ∨
      (ok = true ∧ v = .int .i64 30 ∧ ∃ (t' : Tab) (c' : Chip) (t2 : TS), t'.b = t.b ∧ H = tabH a t' ++ (chH c' ++ []) ∧ c'.aC = a ∧ openC (onC c') = (0, t2) ∧ ((JC (onC c') t2 u l n (k + 1) ∧ ¬ t2.lost.length = l'.countP id) ∨ JC (onC c') t2 u' l' n (k + 1)))) := by
  obtain ⟨s1, s2, s3, s4⟩ := h.tabS
  refine (do_fn (o := o) (b := b) ha s1 s2 s3 s4).mono fun v H ⟨t', e, c', h1, h2, h3, h4, h5⟩ => ?_
  have hlen := h.len
  rcases do_step (by rw [hlen]; exact h.rel) (by rw [hlen]; exact h.wf) hst h5 with ⟨hok, hr⟩ | ⟨hok, lost, hr, hw, hn, hrel⟩
  · simp only [Prod.mk.injEq] at hr
    obtain ⟨rfl, hts, rfl⟩ := hr
    exact .inl ⟨hok, h2, t', c', h1, h3, h4, by rw [hts]; exact h.on.mono⟩
  · rw [hlen] at hw hrel
    rcases h.keep hk hr hw hn hrel with ⟨rfl, hJ⟩ | ⟨rfl, t2, ho, hJ⟩
    · exact .inr (.inl ⟨hok, h2, t', c', h1, h3, h4, hJ.on⟩)
    · exact .inr (.inr ⟨hok, h2, t', c', t2, h1, h3, h4, ho, hJ⟩)
theorem le_of_step {u u' : List Int} {l l' : List Bool} {o : OpV} {b : Int} {ok : Bool} (h : u.length ≤ 1000) (hs : StepR u l o b ok u' l') : u'.length ≤ 1000 := by
  cases hk : evn o.kind with
  | true => rw [(hs.1 hk).2.1]; exact h
  | false =>
    rw [(hs.2 hk).2.1]
    split
    · rw [List.length_set]; exact h
    · exact h
theorem sameC_fn {c : Chip} {t : Tab} {r : RTab} {a n k : Nat} (ha : c.aC = a) (h : JC c t.ts r.u.list r.l.list n k) : Does Tryz.prog 20 [ptr t.b, ptr r.b] (tabH a t ++ (chH c ++ (refH r ++ []))) (Is (.bool true) (tabH a t ++ (chH c ++ (refH r ++ [])))) :=
  sameR_fn ha h.len (by have := h.wf.n2; omega) h.refS.1 h.rel
theorem powOn_fn {c : Chip} : Does Tryz.prog 23 [ptr c.aP] (chH c) (Is (.tuple #[]) (chH (onC c))) := pwOn_fn
theorem powCut_fn {c : Chip} {a k : Int} : Does Tryz.prog 22 [ptr c.aP, .int .i64 a, .int .i64 k] (chH c) (Is (.tuple #[]) (chH (cutC c a k))) := cut_fn
theorem cuts_fn {sc : Sl OpV} {cu kp : Sl Int} : Does Tryz.prog 4 [sc.val, cu.val, kp.val] (sc.hp tOp ++ (cu.hp tI ++ (kp.hp tI ++ []))) (fun v H => v = .bool true) := by
  refine fn_enter (n := 138) Tryz.func4 Tryz.ntmps4 rfl (Nat.le_of_ble_eq_true rfl) ?_
  refine s_seq ?_
  refine s_region0 (fun ops => ?_)
  refine o_rd (rd_assign rfl) rfl ?_
  refine o_nil ?_
  refine n_K ?_
  refine s_seq ?_
  refine s_seq ?_
  refine s_region0 (fun ops => ?_)
  refine c_is rfl (speaks_fn) (by repeat (first | exact Split.nil | (apply Split.cons; next => repeat (first | exact Pick.here | apply Pick.there | apply Pick.app)) | (apply Split.chunk; next => repeat (first | exact PickL.here | exact PickL.last | apply PickL.there | apply PickL.app)) | (apply Split.lst; repeat (first | exact PickL.here | exact PickL.last | apply PickL.there | apply PickL.app)))) rfl (by repeat (first | exact Ap.nil | apply Ap.cons | apply Ap.app | exact Ap.one)) ?_
  refine o_rd (rd_not rfl) rfl ?_
  refine o_nil ?_
  refine n_K ?_
  refine s_condF rfl ?_
  refine s_skip ?_
  refine n_K ?_
  refine s_seq ?_
  refine s_seq ?_
  refine s_region [(3, 24), (8, 29)] rfl (fun ops y => ?_)
  refine o_rd (rd_move rfl) rfl ?_
  refine o_rd (rd_lenS rfl) rfl ?_
  refine o_rd (rd_bin rfl rfl rfl) rfl ?_
  refine o_rd (rd_move rfl) rfl ?_
  refine' o_or (j := 3) (k := 3) y rfl rfl rfl rfl rfl rfl rfl (fun hg24 => ?_) ?_
  rotate_left
  · try (simp at hg24; show _)
    refine o_g y rfl rfl ?_
    refine o_rd (rd_move rfl) rfl ?_
    refine o_g y rfl rfl ?_
    refine o_rd (rd_lenS rfl) rfl ?_
    refine o_g y rfl rfl ?_
    refine o_rd (rd_bin rfl rfl rfl) rfl ?_
    exact o_nil ⟨rfl, rfl, ⟨_, (by repeat (first | exact Split.nil | (apply Split.cons; next => repeat (first | exact Pick.here | apply Pick.there | apply Pick.app)) | (apply Split.chunk; next => repeat (first | exact PickL.here | exact PickL.last | apply PickL.there | apply PickL.app)) | (apply Split.lst; repeat (first | exact PickL.here | exact PickL.last | apply PickL.there | apply PickL.app))))⟩⟩
  refine o_rd (rd_move rfl) rfl ?_
  refine' o_or (j := 8) (k := 3) y rfl rfl rfl rfl rfl rfl rfl (fun hg29 => ?_) ?_
  rotate_left
  · try (simp at hg29; show _)
    refine o_g y rfl rfl ?_
    refine o_rd (rd_move rfl) rfl ?_
    refine o_g y rfl rfl ?_
    refine o_rd (rd_lenS rfl) rfl ?_
    refine o_g y rfl rfl ?_
    refine o_rd (rd_bin rfl rfl rfl) rfl ?_
    exact o_nil ⟨rfl, rfl, ⟨_, (by repeat (first | exact Split.nil | (apply Split.cons; next => repeat (first | exact Pick.here | apply Pick.there | apply Pick.app)) | (apply Split.chunk; next => repeat (first | exact PickL.here | exact PickL.last | apply PickL.there | apply PickL.app)) | (apply Split.lst; repeat (first | exact PickL.here | exact PickL.last | apply PickL.there | apply PickL.app))))⟩⟩
  refine o_nil ?_
  refine n_K ?_
  refine s_cond rfl (fun c33 => ?_) (fun c33 => ?_)
  · skip
    refine s_seq ?_
    refine s_region0 (fun ops => ?_)
    refine o_rd (rd_assign rfl) rfl ?_
    refine o_nil ?_
    refine n_K ?_
    refine s_ret ?_
    refine r_K ?_
    exact leaf_r (rets1 Tryz.results4 (rv_tmp rfl)) (by rfl) (by repeat (first | exact Split.nil | (apply Split.cons; next => repeat (first | exact Pick.here | apply Pick.there | apply Pick.app)) | (apply Split.chunk; next => repeat (first | exact PickL.here | exact PickL.last | apply PickL.there | apply PickL.app)) | (apply Split.lst; repeat (first | exact PickL.here | exact PickL.last | apply PickL.there | apply PickL.app))))
  · skip
    have hsc : sc.list.length ≤ 30 := (by simp at c33; omega)
    refine s_skip ?_
    refine n_K ?_
    refine s_seq ?_
    refine s_region0 (fun ops => ?_)
    refine c_ex rfl (newPower_fn) (by repeat (first | exact Split.nil | (apply Split.cons; next => repeat (first | exact Pick.here | apply Pick.there | apply Pick.app)) | (apply Split.chunk; next => repeat (first | exact PickL.here | exact PickL.last | apply PickL.there | apply PickL.app)) | (apply Split.lst; repeat (first | exact PickL.here | exact PickL.last | apply PickL.there | apply PickL.app)))) rfl (fun v35 Y35 h35 => ?_)
    obtain ⟨p35, rfl, rfl⟩ := h35
    refine so_ap (by repeat (first | exact Ap.nil | apply Ap.cons | apply Ap.app | exact Ap.one)) ?_
    refine c_ex rfl (new0_fn (n := 24) (by decide)) (by repeat (first | exact Split.nil | (apply Split.cons; next => repeat (first | exact Pick.here | apply Pick.there | apply Pick.app)) | (apply Split.chunk; next => repeat (first | exact PickL.here | exact PickL.last | apply PickL.there | apply PickL.app)) | (apply Split.lst; repeat (first | exact PickL.here | exact PickL.last | apply PickL.there | apply PickL.app)))) rfl (fun v36 Y36 h36 => ?_)
    obtain ⟨aC, aB, rfl, rfl⟩ := h36
    refine so_ap (by repeat (first | exact Ap.nil | apply Ap.cons | apply Ap.app | exact Ap.one)) ?_
    refine o_rd (rd_move rfl) rfl ?_
    refine o_rd (rd_extract rfl rfl) rfl ?_
    refine o_rd (rd_extract rfl rfl) rfl ?_
    refine o_rd (rd_assign rfl) rfl ?_
    refine o_rd (rd_assign rfl) rfl ?_
    refine o_nil ?_
    refine n_K ?_
    refine s_seq ?_
    refine s_seq ?_
    refine s_region0 (fun ops => ?_)
    refine o_rd (rd_move rfl) rfl ?_
    refine o_rd (rd_eqNil rfl rfl) rfl ?_
    refine o_nil ?_
    refine n_K ?_
    refine s_condF rfl ?_
    refine s_skip ?_
    refine n_K ?_
    refine s_seq ?_
    refine s_region0 (fun ops => ?_)
    refine o_rd (rd_move rfl) rfl ?_
    refine c_ex rfl (formatF_fn (pp := p35) (aC := aC) (aB := aB) (m := 24) (bad := []) (by decide) fx24) (by repeat (first | exact Split.nil | (apply Split.cons; next => repeat (first | exact Pick.here | apply Pick.there | apply Pick.app)) | (apply Split.chunk; next => repeat (first | exact PickL.here | exact PickL.last | apply PickL.there | apply PickL.app)) | (apply Split.lst; repeat (first | exact PickL.here | exact PickL.last | apply PickL.there | apply PickL.app)))) rfl (fun v43 Y43 h43 => ?_)
    obtain ⟨t, c', rfl, rfl, a1, a2, a3, a4⟩ := h43
    refine so_ap (by repeat (first | exact Ap.nil | apply Ap.cons | apply Ap.app | exact Ap.one)) ?_
    refine o_rd (rd_move rfl) rfl ?_
    refine o_rd (rd_extract rfl rfl) rfl ?_
    refine o_rd (rd_extract rfl rfl) rfl ?_
    refine o_rd (rd_assign rfl) rfl ?_
    refine o_rd (rd_assign rfl) rfl ?_
    refine o_nil ?_
    refine n_K ?_
    refine s_seq ?_
    refine s_region0 (fun ops => ?_)
    refine o_make rfl rfl (by omega) rfl (fun b46 => ?_)
    refine c_ex rfl (rformatN_fn (n := 24) (by decide) fx24) (by repeat (first | exact Split.nil | (apply Split.cons; next => repeat (first | exact Pick.here | apply Pick.there | apply Pick.app)) | (apply Split.chunk; next => repeat (first | exact PickL.here | exact PickL.last | apply PickL.there | apply PickL.app)) | (apply Split.lst; repeat (first | exact PickL.here | exact PickL.last | apply PickL.there | apply PickL.app)))) rfl (fun v47 Y47 h47 => ?_)
    obtain ⟨r, rfl, rfl, hru, hrl, hou, hol⟩ := h47
    refine so_ap (by repeat (first | exact Ap.nil | apply Ap.cons | apply Ap.app | exact Ap.one)) ?_
    refine o_rd (rd_assign rfl) rfl ?_
    refine o_nil ?_
    refine n_K ?_
    refine s_seq ?_
    refine s_seq ?_
    refine s_region0 (fun ops => ?_)
    refine o_rd (rd_move rfl) rfl ?_
    refine o_rd (rd_eqNil rfl rfl) rfl ?_
    refine o_nil ?_
    refine n_K ?_
    refine s_condF rfl ?_
    refine s_skip ?_
    refine n_K ?_
    refine s_seq ?_
    refine s_seq ?_
    refine s_region0 (fun ops => ?_)
    refine o_rd (rd_move rfl) rfl ?_
    refine o_rd (rd_lenS rfl) rfl ?_
    refine o_rd (rd_move rfl) rfl ?_
    refine o_nil ?_
    refine n_K ?_
    refine s_block ?_
    refine s_loop2 [1, 2, 7, 50, 51] (by repeat' first | exact Keep2.nil | apply Keep2.cons rfl) (fun (st : Nat × Tab × Chip × RTab) => [(52, .int .i64 st.1), (9, ptr st.2.1.b), (11, ptr st.2.2.2.b)]) (fun (st : Nat × Tab × Chip × RTab) => tabH aC st.2.1 ++ (chH st.2.2.1 ++ (refH st.2.2.2 ++ (sc.hp tOp ++ (cu.hp tI ++ (kp.hp tI ++ [])))))) (fun (st : Nat × Tab × Chip × RTab) => st.1 ≤ sc.list.length ∧ st.2.2.1.aC = aC ∧ JC st.2.2.1 st.2.1.ts st.2.2.2.u.list st.2.2.2.l.list 24 st.1) (fun (st : Nat × Tab × Chip × RTab) => sc.list.length - st.1) ((0, t, c', r)) ⟨Nat.zero_le _, a1, by rw [hru, hrl]; exact a3.jc⟩ (by repeat' first | exact Keep.nil | refine Keep.cons rfl ?_) (by repeat (first | exact Split.nil | (apply Split.cons; next => repeat (first | exact Pick.here | apply Pick.there | apply Pick.app)) | (apply Split.chunk; next => repeat (first | exact PickL.here | exact PickL.last | apply PickL.there | apply PickL.app)) | (apply Split.lst; repeat (first | exact PickL.here | exact PickL.last | apply PickL.there | apply PickL.app)))) ?_
    rintro ⟨i, t1, c1, r1⟩ ⟨g0, g1, g2⟩
    simp only at g0 g1 g2
    refine s_seq ?_
    refine s_region0 (fun ops => ?_)
    refine o_rd (rd_bin rfl rfl rfl) rfl ?_
    refine o_nil ?_
    refine n_K ?_
    refine s_seq ?_
    refine s_cond rfl (fun c53 => ?_) (fun c53 => ?_)
    · simp only [decide_eq_true_eq, decide_eq_false_iff_not] at c53
      obtain ⟨z, hg⟩ : ∃ z, sc.list[i]? = some z := ⟨_, List.getElem?_eq_getElem (by omega)⟩
      refine s_skip ?_
      refine n_K ?_
      refine s_seq ?_
      refine s_block ?_
      refine s_seq ?_
      refine s_region0 (fun ops => ?_)
      refine o_rd (rd_move rfl) rfl ?_
      refine o_rd (rd_ixSl rfl rfl (by omega)) rfl ?_
      refine o_rd (rd_ldSlA (o := 0) rfl (by repeat (first | exact PickL.here | exact PickL.last | apply PickL.there | apply PickL.app)) hg rfl rfl) rfl ?_
      refine o_alloc rfl (fun b13 => ?_)
      refine o_rd (rd_assign rfl) rfl ?_
      refine o_store rfl rfl (by repeat' first | exact Upd.here | apply Upd.there | apply Upd.app) rfl rfl rfl ?_
      refine o_nil ?_
      refine n_K ?_
      refine s_seq ?_
      refine s_region0 (fun ops => ?_)
      refine o_rd (rd_move rfl) rfl ?_
      refine o_rd (rd_ldA rfl (by repeat' first | exact List.Mem.head _ | apply List.Mem.tail | apply List.mem_append_right) rfl) rfl ?_
      refine c_ex rfl (step_fn (r := r1) (o := z) (g2.refS).1 (g2.refS).2.1 (g2.refS).2.2) (by repeat (first | exact Split.nil | (apply Split.cons; next => repeat (first | exact Pick.here | apply Pick.there | apply Pick.app)) | (apply Split.chunk; next => repeat (first | exact PickL.here | exact PickL.last | apply PickL.there | apply PickL.app)) | (apply Split.lst; repeat (first | exact PickL.here | exact PickL.last | apply PickL.there | apply PickL.app)))) rfl (fun v60 Y60 h60 => ?_)
      obtain ⟨q, ok1, rfl, rfl, hq1, hq2, hst⟩ := h60
      refine so_ap (by repeat (first | exact Ap.nil | apply Ap.cons | apply Ap.app | exact Ap.one)) ?_
      refine o_rd (rd_move rfl) rfl ?_
      refine o_rd (rd_extract rfl rfl) rfl ?_
      refine o_rd (rd_extract rfl rfl) rfl ?_
      refine o_rd (rd_extract rfl rfl) rfl ?_
      refine o_rd (rd_assign rfl) rfl ?_
      refine o_rd (rd_assign rfl) rfl ?_
      refine o_rd (rd_assign rfl) rfl ?_
      refine o_nil ?_
      refine n_K ?_
      refine s_seq ?_
      refine s_seq ?_
      refine s_region [(4, 68)] rfl (fun ops y => ?_)
      refine o_rd (rd_move rfl) rfl ?_
      refine o_rd (rd_move rfl) rfl ?_
      refine o_rd (rd_lenS rfl) rfl ?_
      refine o_rd (rd_bin rfl rfl rfl) rfl ?_
      refine o_rd (rd_move rfl) rfl ?_
      refine' o_and (j := 4) (k := 4) y rfl rfl rfl rfl rfl rfl rfl (fun hg68 => ?_) ?_
      rotate_left
      · try (simp at hg68; show _)
        refine o_g y rfl rfl ?_
        refine o_rd (rd_move rfl) rfl ?_
        refine o_g y rfl rfl ?_
        refine o_rd (rd_move rfl) rfl ?_
        refine o_g y rfl rfl ?_
        refine o_rd (rd_lenS rfl) rfl ?_
        refine o_g y rfl rfl ?_
        refine o_rd (rd_bin rfl rfl rfl) rfl ?_
        exact o_nil ⟨rfl, rfl, ⟨_, (by repeat (first | exact Split.nil | (apply Split.cons; next => repeat (first | exact Pick.here | apply Pick.there | apply Pick.app)) | (apply Split.chunk; next => repeat (first | exact PickL.here | exact PickL.last | apply PickL.there | apply PickL.app)) | (apply Split.lst; repeat (first | exact PickL.here | exact PickL.last | apply PickL.there | apply PickL.app))))⟩⟩
      refine o_nil ?_
      refine n_K ?_
      refine s_cond rfl (fun c73 => ?_) (fun c73 => ?_)
      · skip
        have hin : (i : Int) < cu.list.length ∧ (i : Int) < kp.list.length := (by simpa using c73)
        obtain ⟨x1, hx1⟩ : ∃ x1, cu.list[i]? = some x1 := ⟨_, List.getElem?_eq_getElem (by omega)⟩
        obtain ⟨x2, hx2⟩ : ∃ x2, kp.list[i]? = some x2 := ⟨_, List.getElem?_eq_getElem (by omega)⟩
        refine s_draw [] [(13, [(0, false), (1, false), (2, false), (3, false), (4, false), (5, false), (6, false), (7, false), (8, false), (9, false), (10, false), (11, false), (12, false)]), (14, [(13, true)])] (by kernel_rfl) rfl (fun ops w0 H0 y => ?_)
        refine p_all ?_
        refine x_rd (rd_move rfl) rfl ?_
        refine x_rd (rd_nil rfl) rfl ?_
        refine x_rd (rd_field rfl) rfl ?_
        refine x_rd (rd_pw g1 rfl (by repeat (first | exact PickL.here | exact PickL.last | apply PickL.there | apply PickL.app))) rfl ?_
        refine x_rd (rd_move rfl) rfl ?_
        refine x_rd (rd_move rfl) rfl ?_
        refine x_rd (rd_ixSl rfl rfl (by omega)) rfl ?_
        refine x_rd (rd_ldSl (o := 0) rfl (by repeat (first | exact PickL.here | exact PickL.last | apply PickL.there | apply PickL.app)) hx1 rfl rfl) rfl ?_
        refine x_rd (rd_bin rfl rfl rfl) rfl ?_
        refine x_rd (rd_move rfl) rfl ?_
        refine x_rd (rd_move rfl) rfl ?_
        refine x_rd (rd_ixSl rfl rfl (by omega)) rfl ?_
        refine x_rd (rd_ldSl (o := 0) rfl (by repeat (first | exact PickL.here | exact PickL.last | apply PickL.there | apply PickL.app)) hx2 rfl rfl) rfl ?_
        refine x_nil ?_
        refine p_none ?_
        refine x_so ?_
        refine c_is rfl (powCut_fn (c := c1)) (by repeat (first | exact Split.nil | (apply Split.cons; next => repeat (first | exact Pick.here | apply Pick.there | apply Pick.app)) | (apply Split.chunk; next => repeat (first | exact PickL.here | exact PickL.last | apply PickL.there | apply PickL.app)) | (apply Split.lst; repeat (first | exact PickL.here | exact PickL.last | apply PickL.there | apply PickL.app)))) rfl (by repeat (first | exact Ap.nil | apply Ap.cons | apply Ap.app | exact Ap.one)) ?_
        refine o_nil ⟨rfl, ⟨_, (by repeat (first | exact Split.nil | (apply Split.cons; next => repeat (first | exact Pick.here | apply Pick.there | apply Pick.app)) | (apply Split.chunk; next => repeat (first | exact PickL.here | exact PickL.last | apply PickL.there | apply PickL.app)) | (apply Split.lst; repeat (first | exact PickL.here | exact PickL.last | apply PickL.there | apply PickL.app))))⟩, ?_⟩
        refine x_nil ?_
        refine p_end ?_
        refine n_K ?_
        refine s_seq ?_
        refine s_region0 (fun ops => ?_)
        refine o_rd (rd_move rfl) rfl ?_
        refine o_rd (rd_ldA rfl (by repeat' first | exact List.Mem.head _ | apply List.Mem.tail | apply List.mem_append_right) rfl) rfl ?_
        refine o_rd (rd_move rfl) rfl ?_
        refine c_ex rfl ((by first | exact doC_fn (t := t1) (c := cutC c1 (ibits .and .i64 x1 3) x2) (o := z) g1 (g2.cut _ _) (by omega) hst | exact doC_fn (t := t1) (c := c1) (o := z) g1 g2 (by omega) hst)) (by repeat (first | exact Split.nil | (apply Split.cons; next => repeat (first | exact Pick.here | apply Pick.there | apply Pick.app)) | (apply Split.chunk; next => repeat (first | exact PickL.here | exact PickL.last | apply PickL.there | apply PickL.app)) | (apply Split.lst; repeat (first | exact PickL.here | exact PickL.last | apply PickL.there | apply PickL.app)))) rfl (fun v91 Y91 h91 => ?_)
        rcases h91 with ⟨rfl, rfl, t', c2, hb', rfl, ha', hJ⟩ | ⟨rfl, rfl, t', c2, hb', rfl, ha', hJ⟩ | ⟨rfl, rfl, t', c2, t2, hb', rfl, ha', ho2, hJ⟩
        all_goals
          refine so_ap (by repeat (first | exact Ap.nil | apply Ap.cons | apply Ap.app | exact Ap.one)) ?_
          refine o_rd (rd_assign rfl) rfl ?_
          refine o_nil ?_
          refine n_K ?_
          refine s_seq ?_
          refine s_seq ?_
          refine s_region [(1, 93)] rfl (fun ops y => ?_)
          refine o_rd (rd_move rfl) rfl ?_
          refine o_rd (rd_move rfl) rfl ?_
          refine' o_and (j := 1) (k := 2) y rfl rfl rfl rfl rfl rfl rfl (fun hg93 => ?_) ?_
          rotate_left
          · try (simp at hg93; show _)
            refine o_g y rfl rfl ?_
            refine o_rd (rd_move rfl) rfl ?_
            refine o_g y rfl rfl ?_
            refine o_rd (rd_bin rfl rfl rfl) rfl ?_
            exact o_nil ⟨rfl, rfl, ⟨_, (by repeat (first | exact Split.nil | (apply Split.cons; next => repeat (first | exact Pick.here | apply Pick.there | apply Pick.app)) | (apply Split.chunk; next => repeat (first | exact PickL.here | exact PickL.last | apply PickL.there | apply PickL.app)) | (apply Split.lst; repeat (first | exact PickL.here | exact PickL.last | apply PickL.there | apply PickL.app))))⟩⟩
          refine o_nil ?_
          refine n_K ?_
          refine s_cond rfl (fun c96 => ?_) (fun c96 => ?_)
          · skip
            try (exfalso; (cases c96); done)
            all_goals
              refine s_region0 (fun ops => ?_)
              refine o_rd (rd_move rfl) rfl ?_
              refine o_rd (rd_assign rfl) rfl ?_
              refine o_nil ?_
              refine n_K ?_
              refine s_seq ?_
              refine s_region0 (fun ops => ?_)
              refine o_rd (rd_move rfl) rfl ?_
              refine o_rd (rd_nil rfl) rfl ?_
              refine o_rd (rd_field rfl) rfl ?_
              refine o_rd (rd_pw ha' rfl (by repeat (first | exact PickL.here | exact PickL.last | apply PickL.there | apply PickL.app))) rfl ?_
              refine c_is rfl (powOn_fn (c := c2)) (by repeat (first | exact Split.nil | (apply Split.cons; next => repeat (first | exact Pick.here | apply Pick.there | apply Pick.app)) | (apply Split.chunk; next => repeat (first | exact PickL.here | exact PickL.last | apply PickL.there | apply PickL.app)) | (apply Split.lst; repeat (first | exact PickL.here | exact PickL.last | apply PickL.there | apply PickL.app)))) rfl (by repeat (first | exact Ap.nil | apply Ap.cons | apply Ap.app | exact Ap.one)) ?_
              refine o_nil ?_
              refine n_K ?_
              refine s_seq ?_
              refine s_seq ?_
              refine s_region0 (fun ops => ?_)
              refine o_rd (rd_move rfl) rfl ?_
              refine o_rd (rd_bin rfl rfl rfl) rfl ?_
              refine o_nil ?_
              refine n_K ?_
              refine s_cond rfl (fun c104 => ?_) (fun c104 => ?_)
              · skip
                try (exfalso; (cases c104); done)
                all_goals
                  rw [← hb']
                  refine s_seq ?_
                  refine s_seq ?_
                  refine s_region [(2, 107)] rfl (fun ops y => ?_)
                  refine o_rd (rd_move rfl) rfl ?_
                  refine o_rd (rd_bin rfl rfl rfl) rfl ?_
                  refine o_rd (rd_move rfl) rfl ?_
                  refine' o_and (j := 2) (k := 2) y rfl rfl rfl rfl rfl rfl rfl (fun hg107 => ?_) ?_
                  rotate_left
                  · try (simp at hg107; show _)
                    refine o_g y rfl rfl ?_
                    refine o_rd (rd_move rfl) rfl ?_
                    refine o_g y rfl rfl ?_
                    refine o_rd (rd_bin rfl rfl rfl) rfl ?_
                    exact o_nil ⟨rfl, rfl, ⟨_, (by repeat (first | exact Split.nil | (apply Split.cons; next => repeat (first | exact Pick.here | apply Pick.there | apply Pick.app)) | (apply Split.chunk; next => repeat (first | exact PickL.here | exact PickL.last | apply PickL.there | apply PickL.app)) | (apply Split.lst; repeat (first | exact PickL.here | exact PickL.last | apply PickL.there | apply PickL.app))))⟩⟩
                  refine o_nil ?_
                  refine n_K ?_
                  refine s_cond rfl (fun c110 => ?_) (fun c110 => ?_)
                  · skip
                    try (exfalso; (cases c110); done)
                    all_goals
                      refine s_seq ?_
                      refine s_region0 (fun ops => ?_)
                      refine o_rd (rd_assign rfl) rfl ?_
                      refine o_nil ?_
                      refine n_K ?_
                      refine s_ret ?_
                      refine r_K ?_
                      refine r_K ?_
                      refine r_blk ?_
                      refine r_K ?_
                      refine r_K ?_
                      refine r_blk ?_
                      refine r_K ?_
                      exact leaf_r (rets1 Tryz.results4 (rv_tmp rfl)) (by rfl) (by repeat (first | exact Split.nil | (apply Split.cons; next => repeat (first | exact Pick.here | apply Pick.there | apply Pick.app)) | (apply Split.chunk; next => repeat (first | exact PickL.here | exact PickL.last | apply PickL.there | apply PickL.app)) | (apply Split.lst; repeat (first | exact PickL.here | exact PickL.last | apply PickL.there | apply PickL.app))))
                  · skip
                    try (exfalso; (cases c110); done)
                    all_goals
                      refine s_skip ?_
                      refine n_K ?_
                      refine s_exit ?_
                      refine x_K ?_
                      refine x_blk ?_
                      refine n_K ?_
                      refine s_region0 (fun ops => ?_)
                      refine o_rd (rd_add64 rfl rfl (by omega)) rfl ?_
                      refine o_rd (rd_move rfl) rfl ?_
                      refine o_nil ?_
                      refine n_K ?_
                      first | exact ⟨(i + 1, tb, onC c2, q), ⟨by simp only; omega, ha', hJn⟩, by simp only; omega, (by repeat' first | exact Keep.nil | refine Keep.cons rfl ?_), (by repeat' first | exact Keep.nil | refine Keep.cons rfl ?_), _, (by repeat (first | exact Split.nil | (apply Split.cons; next => repeat (first | exact Pick.here | apply Pick.there | apply Pick.app)) | (apply Split.chunk; next => repeat (first | exact PickL.here | exact PickL.last | apply PickL.there | apply PickL.app)) | (apply Split.lst; repeat (first | exact PickL.here | exact PickL.last | apply PickL.there | apply PickL.app))))⟩ | exact ⟨(i + 1, tb, onC c2, r1), ⟨by simp only; omega, ha', hJo⟩, by simp only; omega, (by repeat' first | exact Keep.nil | refine Keep.cons rfl ?_), (by repeat' first | exact Keep.nil | refine Keep.cons rfl ?_), _, (by repeat (first | exact Split.nil | (apply Split.cons; next => repeat (first | exact Pick.here | apply Pick.there | apply Pick.app)) | (apply Split.chunk; next => repeat (first | exact PickL.here | exact PickL.last | apply PickL.there | apply PickL.app)) | (apply Split.lst; repeat (first | exact PickL.here | exact PickL.last | apply PickL.there | apply PickL.app))))⟩ | exact ⟨(i + 1, t', onC c2, q), ⟨by simp only; omega, ha', hJ⟩, by simp only; omega, (by repeat' first | exact Keep.nil | refine Keep.cons rfl ?_), (by repeat' first | exact Keep.nil | refine Keep.cons rfl ?_), _, (by repeat (first | exact Split.nil | (apply Split.cons; next => repeat (first | exact Pick.here | apply Pick.there | apply Pick.app)) | (apply Split.chunk; next => repeat (first | exact PickL.here | exact PickL.last | apply PickL.there | apply PickL.app)) | (apply Split.lst; repeat (first | exact PickL.here | exact PickL.last | apply PickL.there | apply PickL.app))))⟩ | exact ⟨(i + 1, t', onC c2, r1), ⟨by simp only; omega, ha', hJ⟩, by simp only; omega, (by repeat' first | exact Keep.nil | refine Keep.cons rfl ?_), (by repeat' first | exact Keep.nil | refine Keep.cons rfl ?_), _, (by repeat (first | exact Split.nil | (apply Split.cons; next => repeat (first | exact Pick.here | apply Pick.there | apply Pick.app)) | (apply Split.chunk; next => repeat (first | exact PickL.here | exact PickL.last | apply PickL.there | apply PickL.app)) | (apply Split.lst; repeat (first | exact PickL.here | exact PickL.last | apply PickL.there | apply PickL.app))))⟩
              · skip
                try (exfalso; (cases c104); done)
                all_goals
                  have hl2 : (onC c2).blocks.length = 24 := (by rcases hJ with ⟨h, _⟩ | h <;> exact h.len)
                  refine s_skip ?_
                  refine n_K ?_
                  refine s_seq ?_
                  refine s_region0 (fun ops => ?_)
                  refine o_rd (rd_assign rfl) rfl ?_
                  refine o_nil ?_
                  refine n_K ?_
                  refine s_seq ?_
                  refine s_seq ?_
                  refine s_region0 (fun ops => ?_)
                  refine o_rd (rd_move rfl) rfl ?_
                  refine c_ex rfl (open_b (c := onC c2) ha' (by omega) ho2) (by repeat (first | exact Split.nil | (apply Split.cons; next => repeat (first | exact Pick.here | apply Pick.there | apply Pick.app)) | (apply Split.chunk; next => repeat (first | exact PickL.here | exact PickL.last | apply PickL.there | apply PickL.app)) | (apply Split.lst; repeat (first | exact PickL.here | exact PickL.last | apply PickL.there | apply PickL.app)))) rfl (fun v113 Y113 h113 => ?_)
                  obtain ⟨tb, rfl, rfl, htb⟩ := h113
                  refine so_ap (by repeat (first | exact Ap.nil | apply Ap.cons | apply Ap.app | exact Ap.one)) ?_
                  refine o_rd (rd_move rfl) rfl ?_
                  refine o_rd (rd_extract rfl rfl) rfl ?_
                  refine o_rd (rd_extract rfl rfl) rfl ?_
                  refine o_rd (rd_assign rfl) rfl ?_
                  refine o_rd (rd_assign rfl) rfl ?_
                  refine o_nil ?_
                  refine n_K ?_
                  refine s_seq ?_
                  refine s_region [(2, 118), (6, 122)] rfl (fun ops y => ?_)
                  refine o_rd (rd_move rfl) rfl ?_
                  refine o_rd (rd_eqNil rfl rfl) rfl ?_
                  refine o_rd (rd_move rfl) rfl ?_
                  refine' o_or (j := 2) (k := 2) y rfl rfl rfl rfl rfl rfl rfl (fun hg118 => ?_) ?_
                  rotate_left
                  · try (simp at hg118; show _)
                    refine o_g y rfl rfl ?_
                    refine o_rd (rd_move rfl) rfl ?_
                    refine o_g y rfl rfl ?_
                    refine o_rd (rd_bin rfl rfl rfl) rfl ?_
                    exact o_nil ⟨rfl, rfl, ⟨_, (by repeat (first | exact Split.nil | (apply Split.cons; next => repeat (first | exact Pick.here | apply Pick.there | apply Pick.app)) | (apply Split.chunk; next => repeat (first | exact PickL.here | exact PickL.last | apply PickL.there | apply PickL.app)) | (apply Split.lst; repeat (first | exact PickL.here | exact PickL.last | apply PickL.there | apply PickL.app))))⟩⟩
                  refine o_rd (rd_move rfl) rfl ?_
                  refine' o_or (j := 6) (k := 2) y rfl rfl rfl rfl rfl rfl rfl (fun hg122 => ?_) ?_
                  rotate_left
                  · try (simp at hg122; show _)
                    refine o_g y rfl rfl ?_
                    refine o_rd (rd_move rfl) rfl ?_
                    refine o_g y rfl rfl ?_
                    refine o_rd (rd_not rfl) rfl ?_
                    exact o_nil ⟨rfl, rfl, ⟨_, (by repeat (first | exact Split.nil | (apply Split.cons; next => repeat (first | exact Pick.here | apply Pick.there | apply Pick.app)) | (apply Split.chunk; next => repeat (first | exact PickL.here | exact PickL.last | apply PickL.there | apply PickL.app)) | (apply Split.lst; repeat (first | exact PickL.here | exact PickL.last | apply PickL.there | apply PickL.app))))⟩⟩
                  refine o_nil ?_
                  refine n_K ?_
                  refine s_condF rfl ?_
                  refine s_skip ?_
                  refine n_K ?_
                  refine s_seq ?_
                  refine s_seq ?_
                  refine s_region0 (fun ops => ?_)
                  refine o_rd (rd_move rfl) rfl ?_
                  refine o_rd (rd_move rfl) rfl ?_
                  refine c_ex rfl (same_fn (c := onC c2) (t := tb) (r := q) ha' (by omega) (by have := hq1; rcases hJ with ⟨h, _⟩ | h; exact (le_of_step g2.refS.1 hst); exact h.refS.1)) (by repeat (first | exact Split.nil | (apply Split.cons; next => repeat (first | exact Pick.here | apply Pick.there | apply Pick.app)) | (apply Split.chunk; next => repeat (first | exact PickL.here | exact PickL.last | apply PickL.there | apply PickL.app)) | (apply Split.lst; repeat (first | exact PickL.here | exact PickL.last | apply PickL.there | apply PickL.app)))) rfl (fun v128 Y128 h128 => ?_)
                  obtain ⟨x, rfl, rfl, hx3, hx4⟩ := h128
                  refine so_ap (by repeat (first | exact Ap.nil | apply Ap.cons | apply Ap.app | exact Ap.one)) ?_
                  refine o_nil ?_
                  refine n_K ?_
                  refine s_cond rfl (fun c128 => ?_) (fun c128 => ?_)
                  · skip
                    have hJn : JC (onC c2) tb.ts q.u.list q.l.list 24 (i + 1) := (by rcases hJ with ⟨h, hne⟩ | h; exact absurd ((hx4 (by rw [show tb.l.list = tb.ts.lost from rfl, htb]; exact hne)).symm.trans c128) (by decide); rw [htb]; exact h)
                    refine s_region0 (fun ops => ?_)
                    refine o_rd (rd_move rfl) rfl ?_
                    refine o_rd (rd_assign rfl) rfl ?_
                    refine o_nil ?_
                    refine n_K ?_
                    refine s_seq ?_
                    refine s_region0 (fun ops => ?_)
                    refine o_rd (rd_move rfl) rfl ?_
                    refine o_rd (rd_move rfl) rfl ?_
                    refine c_is rfl ((by first | exact sameC_fn (c := onC c2) (t := tb) ha' hJn | exact sameC_fn (c := onC c2) (t := tb) ha' hJo)) (by repeat (first | exact Split.nil | (apply Split.cons; next => repeat (first | exact Pick.here | apply Pick.there | apply Pick.app)) | (apply Split.chunk; next => repeat (first | exact PickL.here | exact PickL.last | apply PickL.there | apply PickL.app)) | (apply Split.lst; repeat (first | exact PickL.here | exact PickL.last | apply PickL.there | apply PickL.app)))) rfl (by repeat (first | exact Ap.nil | apply Ap.cons | apply Ap.app | exact Ap.one)) ?_
                    refine o_rd (rd_not rfl) rfl ?_
                    refine o_nil ?_
                    refine n_K ?_
                    refine s_condF rfl ?_
                    refine s_skip ?_
                    refine n_blk ?_
                    refine n_K ?_
                    refine s_region0 (fun ops => ?_)
                    refine o_rd (rd_add64 rfl rfl (by omega)) rfl ?_
                    refine o_rd (rd_move rfl) rfl ?_
                    refine o_nil ?_
                    refine n_K ?_
                    first | exact ⟨(i + 1, tb, onC c2, q), ⟨by simp only; omega, ha', hJn⟩, by simp only; omega, (by repeat' first | exact Keep.nil | refine Keep.cons rfl ?_), (by repeat' first | exact Keep.nil | refine Keep.cons rfl ?_), _, (by repeat (first | exact Split.nil | (apply Split.cons; next => repeat (first | exact Pick.here | apply Pick.there | apply Pick.app)) | (apply Split.chunk; next => repeat (first | exact PickL.here | exact PickL.last | apply PickL.there | apply PickL.app)) | (apply Split.lst; repeat (first | exact PickL.here | exact PickL.last | apply PickL.there | apply PickL.app))))⟩ | exact ⟨(i + 1, tb, onC c2, r1), ⟨by simp only; omega, ha', hJo⟩, by simp only; omega, (by repeat' first | exact Keep.nil | refine Keep.cons rfl ?_), (by repeat' first | exact Keep.nil | refine Keep.cons rfl ?_), _, (by repeat (first | exact Split.nil | (apply Split.cons; next => repeat (first | exact Pick.here | apply Pick.there | apply Pick.app)) | (apply Split.chunk; next => repeat (first | exact PickL.here | exact PickL.last | apply PickL.there | apply PickL.app)) | (apply Split.lst; repeat (first | exact PickL.here | exact PickL.last | apply PickL.there | apply PickL.app))))⟩ | exact ⟨(i + 1, t', onC c2, q), ⟨by simp only; omega, ha', hJ⟩, by simp only; omega, (by repeat' first | exact Keep.nil | refine Keep.cons rfl ?_), (by repeat' first | exact Keep.nil | refine Keep.cons rfl ?_), _, (by repeat (first | exact Split.nil | (apply Split.cons; next => repeat (first | exact Pick.here | apply Pick.there | apply Pick.app)) | (apply Split.chunk; next => repeat (first | exact PickL.here | exact PickL.last | apply PickL.there | apply PickL.app)) | (apply Split.lst; repeat (first | exact PickL.here | exact PickL.last | apply PickL.there | apply PickL.app))))⟩ | exact ⟨(i + 1, t', onC c2, r1), ⟨by simp only; omega, ha', hJ⟩, by simp only; omega, (by repeat' first | exact Keep.nil | refine Keep.cons rfl ?_), (by repeat' first | exact Keep.nil | refine Keep.cons rfl ?_), _, (by repeat (first | exact Split.nil | (apply Split.cons; next => repeat (first | exact Pick.here | apply Pick.there | apply Pick.app)) | (apply Split.chunk; next => repeat (first | exact PickL.here | exact PickL.last | apply PickL.there | apply PickL.app)) | (apply Split.lst; repeat (first | exact PickL.here | exact PickL.last | apply PickL.there | apply PickL.app))))⟩
                  · skip
                    have hJo : JC (onC c2) tb.ts r1.u.list r1.l.list 24 (i + 1) := (by rcases hJ with ⟨h, hne⟩ | h; rw [htb]; exact h; exact absurd ((hx3 (by rw [htb, hl2]; exact h.rel)).symm.trans c128) (by decide))
                    refine s_skip ?_
                    refine n_K ?_
                    refine s_seq ?_
                    refine s_region0 (fun ops => ?_)
                    refine o_rd (rd_move rfl) rfl ?_
                    refine o_rd (rd_move rfl) rfl ?_
                    refine c_is rfl ((by first | exact sameC_fn (c := onC c2) (t := tb) ha' hJn | exact sameC_fn (c := onC c2) (t := tb) ha' hJo)) (by repeat (first | exact Split.nil | (apply Split.cons; next => repeat (first | exact Pick.here | apply Pick.there | apply Pick.app)) | (apply Split.chunk; next => repeat (first | exact PickL.here | exact PickL.last | apply PickL.there | apply PickL.app)) | (apply Split.lst; repeat (first | exact PickL.here | exact PickL.last | apply PickL.there | apply PickL.app)))) rfl (by repeat (first | exact Ap.nil | apply Ap.cons | apply Ap.app | exact Ap.one)) ?_
                    refine o_rd (rd_not rfl) rfl ?_
                    refine o_nil ?_
                    refine n_K ?_
                    refine s_condF rfl ?_
                    refine s_skip ?_
                    refine n_blk ?_
                    refine n_K ?_
                    refine s_region0 (fun ops => ?_)
                    refine o_rd (rd_add64 rfl rfl (by omega)) rfl ?_
                    refine o_rd (rd_move rfl) rfl ?_
                    refine o_nil ?_
                    refine n_K ?_
                    first | exact ⟨(i + 1, tb, onC c2, q), ⟨by simp only; omega, ha', hJn⟩, by simp only; omega, (by repeat' first | exact Keep.nil | refine Keep.cons rfl ?_), (by repeat' first | exact Keep.nil | refine Keep.cons rfl ?_), _, (by repeat (first | exact Split.nil | (apply Split.cons; next => repeat (first | exact Pick.here | apply Pick.there | apply Pick.app)) | (apply Split.chunk; next => repeat (first | exact PickL.here | exact PickL.last | apply PickL.there | apply PickL.app)) | (apply Split.lst; repeat (first | exact PickL.here | exact PickL.last | apply PickL.there | apply PickL.app))))⟩ | exact ⟨(i + 1, tb, onC c2, r1), ⟨by simp only; omega, ha', hJo⟩, by simp only; omega, (by repeat' first | exact Keep.nil | refine Keep.cons rfl ?_), (by repeat' first | exact Keep.nil | refine Keep.cons rfl ?_), _, (by repeat (first | exact Split.nil | (apply Split.cons; next => repeat (first | exact Pick.here | apply Pick.there | apply Pick.app)) | (apply Split.chunk; next => repeat (first | exact PickL.here | exact PickL.last | apply PickL.there | apply PickL.app)) | (apply Split.lst; repeat (first | exact PickL.here | exact PickL.last | apply PickL.there | apply PickL.app))))⟩ | exact ⟨(i + 1, t', onC c2, q), ⟨by simp only; omega, ha', hJ⟩, by simp only; omega, (by repeat' first | exact Keep.nil | refine Keep.cons rfl ?_), (by repeat' first | exact Keep.nil | refine Keep.cons rfl ?_), _, (by repeat (first | exact Split.nil | (apply Split.cons; next => repeat (first | exact Pick.here | apply Pick.there | apply Pick.app)) | (apply Split.chunk; next => repeat (first | exact PickL.here | exact PickL.last | apply PickL.there | apply PickL.app)) | (apply Split.lst; repeat (first | exact PickL.here | exact PickL.last | apply PickL.there | apply PickL.app))))⟩ | exact ⟨(i + 1, t', onC c2, r1), ⟨by simp only; omega, ha', hJ⟩, by simp only; omega, (by repeat' first | exact Keep.nil | refine Keep.cons rfl ?_), (by repeat' first | exact Keep.nil | refine Keep.cons rfl ?_), _, (by repeat (first | exact Split.nil | (apply Split.cons; next => repeat (first | exact Pick.here | apply Pick.there | apply Pick.app)) | (apply Split.chunk; next => repeat (first | exact PickL.here | exact PickL.last | apply PickL.there | apply PickL.app)) | (apply Split.lst; repeat (first | exact PickL.here | exact PickL.last | apply PickL.there | apply PickL.app))))⟩
          · skip
            try (exfalso; (cases c96); done)
            all_goals
              refine s_skip ?_
              refine n_K ?_
              refine s_seq ?_
              refine s_region0 (fun ops => ?_)
              refine o_rd (rd_move rfl) rfl ?_
              refine o_rd (rd_nil rfl) rfl ?_
              refine o_rd (rd_field rfl) rfl ?_
              refine o_rd (rd_pw ha' rfl (by repeat (first | exact PickL.here | exact PickL.last | apply PickL.there | apply PickL.app))) rfl ?_
              refine c_is rfl (powOn_fn (c := c2)) (by repeat (first | exact Split.nil | (apply Split.cons; next => repeat (first | exact Pick.here | apply Pick.there | apply Pick.app)) | (apply Split.chunk; next => repeat (first | exact PickL.here | exact PickL.last | apply PickL.there | apply PickL.app)) | (apply Split.lst; repeat (first | exact PickL.here | exact PickL.last | apply PickL.there | apply PickL.app)))) rfl (by repeat (first | exact Ap.nil | apply Ap.cons | apply Ap.app | exact Ap.one)) ?_
              refine o_nil ?_
              refine n_K ?_
              refine s_seq ?_
              refine s_seq ?_
              refine s_region0 (fun ops => ?_)
              refine o_rd (rd_move rfl) rfl ?_
              refine o_rd (rd_bin rfl rfl rfl) rfl ?_
              refine o_nil ?_
              refine n_K ?_
              refine s_cond rfl (fun c104 => ?_) (fun c104 => ?_)
              · skip
                try (exfalso; (cases c104); done)
                all_goals
                  rw [← hb']
                  refine s_seq ?_
                  refine s_seq ?_
                  refine s_region [(2, 107)] rfl (fun ops y => ?_)
                  refine o_rd (rd_move rfl) rfl ?_
                  refine o_rd (rd_bin rfl rfl rfl) rfl ?_
                  refine o_rd (rd_move rfl) rfl ?_
                  refine' o_and (j := 2) (k := 2) y rfl rfl rfl rfl rfl rfl rfl (fun hg107 => ?_) ?_
                  rotate_left
                  · try (simp at hg107; show _)
                    refine o_g y rfl rfl ?_
                    refine o_rd (rd_move rfl) rfl ?_
                    refine o_g y rfl rfl ?_
                    refine o_rd (rd_bin rfl rfl rfl) rfl ?_
                    exact o_nil ⟨rfl, rfl, ⟨_, (by repeat (first | exact Split.nil | (apply Split.cons; next => repeat (first | exact Pick.here | apply Pick.there | apply Pick.app)) | (apply Split.chunk; next => repeat (first | exact PickL.here | exact PickL.last | apply PickL.there | apply PickL.app)) | (apply Split.lst; repeat (first | exact PickL.here | exact PickL.last | apply PickL.there | apply PickL.app))))⟩⟩
                  refine o_nil ?_
                  refine n_K ?_
                  refine s_cond rfl (fun c110 => ?_) (fun c110 => ?_)
                  · skip
                    try (exfalso; (cases c110); done)
                    all_goals
                      refine s_seq ?_
                      refine s_region0 (fun ops => ?_)
                      refine o_rd (rd_assign rfl) rfl ?_
                      refine o_nil ?_
                      refine n_K ?_
                      refine s_ret ?_
                      refine r_K ?_
                      refine r_K ?_
                      refine r_blk ?_
                      refine r_K ?_
                      refine r_K ?_
                      refine r_blk ?_
                      refine r_K ?_
                      exact leaf_r (rets1 Tryz.results4 (rv_tmp rfl)) (by rfl) (by repeat (first | exact Split.nil | (apply Split.cons; next => repeat (first | exact Pick.here | apply Pick.there | apply Pick.app)) | (apply Split.chunk; next => repeat (first | exact PickL.here | exact PickL.last | apply PickL.there | apply PickL.app)) | (apply Split.lst; repeat (first | exact PickL.here | exact PickL.last | apply PickL.there | apply PickL.app))))
                  · skip
                    try (exfalso; (cases c110); done)
                    all_goals
                      refine s_skip ?_
                      refine n_K ?_
                      refine s_exit ?_
                      refine x_K ?_
                      refine x_blk ?_
                      refine n_K ?_
                      refine s_region0 (fun ops => ?_)
                      refine o_rd (rd_add64 rfl rfl (by omega)) rfl ?_
                      refine o_rd (rd_move rfl) rfl ?_
                      refine o_nil ?_
                      refine n_K ?_
                      first | exact ⟨(i + 1, tb, onC c2, q), ⟨by simp only; omega, ha', hJn⟩, by simp only; omega, (by repeat' first | exact Keep.nil | refine Keep.cons rfl ?_), (by repeat' first | exact Keep.nil | refine Keep.cons rfl ?_), _, (by repeat (first | exact Split.nil | (apply Split.cons; next => repeat (first | exact Pick.here | apply Pick.there | apply Pick.app)) | (apply Split.chunk; next => repeat (first | exact PickL.here | exact PickL.last | apply PickL.there | apply PickL.app)) | (apply Split.lst; repeat (first | exact PickL.here | exact PickL.last | apply PickL.there | apply PickL.app))))⟩ | exact ⟨(i + 1, tb, onC c2, r1), ⟨by simp only; omega, ha', hJo⟩, by simp only; omega, (by repeat' first | exact Keep.nil | refine Keep.cons rfl ?_), (by repeat' first | exact Keep.nil | refine Keep.cons rfl ?_), _, (by repeat (first | exact Split.nil | (apply Split.cons; next => repeat (first | exact Pick.here | apply Pick.there | apply Pick.app)) | (apply Split.chunk; next => repeat (first | exact PickL.here | exact PickL.last | apply PickL.there | apply PickL.app)) | (apply Split.lst; repeat (first | exact PickL.here | exact PickL.last | apply PickL.there | apply PickL.app))))⟩ | exact ⟨(i + 1, t', onC c2, q), ⟨by simp only; omega, ha', hJ⟩, by simp only; omega, (by repeat' first | exact Keep.nil | refine Keep.cons rfl ?_), (by repeat' first | exact Keep.nil | refine Keep.cons rfl ?_), _, (by repeat (first | exact Split.nil | (apply Split.cons; next => repeat (first | exact Pick.here | apply Pick.there | apply Pick.app)) | (apply Split.chunk; next => repeat (first | exact PickL.here | exact PickL.last | apply PickL.there | apply PickL.app)) | (apply Split.lst; repeat (first | exact PickL.here | exact PickL.last | apply PickL.there | apply PickL.app))))⟩ | exact ⟨(i + 1, t', onC c2, r1), ⟨by simp only; omega, ha', hJ⟩, by simp only; omega, (by repeat' first | exact Keep.nil | refine Keep.cons rfl ?_), (by repeat' first | exact Keep.nil | refine Keep.cons rfl ?_), _, (by repeat (first | exact Split.nil | (apply Split.cons; next => repeat (first | exact Pick.here | apply Pick.there | apply Pick.app)) | (apply Split.chunk; next => repeat (first | exact PickL.here | exact PickL.last | apply PickL.there | apply PickL.app)) | (apply Split.lst; repeat (first | exact PickL.here | exact PickL.last | apply PickL.there | apply PickL.app))))⟩
              · skip
                try (exfalso; (cases c104); done)
                all_goals
                  have hl2 : (onC c2).blocks.length = 24 := (by rcases hJ with ⟨h, _⟩ | h <;> exact h.len)
                  refine s_skip ?_
                  refine n_K ?_
                  refine s_seq ?_
                  refine s_region0 (fun ops => ?_)
                  refine o_rd (rd_assign rfl) rfl ?_
                  refine o_nil ?_
                  refine n_K ?_
                  refine s_seq ?_
                  refine s_seq ?_
                  refine s_region0 (fun ops => ?_)
                  refine o_rd (rd_move rfl) rfl ?_
                  refine c_ex rfl (open_b (c := onC c2) ha' (by omega) ho2) (by repeat (first | exact Split.nil | (apply Split.cons; next => repeat (first | exact Pick.here | apply Pick.there | apply Pick.app)) | (apply Split.chunk; next => repeat (first | exact PickL.here | exact PickL.last | apply PickL.there | apply PickL.app)) | (apply Split.lst; repeat (first | exact PickL.here | exact PickL.last | apply PickL.there | apply PickL.app)))) rfl (fun v113 Y113 h113 => ?_)
                  obtain ⟨tb, rfl, rfl, htb⟩ := h113
                  refine so_ap (by repeat (first | exact Ap.nil | apply Ap.cons | apply Ap.app | exact Ap.one)) ?_
                  refine o_rd (rd_move rfl) rfl ?_
                  refine o_rd (rd_extract rfl rfl) rfl ?_
                  refine o_rd (rd_extract rfl rfl) rfl ?_
                  refine o_rd (rd_assign rfl) rfl ?_
                  refine o_rd (rd_assign rfl) rfl ?_
                  refine o_nil ?_
                  refine n_K ?_
                  refine s_seq ?_
                  refine s_region [(2, 118), (6, 122)] rfl (fun ops y => ?_)
                  refine o_rd (rd_move rfl) rfl ?_
                  refine o_rd (rd_eqNil rfl rfl) rfl ?_
                  refine o_rd (rd_move rfl) rfl ?_
                  refine' o_or (j := 2) (k := 2) y rfl rfl rfl rfl rfl rfl rfl (fun hg118 => ?_) ?_
                  rotate_left
                  · try (simp at hg118; show _)
                    refine o_g y rfl rfl ?_
                    refine o_rd (rd_move rfl) rfl ?_
                    refine o_g y rfl rfl ?_
                    refine o_rd (rd_bin rfl rfl rfl) rfl ?_
                    exact o_nil ⟨rfl, rfl, ⟨_, (by repeat (first | exact Split.nil | (apply Split.cons; next => repeat (first | exact Pick.here | apply Pick.there | apply Pick.app)) | (apply Split.chunk; next => repeat (first | exact PickL.here | exact PickL.last | apply PickL.there | apply PickL.app)) | (apply Split.lst; repeat (first | exact PickL.here | exact PickL.last | apply PickL.there | apply PickL.app))))⟩⟩
                  refine o_rd (rd_move rfl) rfl ?_
                  refine' o_or (j := 6) (k := 2) y rfl rfl rfl rfl rfl rfl rfl (fun hg122 => ?_) ?_
                  rotate_left
                  · try (simp at hg122; show _)
                    refine o_g y rfl rfl ?_
                    refine o_rd (rd_move rfl) rfl ?_
                    refine o_g y rfl rfl ?_
                    refine o_rd (rd_not rfl) rfl ?_
                    exact o_nil ⟨rfl, rfl, ⟨_, (by repeat (first | exact Split.nil | (apply Split.cons; next => repeat (first | exact Pick.here | apply Pick.there | apply Pick.app)) | (apply Split.chunk; next => repeat (first | exact PickL.here | exact PickL.last | apply PickL.there | apply PickL.app)) | (apply Split.lst; repeat (first | exact PickL.here | exact PickL.last | apply PickL.there | apply PickL.app))))⟩⟩
                  refine o_nil ?_
                  refine n_K ?_
                  refine s_condF rfl ?_
                  refine s_skip ?_
                  refine n_K ?_
                  refine s_seq ?_
                  refine s_seq ?_
                  refine s_region0 (fun ops => ?_)
                  refine o_rd (rd_move rfl) rfl ?_
                  refine o_rd (rd_move rfl) rfl ?_
                  refine c_ex rfl (same_fn (c := onC c2) (t := tb) (r := q) ha' (by omega) (by have := hq1; rcases hJ with ⟨h, _⟩ | h; exact (le_of_step g2.refS.1 hst); exact h.refS.1)) (by repeat (first | exact Split.nil | (apply Split.cons; next => repeat (first | exact Pick.here | apply Pick.there | apply Pick.app)) | (apply Split.chunk; next => repeat (first | exact PickL.here | exact PickL.last | apply PickL.there | apply PickL.app)) | (apply Split.lst; repeat (first | exact PickL.here | exact PickL.last | apply PickL.there | apply PickL.app)))) rfl (fun v128 Y128 h128 => ?_)
                  obtain ⟨x, rfl, rfl, hx3, hx4⟩ := h128
                  refine so_ap (by repeat (first | exact Ap.nil | apply Ap.cons | apply Ap.app | exact Ap.one)) ?_
                  refine o_nil ?_
                  refine n_K ?_
                  refine s_cond rfl (fun c128 => ?_) (fun c128 => ?_)
                  · skip
                    have hJn : JC (onC c2) tb.ts q.u.list q.l.list 24 (i + 1) := (by rcases hJ with ⟨h, hne⟩ | h; exact absurd ((hx4 (by rw [show tb.l.list = tb.ts.lost from rfl, htb]; exact hne)).symm.trans c128) (by decide); rw [htb]; exact h)
                    refine s_region0 (fun ops => ?_)
                    refine o_rd (rd_move rfl) rfl ?_
                    refine o_rd (rd_assign rfl) rfl ?_
                    refine o_nil ?_
                    refine n_K ?_
                    refine s_seq ?_
                    refine s_region0 (fun ops => ?_)
                    refine o_rd (rd_move rfl) rfl ?_
                    refine o_rd (rd_move rfl) rfl ?_
                    refine c_is rfl ((by first | exact sameC_fn (c := onC c2) (t := tb) ha' hJn | exact sameC_fn (c := onC c2) (t := tb) ha' hJo)) (by repeat (first | exact Split.nil | (apply Split.cons; next => repeat (first | exact Pick.here | apply Pick.there | apply Pick.app)) | (apply Split.chunk; next => repeat (first | exact PickL.here | exact PickL.last | apply PickL.there | apply PickL.app)) | (apply Split.lst; repeat (first | exact PickL.here | exact PickL.last | apply PickL.there | apply PickL.app)))) rfl (by repeat (first | exact Ap.nil | apply Ap.cons | apply Ap.app | exact Ap.one)) ?_
                    refine o_rd (rd_not rfl) rfl ?_
                    refine o_nil ?_
                    refine n_K ?_
                    refine s_condF rfl ?_
                    refine s_skip ?_
                    refine n_blk ?_
                    refine n_K ?_
                    refine s_region0 (fun ops => ?_)
                    refine o_rd (rd_add64 rfl rfl (by omega)) rfl ?_
                    refine o_rd (rd_move rfl) rfl ?_
                    refine o_nil ?_
                    refine n_K ?_
                    first | exact ⟨(i + 1, tb, onC c2, q), ⟨by simp only; omega, ha', hJn⟩, by simp only; omega, (by repeat' first | exact Keep.nil | refine Keep.cons rfl ?_), (by repeat' first | exact Keep.nil | refine Keep.cons rfl ?_), _, (by repeat (first | exact Split.nil | (apply Split.cons; next => repeat (first | exact Pick.here | apply Pick.there | apply Pick.app)) | (apply Split.chunk; next => repeat (first | exact PickL.here | exact PickL.last | apply PickL.there | apply PickL.app)) | (apply Split.lst; repeat (first | exact PickL.here | exact PickL.last | apply PickL.there | apply PickL.app))))⟩ | exact ⟨(i + 1, tb, onC c2, r1), ⟨by simp only; omega, ha', hJo⟩, by simp only; omega, (by repeat' first | exact Keep.nil | refine Keep.cons rfl ?_), (by repeat' first | exact Keep.nil | refine Keep.cons rfl ?_), _, (by repeat (first | exact Split.nil | (apply Split.cons; next => repeat (first | exact Pick.here | apply Pick.there | apply Pick.app)) | (apply Split.chunk; next => repeat (first | exact PickL.here | exact PickL.last | apply PickL.there | apply PickL.app)) | (apply Split.lst; repeat (first | exact PickL.here | exact PickL.last | apply PickL.there | apply PickL.app))))⟩ | exact ⟨(i + 1, t', onC c2, q), ⟨by simp only; omega, ha', hJ⟩, by simp only; omega, (by repeat' first | exact Keep.nil | refine Keep.cons rfl ?_), (by repeat' first | exact Keep.nil | refine Keep.cons rfl ?_), _, (by repeat (first | exact Split.nil | (apply Split.cons; next => repeat (first | exact Pick.here | apply Pick.there | apply Pick.app)) | (apply Split.chunk; next => repeat (first | exact PickL.here | exact PickL.last | apply PickL.there | apply PickL.app)) | (apply Split.lst; repeat (first | exact PickL.here | exact PickL.last | apply PickL.there | apply PickL.app))))⟩ | exact ⟨(i + 1, t', onC c2, r1), ⟨by simp only; omega, ha', hJ⟩, by simp only; omega, (by repeat' first | exact Keep.nil | refine Keep.cons rfl ?_), (by repeat' first | exact Keep.nil | refine Keep.cons rfl ?_), _, (by repeat (first | exact Split.nil | (apply Split.cons; next => repeat (first | exact Pick.here | apply Pick.there | apply Pick.app)) | (apply Split.chunk; next => repeat (first | exact PickL.here | exact PickL.last | apply PickL.there | apply PickL.app)) | (apply Split.lst; repeat (first | exact PickL.here | exact PickL.last | apply PickL.there | apply PickL.app))))⟩
                  · skip
                    have hJo : JC (onC c2) tb.ts r1.u.list r1.l.list 24 (i + 1) := (by rcases hJ with ⟨h, hne⟩ | h; rw [htb]; exact h; exact absurd ((hx3 (by rw [htb, hl2]; exact h.rel)).symm.trans c128) (by decide))
                    refine s_skip ?_
                    refine n_K ?_
                    refine s_seq ?_
                    refine s_region0 (fun ops => ?_)
                    refine o_rd (rd_move rfl) rfl ?_
                    refine o_rd (rd_move rfl) rfl ?_
                    refine c_is rfl ((by first | exact sameC_fn (c := onC c2) (t := tb) ha' hJn | exact sameC_fn (c := onC c2) (t := tb) ha' hJo)) (by repeat (first | exact Split.nil | (apply Split.cons; next => repeat (first | exact Pick.here | apply Pick.there | apply Pick.app)) | (apply Split.chunk; next => repeat (first | exact PickL.here | exact PickL.last | apply PickL.there | apply PickL.app)) | (apply Split.lst; repeat (first | exact PickL.here | exact PickL.last | apply PickL.there | apply PickL.app)))) rfl (by repeat (first | exact Ap.nil | apply Ap.cons | apply Ap.app | exact Ap.one)) ?_
                    refine o_rd (rd_not rfl) rfl ?_
                    refine o_nil ?_
                    refine n_K ?_
                    refine s_condF rfl ?_
                    refine s_skip ?_
                    refine n_blk ?_
                    refine n_K ?_
                    refine s_region0 (fun ops => ?_)
                    refine o_rd (rd_add64 rfl rfl (by omega)) rfl ?_
                    refine o_rd (rd_move rfl) rfl ?_
                    refine o_nil ?_
                    refine n_K ?_
                    first | exact ⟨(i + 1, tb, onC c2, q), ⟨by simp only; omega, ha', hJn⟩, by simp only; omega, (by repeat' first | exact Keep.nil | refine Keep.cons rfl ?_), (by repeat' first | exact Keep.nil | refine Keep.cons rfl ?_), _, (by repeat (first | exact Split.nil | (apply Split.cons; next => repeat (first | exact Pick.here | apply Pick.there | apply Pick.app)) | (apply Split.chunk; next => repeat (first | exact PickL.here | exact PickL.last | apply PickL.there | apply PickL.app)) | (apply Split.lst; repeat (first | exact PickL.here | exact PickL.last | apply PickL.there | apply PickL.app))))⟩ | exact ⟨(i + 1, tb, onC c2, r1), ⟨by simp only; omega, ha', hJo⟩, by simp only; omega, (by repeat' first | exact Keep.nil | refine Keep.cons rfl ?_), (by repeat' first | exact Keep.nil | refine Keep.cons rfl ?_), _, (by repeat (first | exact Split.nil | (apply Split.cons; next => repeat (first | exact Pick.here | apply Pick.there | apply Pick.app)) | (apply Split.chunk; next => repeat (first | exact PickL.here | exact PickL.last | apply PickL.there | apply PickL.app)) | (apply Split.lst; repeat (first | exact PickL.here | exact PickL.last | apply PickL.there | apply PickL.app))))⟩ | exact ⟨(i + 1, t', onC c2, q), ⟨by simp only; omega, ha', hJ⟩, by simp only; omega, (by repeat' first | exact Keep.nil | refine Keep.cons rfl ?_), (by repeat' first | exact Keep.nil | refine Keep.cons rfl ?_), _, (by repeat (first | exact Split.nil | (apply Split.cons; next => repeat (first | exact Pick.here | apply Pick.there | apply Pick.app)) | (apply Split.chunk; next => repeat (first | exact PickL.here | exact PickL.last | apply PickL.there | apply PickL.app)) | (apply Split.lst; repeat (first | exact PickL.here | exact PickL.last | apply PickL.there | apply PickL.app))))⟩ | exact ⟨(i + 1, t', onC c2, r1), ⟨by simp only; omega, ha', hJ⟩, by simp only; omega, (by repeat' first | exact Keep.nil | refine Keep.cons rfl ?_), (by repeat' first | exact Keep.nil | refine Keep.cons rfl ?_), _, (by repeat (first | exact Split.nil | (apply Split.cons; next => repeat (first | exact Pick.here | apply Pick.there | apply Pick.app)) | (apply Split.chunk; next => repeat (first | exact PickL.here | exact PickL.last | apply PickL.there | apply PickL.app)) | (apply Split.lst; repeat (first | exact PickL.here | exact PickL.last | apply PickL.there | apply PickL.app))))⟩
      · skip
        refine s_skip ?_
        refine n_K ?_
        refine s_seq ?_
        refine s_region0 (fun ops => ?_)
        refine o_rd (rd_move rfl) rfl ?_
        refine o_rd (rd_ldA rfl (by repeat' first | exact List.Mem.head _ | apply List.Mem.tail | apply List.mem_append_right) rfl) rfl ?_
        refine o_rd (rd_move rfl) rfl ?_
        refine c_ex rfl ((by first | exact doC_fn (t := t1) (c := cutC c1 (ibits .and .i64 x1 3) x2) (o := z) g1 (g2.cut _ _) (by omega) hst | exact doC_fn (t := t1) (c := c1) (o := z) g1 g2 (by omega) hst)) (by repeat (first | exact Split.nil | (apply Split.cons; next => repeat (first | exact Pick.here | apply Pick.there | apply Pick.app)) | (apply Split.chunk; next => repeat (first | exact PickL.here | exact PickL.last | apply PickL.there | apply PickL.app)) | (apply Split.lst; repeat (first | exact PickL.here | exact PickL.last | apply PickL.there | apply PickL.app)))) rfl (fun v91 Y91 h91 => ?_)
        rcases h91 with ⟨rfl, rfl, t', c2, hb', rfl, ha', hJ⟩ | ⟨rfl, rfl, t', c2, hb', rfl, ha', hJ⟩ | ⟨rfl, rfl, t', c2, t2, hb', rfl, ha', ho2, hJ⟩
        all_goals
          refine so_ap (by repeat (first | exact Ap.nil | apply Ap.cons | apply Ap.app | exact Ap.one)) ?_
          refine o_rd (rd_assign rfl) rfl ?_
          refine o_nil ?_
          refine n_K ?_
          refine s_seq ?_
          refine s_seq ?_
          refine s_region [(1, 93)] rfl (fun ops y => ?_)
          refine o_rd (rd_move rfl) rfl ?_
          refine o_rd (rd_move rfl) rfl ?_
          refine' o_and (j := 1) (k := 2) y rfl rfl rfl rfl rfl rfl rfl (fun hg93 => ?_) ?_
          rotate_left
          · try (simp at hg93; show _)
            refine o_g y rfl rfl ?_
            refine o_rd (rd_move rfl) rfl ?_
            refine o_g y rfl rfl ?_
            refine o_rd (rd_bin rfl rfl rfl) rfl ?_
            exact o_nil ⟨rfl, rfl, ⟨_, (by repeat (first | exact Split.nil | (apply Split.cons; next => repeat (first | exact Pick.here | apply Pick.there | apply Pick.app)) | (apply Split.chunk; next => repeat (first | exact PickL.here | exact PickL.last | apply PickL.there | apply PickL.app)) | (apply Split.lst; repeat (first | exact PickL.here | exact PickL.last | apply PickL.there | apply PickL.app))))⟩⟩
          refine o_nil ?_
          refine n_K ?_
          refine s_cond rfl (fun c96 => ?_) (fun c96 => ?_)
          · skip
            try (exfalso; (cases c96); done)
            all_goals
              refine s_region0 (fun ops => ?_)
              refine o_rd (rd_move rfl) rfl ?_
              refine o_rd (rd_assign rfl) rfl ?_
              refine o_nil ?_
              refine n_K ?_
              refine s_seq ?_
              refine s_region0 (fun ops => ?_)
              refine o_rd (rd_move rfl) rfl ?_
              refine o_rd (rd_nil rfl) rfl ?_
              refine o_rd (rd_field rfl) rfl ?_
              refine o_rd (rd_pw ha' rfl (by repeat (first | exact PickL.here | exact PickL.last | apply PickL.there | apply PickL.app))) rfl ?_
              refine c_is rfl (powOn_fn (c := c2)) (by repeat (first | exact Split.nil | (apply Split.cons; next => repeat (first | exact Pick.here | apply Pick.there | apply Pick.app)) | (apply Split.chunk; next => repeat (first | exact PickL.here | exact PickL.last | apply PickL.there | apply PickL.app)) | (apply Split.lst; repeat (first | exact PickL.here | exact PickL.last | apply PickL.there | apply PickL.app)))) rfl (by repeat (first | exact Ap.nil | apply Ap.cons | apply Ap.app | exact Ap.one)) ?_
              refine o_nil ?_
              refine n_K ?_
              refine s_seq ?_
              refine s_seq ?_
              refine s_region0 (fun ops => ?_)
              refine o_rd (rd_move rfl) rfl ?_
              refine o_rd (rd_bin rfl rfl rfl) rfl ?_
              refine o_nil ?_
              refine n_K ?_
              refine s_cond rfl (fun c104 => ?_) (fun c104 => ?_)
              · skip
                try (exfalso; (cases c104); done)
                all_goals
                  rw [← hb']
                  refine s_seq ?_
                  refine s_seq ?_
                  refine s_region [(2, 107)] rfl (fun ops y => ?_)
                  refine o_rd (rd_move rfl) rfl ?_
                  refine o_rd (rd_bin rfl rfl rfl) rfl ?_
                  refine o_rd (rd_move rfl) rfl ?_
                  refine' o_and (j := 2) (k := 2) y rfl rfl rfl rfl rfl rfl rfl (fun hg107 => ?_) ?_
                  rotate_left
                  · try (simp at hg107; show _)
                    refine o_g y rfl rfl ?_
                    refine o_rd (rd_move rfl) rfl ?_
                    refine o_g y rfl rfl ?_
                    refine o_rd (rd_bin rfl rfl rfl) rfl ?_
                    exact o_nil ⟨rfl, rfl, ⟨_, (by repeat (first | exact Split.nil | (apply Split.cons; next => repeat (first | exact Pick.here | apply Pick.there | apply Pick.app)) | (apply Split.chunk; next => repeat (first | exact PickL.here | exact PickL.last | apply PickL.there | apply PickL.app)) | (apply Split.lst; repeat (first | exact PickL.here | exact PickL.last | apply PickL.there | apply PickL.app))))⟩⟩
                  refine o_nil ?_
                  refine n_K ?_
                  refine s_cond rfl (fun c110 => ?_) (fun c110 => ?_)
                  · skip
                    try (exfalso; (cases c110); done)
                    all_goals
                      refine s_seq ?_
                      refine s_region0 (fun ops => ?_)
                      refine o_rd (rd_assign rfl) rfl ?_
                      refine o_nil ?_
                      refine n_K ?_
                      refine s_ret ?_
                      refine r_K ?_
                      refine r_K ?_
                      refine r_blk ?_
                      refine r_K ?_
                      refine r_K ?_
                      refine r_blk ?_
                      refine r_K ?_
                      exact leaf_r (rets1 Tryz.results4 (rv_tmp rfl)) (by rfl) (by repeat (first | exact Split.nil | (apply Split.cons; next => repeat (first | exact Pick.here | apply Pick.there | apply Pick.app)) | (apply Split.chunk; next => repeat (first | exact PickL.here | exact PickL.last | apply PickL.there | apply PickL.app)) | (apply Split.lst; repeat (first | exact PickL.here | exact PickL.last | apply PickL.there | apply PickL.app))))
                  · skip
                    try (exfalso; (cases c110); done)
                    all_goals
                      refine s_skip ?_
                      refine n_K ?_
                      refine s_exit ?_
                      refine x_K ?_
                      refine x_blk ?_
                      refine n_K ?_
                      refine s_region0 (fun ops => ?_)
                      refine o_rd (rd_add64 rfl rfl (by omega)) rfl ?_
                      refine o_rd (rd_move rfl) rfl ?_
                      refine o_nil ?_
                      refine n_K ?_
                      first | exact ⟨(i + 1, tb, onC c2, q), ⟨by simp only; omega, ha', hJn⟩, by simp only; omega, (by repeat' first | exact Keep.nil | refine Keep.cons rfl ?_), (by repeat' first | exact Keep.nil | refine Keep.cons rfl ?_), _, (by repeat (first | exact Split.nil | (apply Split.cons; next => repeat (first | exact Pick.here | apply Pick.there | apply Pick.app)) | (apply Split.chunk; next => repeat (first | exact PickL.here | exact PickL.last | apply PickL.there | apply PickL.app)) | (apply Split.lst; repeat (first | exact PickL.here | exact PickL.last | apply PickL.there | apply PickL.app))))⟩ | exact ⟨(i + 1, tb, onC c2, r1), ⟨by simp only; omega, ha', hJo⟩, by simp only; omega, (by repeat' first | exact Keep.nil | refine Keep.cons rfl ?_), (by repeat' first | exact Keep.nil | refine Keep.cons rfl ?_), _, (by repeat (first | exact Split.nil | (apply Split.cons; next => repeat (first | exact Pick.here | apply Pick.there | apply Pick.app)) | (apply Split.chunk; next => repeat (first | exact PickL.here | exact PickL.last | apply PickL.there | apply PickL.app)) | (apply Split.lst; repeat (first | exact PickL.here | exact PickL.last | apply PickL.there | apply PickL.app))))⟩ | exact ⟨(i + 1, t', onC c2, q), ⟨by simp only; omega, ha', hJ⟩, by simp only; omega, (by repeat' first | exact Keep.nil | refine Keep.cons rfl ?_), (by repeat' first | exact Keep.nil | refine Keep.cons rfl ?_), _, (by repeat (first | exact Split.nil | (apply Split.cons; next => repeat (first | exact Pick.here | apply Pick.there | apply Pick.app)) | (apply Split.chunk; next => repeat (first | exact PickL.here | exact PickL.last | apply PickL.there | apply PickL.app)) | (apply Split.lst; repeat (first | exact PickL.here | exact PickL.last | apply PickL.there | apply PickL.app))))⟩ | exact ⟨(i + 1, t', onC c2, r1), ⟨by simp only; omega, ha', hJ⟩, by simp only; omega, (by repeat' first | exact Keep.nil | refine Keep.cons rfl ?_), (by repeat' first | exact Keep.nil | refine Keep.cons rfl ?_), _, (by repeat (first | exact Split.nil | (apply Split.cons; next => repeat (first | exact Pick.here | apply Pick.there | apply Pick.app)) | (apply Split.chunk; next => repeat (first | exact PickL.here | exact PickL.last | apply PickL.there | apply PickL.app)) | (apply Split.lst; repeat (first | exact PickL.here | exact PickL.last | apply PickL.there | apply PickL.app))))⟩
              · skip
                try (exfalso; (cases c104); done)
                all_goals
                  have hl2 : (onC c2).blocks.length = 24 := (by rcases hJ with ⟨h, _⟩ | h <;> exact h.len)
                  refine s_skip ?_
                  refine n_K ?_
                  refine s_seq ?_
                  refine s_region0 (fun ops => ?_)
                  refine o_rd (rd_assign rfl) rfl ?_
                  refine o_nil ?_
                  refine n_K ?_
                  refine s_seq ?_
                  refine s_seq ?_
                  refine s_region0 (fun ops => ?_)
                  refine o_rd (rd_move rfl) rfl ?_
                  refine c_ex rfl (open_b (c := onC c2) ha' (by omega) ho2) (by repeat (first | exact Split.nil | (apply Split.cons; next => repeat (first | exact Pick.here | apply Pick.there | apply Pick.app)) | (apply Split.chunk; next => repeat (first | exact PickL.here | exact PickL.last | apply PickL.there | apply PickL.app)) | (apply Split.lst; repeat (first | exact PickL.here | exact PickL.last | apply PickL.there | apply PickL.app)))) rfl (fun v113 Y113 h113 => ?_)
                  obtain ⟨tb, rfl, rfl, htb⟩ := h113
                  refine so_ap (by repeat (first | exact Ap.nil | apply Ap.cons | apply Ap.app | exact Ap.one)) ?_
                  refine o_rd (rd_move rfl) rfl ?_
                  refine o_rd (rd_extract rfl rfl) rfl ?_
                  refine o_rd (rd_extract rfl rfl) rfl ?_
                  refine o_rd (rd_assign rfl) rfl ?_
                  refine o_rd (rd_assign rfl) rfl ?_
                  refine o_nil ?_
                  refine n_K ?_
                  refine s_seq ?_
                  refine s_region [(2, 118), (6, 122)] rfl (fun ops y => ?_)
                  refine o_rd (rd_move rfl) rfl ?_
                  refine o_rd (rd_eqNil rfl rfl) rfl ?_
                  refine o_rd (rd_move rfl) rfl ?_
                  refine' o_or (j := 2) (k := 2) y rfl rfl rfl rfl rfl rfl rfl (fun hg118 => ?_) ?_
                  rotate_left
                  · try (simp at hg118; show _)
                    refine o_g y rfl rfl ?_
                    refine o_rd (rd_move rfl) rfl ?_
                    refine o_g y rfl rfl ?_
                    refine o_rd (rd_bin rfl rfl rfl) rfl ?_
                    exact o_nil ⟨rfl, rfl, ⟨_, (by repeat (first | exact Split.nil | (apply Split.cons; next => repeat (first | exact Pick.here | apply Pick.there | apply Pick.app)) | (apply Split.chunk; next => repeat (first | exact PickL.here | exact PickL.last | apply PickL.there | apply PickL.app)) | (apply Split.lst; repeat (first | exact PickL.here | exact PickL.last | apply PickL.there | apply PickL.app))))⟩⟩
                  refine o_rd (rd_move rfl) rfl ?_
                  refine' o_or (j := 6) (k := 2) y rfl rfl rfl rfl rfl rfl rfl (fun hg122 => ?_) ?_
                  rotate_left
                  · try (simp at hg122; show _)
                    refine o_g y rfl rfl ?_
                    refine o_rd (rd_move rfl) rfl ?_
                    refine o_g y rfl rfl ?_
                    refine o_rd (rd_not rfl) rfl ?_
                    exact o_nil ⟨rfl, rfl, ⟨_, (by repeat (first | exact Split.nil | (apply Split.cons; next => repeat (first | exact Pick.here | apply Pick.there | apply Pick.app)) | (apply Split.chunk; next => repeat (first | exact PickL.here | exact PickL.last | apply PickL.there | apply PickL.app)) | (apply Split.lst; repeat (first | exact PickL.here | exact PickL.last | apply PickL.there | apply PickL.app))))⟩⟩
                  refine o_nil ?_
                  refine n_K ?_
                  refine s_condF rfl ?_
                  refine s_skip ?_
                  refine n_K ?_
                  refine s_seq ?_
                  refine s_seq ?_
                  refine s_region0 (fun ops => ?_)
                  refine o_rd (rd_move rfl) rfl ?_
                  refine o_rd (rd_move rfl) rfl ?_
                  refine c_ex rfl (same_fn (c := onC c2) (t := tb) (r := q) ha' (by omega) (by have := hq1; rcases hJ with ⟨h, _⟩ | h; exact (le_of_step g2.refS.1 hst); exact h.refS.1)) (by repeat (first | exact Split.nil | (apply Split.cons; next => repeat (first | exact Pick.here | apply Pick.there | apply Pick.app)) | (apply Split.chunk; next => repeat (first | exact PickL.here | exact PickL.last | apply PickL.there | apply PickL.app)) | (apply Split.lst; repeat (first | exact PickL.here | exact PickL.last | apply PickL.there | apply PickL.app)))) rfl (fun v128 Y128 h128 => ?_)
                  obtain ⟨x, rfl, rfl, hx3, hx4⟩ := h128
                  refine so_ap (by repeat (first | exact Ap.nil | apply Ap.cons | apply Ap.app | exact Ap.one)) ?_
                  refine o_nil ?_
                  refine n_K ?_
                  refine s_cond rfl (fun c128 => ?_) (fun c128 => ?_)
                  · skip
                    have hJn : JC (onC c2) tb.ts q.u.list q.l.list 24 (i + 1) := (by rcases hJ with ⟨h, hne⟩ | h; exact absurd ((hx4 (by rw [show tb.l.list = tb.ts.lost from rfl, htb]; exact hne)).symm.trans c128) (by decide); rw [htb]; exact h)
                    refine s_region0 (fun ops => ?_)
                    refine o_rd (rd_move rfl) rfl ?_
                    refine o_rd (rd_assign rfl) rfl ?_
                    refine o_nil ?_
                    refine n_K ?_
                    refine s_seq ?_
                    refine s_region0 (fun ops => ?_)
                    refine o_rd (rd_move rfl) rfl ?_
                    refine o_rd (rd_move rfl) rfl ?_
                    refine c_is rfl ((by first | exact sameC_fn (c := onC c2) (t := tb) ha' hJn | exact sameC_fn (c := onC c2) (t := tb) ha' hJo)) (by repeat (first | exact Split.nil | (apply Split.cons; next => repeat (first | exact Pick.here | apply Pick.there | apply Pick.app)) | (apply Split.chunk; next => repeat (first | exact PickL.here | exact PickL.last | apply PickL.there | apply PickL.app)) | (apply Split.lst; repeat (first | exact PickL.here | exact PickL.last | apply PickL.there | apply PickL.app)))) rfl (by repeat (first | exact Ap.nil | apply Ap.cons | apply Ap.app | exact Ap.one)) ?_
                    refine o_rd (rd_not rfl) rfl ?_
                    refine o_nil ?_
                    refine n_K ?_
                    refine s_condF rfl ?_
                    refine s_skip ?_
                    refine n_blk ?_
                    refine n_K ?_
                    refine s_region0 (fun ops => ?_)
                    refine o_rd (rd_add64 rfl rfl (by omega)) rfl ?_
                    refine o_rd (rd_move rfl) rfl ?_
                    refine o_nil ?_
                    refine n_K ?_
                    first | exact ⟨(i + 1, tb, onC c2, q), ⟨by simp only; omega, ha', hJn⟩, by simp only; omega, (by repeat' first | exact Keep.nil | refine Keep.cons rfl ?_), (by repeat' first | exact Keep.nil | refine Keep.cons rfl ?_), _, (by repeat (first | exact Split.nil | (apply Split.cons; next => repeat (first | exact Pick.here | apply Pick.there | apply Pick.app)) | (apply Split.chunk; next => repeat (first | exact PickL.here | exact PickL.last | apply PickL.there | apply PickL.app)) | (apply Split.lst; repeat (first | exact PickL.here | exact PickL.last | apply PickL.there | apply PickL.app))))⟩ | exact ⟨(i + 1, tb, onC c2, r1), ⟨by simp only; omega, ha', hJo⟩, by simp only; omega, (by repeat' first | exact Keep.nil | refine Keep.cons rfl ?_), (by repeat' first | exact Keep.nil | refine Keep.cons rfl ?_), _, (by repeat (first | exact Split.nil | (apply Split.cons; next => repeat (first | exact Pick.here | apply Pick.there | apply Pick.app)) | (apply Split.chunk; next => repeat (first | exact PickL.here | exact PickL.last | apply PickL.there | apply PickL.app)) | (apply Split.lst; repeat (first | exact PickL.here | exact PickL.last | apply PickL.there | apply PickL.app))))⟩ | exact ⟨(i + 1, t', onC c2, q), ⟨by simp only; omega, ha', hJ⟩, by simp only; omega, (by repeat' first | exact Keep.nil | refine Keep.cons rfl ?_), (by repeat' first | exact Keep.nil | refine Keep.cons rfl ?_), _, (by repeat (first | exact Split.nil | (apply Split.cons; next => repeat (first | exact Pick.here | apply Pick.there | apply Pick.app)) | (apply Split.chunk; next => repeat (first | exact PickL.here | exact PickL.last | apply PickL.there | apply PickL.app)) | (apply Split.lst; repeat (first | exact PickL.here | exact PickL.last | apply PickL.there | apply PickL.app))))⟩ | exact ⟨(i + 1, t', onC c2, r1), ⟨by simp only; omega, ha', hJ⟩, by simp only; omega, (by repeat' first | exact Keep.nil | refine Keep.cons rfl ?_), (by repeat' first | exact Keep.nil | refine Keep.cons rfl ?_), _, (by repeat (first | exact Split.nil | (apply Split.cons; next => repeat (first | exact Pick.here | apply Pick.there | apply Pick.app)) | (apply Split.chunk; next => repeat (first | exact PickL.here | exact PickL.last | apply PickL.there | apply PickL.app)) | (apply Split.lst; repeat (first | exact PickL.here | exact PickL.last | apply PickL.there | apply PickL.app))))⟩
                  · skip
                    have hJo : JC (onC c2) tb.ts r1.u.list r1.l.list 24 (i + 1) := (by rcases hJ with ⟨h, hne⟩ | h; rw [htb]; exact h; exact absurd ((hx3 (by rw [htb, hl2]; exact h.rel)).symm.trans c128) (by decide))
                    refine s_skip ?_
                    refine n_K ?_
                    refine s_seq ?_
                    refine s_region0 (fun ops => ?_)
                    refine o_rd (rd_move rfl) rfl ?_
                    refine o_rd (rd_move rfl) rfl ?_
                    refine c_is rfl ((by first | exact sameC_fn (c := onC c2) (t := tb) ha' hJn | exact sameC_fn (c := onC c2) (t := tb) ha' hJo)) (by repeat (first | exact Split.nil | (apply Split.cons; next => repeat (first | exact Pick.here | apply Pick.there | apply Pick.app)) | (apply Split.chunk; next => repeat (first | exact PickL.here | exact PickL.last | apply PickL.there | apply PickL.app)) | (apply Split.lst; repeat (first | exact PickL.here | exact PickL.last | apply PickL.there | apply PickL.app)))) rfl (by repeat (first | exact Ap.nil | apply Ap.cons | apply Ap.app | exact Ap.one)) ?_
                    refine o_rd (rd_not rfl) rfl ?_
                    refine o_nil ?_
                    refine n_K ?_
                    refine s_condF rfl ?_
                    refine s_skip ?_
                    refine n_blk ?_
                    refine n_K ?_
                    refine s_region0 (fun ops => ?_)
                    refine o_rd (rd_add64 rfl rfl (by omega)) rfl ?_
                    refine o_rd (rd_move rfl) rfl ?_
                    refine o_nil ?_
                    refine n_K ?_
                    first | exact ⟨(i + 1, tb, onC c2, q), ⟨by simp only; omega, ha', hJn⟩, by simp only; omega, (by repeat' first | exact Keep.nil | refine Keep.cons rfl ?_), (by repeat' first | exact Keep.nil | refine Keep.cons rfl ?_), _, (by repeat (first | exact Split.nil | (apply Split.cons; next => repeat (first | exact Pick.here | apply Pick.there | apply Pick.app)) | (apply Split.chunk; next => repeat (first | exact PickL.here | exact PickL.last | apply PickL.there | apply PickL.app)) | (apply Split.lst; repeat (first | exact PickL.here | exact PickL.last | apply PickL.there | apply PickL.app))))⟩ | exact ⟨(i + 1, tb, onC c2, r1), ⟨by simp only; omega, ha', hJo⟩, by simp only; omega, (by repeat' first | exact Keep.nil | refine Keep.cons rfl ?_), (by repeat' first | exact Keep.nil | refine Keep.cons rfl ?_), _, (by repeat (first | exact Split.nil | (apply Split.cons; next => repeat (first | exact Pick.here | apply Pick.there | apply Pick.app)) | (apply Split.chunk; next => repeat (first | exact PickL.here | exact PickL.last | apply PickL.there | apply PickL.app)) | (apply Split.lst; repeat (first | exact PickL.here | exact PickL.last | apply PickL.there | apply PickL.app))))⟩ | exact ⟨(i + 1, t', onC c2, q), ⟨by simp only; omega, ha', hJ⟩, by simp only; omega, (by repeat' first | exact Keep.nil | refine Keep.cons rfl ?_), (by repeat' first | exact Keep.nil | refine Keep.cons rfl ?_), _, (by repeat (first | exact Split.nil | (apply Split.cons; next => repeat (first | exact Pick.here | apply Pick.there | apply Pick.app)) | (apply Split.chunk; next => repeat (first | exact PickL.here | exact PickL.last | apply PickL.there | apply PickL.app)) | (apply Split.lst; repeat (first | exact PickL.here | exact PickL.last | apply PickL.there | apply PickL.app))))⟩ | exact ⟨(i + 1, t', onC c2, r1), ⟨by simp only; omega, ha', hJ⟩, by simp only; omega, (by repeat' first | exact Keep.nil | refine Keep.cons rfl ?_), (by repeat' first | exact Keep.nil | refine Keep.cons rfl ?_), _, (by repeat (first | exact Split.nil | (apply Split.cons; next => repeat (first | exact Pick.here | apply Pick.there | apply Pick.app)) | (apply Split.chunk; next => repeat (first | exact PickL.here | exact PickL.last | apply PickL.there | apply PickL.app)) | (apply Split.lst; repeat (first | exact PickL.here | exact PickL.last | apply PickL.there | apply PickL.app))))⟩
          · skip
            try (exfalso; (cases c96); done)
            all_goals
              refine s_skip ?_
              refine n_K ?_
              refine s_seq ?_
              refine s_region0 (fun ops => ?_)
              refine o_rd (rd_move rfl) rfl ?_
              refine o_rd (rd_nil rfl) rfl ?_
              refine o_rd (rd_field rfl) rfl ?_
              refine o_rd (rd_pw ha' rfl (by repeat (first | exact PickL.here | exact PickL.last | apply PickL.there | apply PickL.app))) rfl ?_
              refine c_is rfl (powOn_fn (c := c2)) (by repeat (first | exact Split.nil | (apply Split.cons; next => repeat (first | exact Pick.here | apply Pick.there | apply Pick.app)) | (apply Split.chunk; next => repeat (first | exact PickL.here | exact PickL.last | apply PickL.there | apply PickL.app)) | (apply Split.lst; repeat (first | exact PickL.here | exact PickL.last | apply PickL.there | apply PickL.app)))) rfl (by repeat (first | exact Ap.nil | apply Ap.cons | apply Ap.app | exact Ap.one)) ?_
              refine o_nil ?_
              refine n_K ?_
              refine s_seq ?_
              refine s_seq ?_
              refine s_region0 (fun ops => ?_)
              refine o_rd (rd_move rfl) rfl ?_
              refine o_rd (rd_bin rfl rfl rfl) rfl ?_
              refine o_nil ?_
              refine n_K ?_
              refine s_cond rfl (fun c104 => ?_) (fun c104 => ?_)
              · skip
                try (exfalso; (cases c104); done)
                all_goals
                  rw [← hb']
                  refine s_seq ?_
                  refine s_seq ?_
                  refine s_region [(2, 107)] rfl (fun ops y => ?_)
                  refine o_rd (rd_move rfl) rfl ?_
                  refine o_rd (rd_bin rfl rfl rfl) rfl ?_
                  refine o_rd (rd_move rfl) rfl ?_
                  refine' o_and (j := 2) (k := 2) y rfl rfl rfl rfl rfl rfl rfl (fun hg107 => ?_) ?_
                  rotate_left
                  · try (simp at hg107; show _)
                    refine o_g y rfl rfl ?_
                    refine o_rd (rd_move rfl) rfl ?_
                    refine o_g y rfl rfl ?_
                    refine o_rd (rd_bin rfl rfl rfl) rfl ?_
                    exact o_nil ⟨rfl, rfl, ⟨_, (by repeat (first | exact Split.nil | (apply Split.cons; next => repeat (first | exact Pick.here | apply Pick.there | apply Pick.app)) | (apply Split.chunk; next => repeat (first | exact PickL.here | exact PickL.last | apply PickL.there | apply PickL.app)) | (apply Split.lst; repeat (first | exact PickL.here | exact PickL.last | apply PickL.there | apply PickL.app))))⟩⟩
                  refine o_nil ?_
                  refine n_K ?_
                  refine s_cond rfl (fun c110 => ?_) (fun c110 => ?_)
                  · skip
                    try (exfalso; (cases c110); done)
                    all_goals
                      refine s_seq ?_
                      refine s_region0 (fun ops => ?_)
                      refine o_rd (rd_assign rfl) rfl ?_
                      refine o_nil ?_
                      refine n_K ?_
                      refine s_ret ?_
                      refine r_K ?_
                      refine r_K ?_
                      refine r_blk ?_
                      refine r_K ?_
                      refine r_K ?_
                      refine r_blk ?_
                      refine r_K ?_
                      exact leaf_r (rets1 Tryz.results4 (rv_tmp rfl)) (by rfl) (by repeat (first | exact Split.nil | (apply Split.cons; next => repeat (first | exact Pick.here | apply Pick.there | apply Pick.app)) | (apply Split.chunk; next => repeat (first | exact PickL.here | exact PickL.last | apply PickL.there | apply PickL.app)) | (apply Split.lst; repeat (first | exact PickL.here | exact PickL.last | apply PickL.there | apply PickL.app))))
                  · skip
                    try (exfalso; (cases c110); done)
                    all_goals
                      refine s_skip ?_
                      refine n_K ?_
                      refine s_exit ?_
                      refine x_K ?_
                      refine x_blk ?_
                      refine n_K ?_
                      refine s_region0 (fun ops => ?_)
                      refine o_rd (rd_add64 rfl rfl (by omega)) rfl ?_
                      refine o_rd (rd_move rfl) rfl ?_
                      refine o_nil ?_
                      refine n_K ?_
                      first | exact ⟨(i + 1, tb, onC c2, q), ⟨by simp only; omega, ha', hJn⟩, by simp only; omega, (by repeat' first | exact Keep.nil | refine Keep.cons rfl ?_), (by repeat' first | exact Keep.nil | refine Keep.cons rfl ?_), _, (by repeat (first | exact Split.nil | (apply Split.cons; next => repeat (first | exact Pick.here | apply Pick.there | apply Pick.app)) | (apply Split.chunk; next => repeat (first | exact PickL.here | exact PickL.last | apply PickL.there | apply PickL.app)) | (apply Split.lst; repeat (first | exact PickL.here | exact PickL.last | apply PickL.there | apply PickL.app))))⟩ | exact ⟨(i + 1, tb, onC c2, r1), ⟨by simp only; omega, ha', hJo⟩, by simp only; omega, (by repeat' first | exact Keep.nil | refine Keep.cons rfl ?_), (by repeat' first | exact Keep.nil | refine Keep.cons rfl ?_), _, (by repeat (first | exact Split.nil | (apply Split.cons; next => repeat (first | exact Pick.here | apply Pick.there | apply Pick.app)) | (apply Split.chunk; next => repeat (first | exact PickL.here | exact PickL.last | apply PickL.there | apply PickL.app)) | (apply Split.lst; repeat (first | exact PickL.here | exact PickL.last | apply PickL.there | apply PickL.app))))⟩ | exact ⟨(i + 1, t', onC c2, q), ⟨by simp only; omega, ha', hJ⟩, by simp only; omega, (by repeat' first | exact Keep.nil | refine Keep.cons rfl ?_), (by repeat' first | exact Keep.nil | refine Keep.cons rfl ?_), _, (by repeat (first | exact Split.nil | (apply Split.cons; next => repeat (first | exact Pick.here | apply Pick.there | apply Pick.app)) | (apply Split.chunk; next => repeat (first | exact PickL.here | exact PickL.last | apply PickL.there | apply PickL.app)) | (apply Split.lst; repeat (first | exact PickL.here | exact PickL.last | apply PickL.there | apply PickL.app))))⟩ | exact ⟨(i + 1, t', onC c2, r1), ⟨by simp only; omega, ha', hJ⟩, by simp only; omega, (by repeat' first | exact Keep.nil | refine Keep.cons rfl ?_), (by repeat' first | exact Keep.nil | refine Keep.cons rfl ?_), _, (by repeat (first | exact Split.nil | (apply Split.cons; next => repeat (first | exact Pick.here | apply Pick.there | apply Pick.app)) | (apply Split.chunk; next => repeat (first | exact PickL.here | exact PickL.last | apply PickL.there | apply PickL.app)) | (apply Split.lst; repeat (first | exact PickL.here | exact PickL.last | apply PickL.there | apply PickL.app))))⟩
              · skip
                try (exfalso; (cases c104); done)
                all_goals
                  have hl2 : (onC c2).blocks.length = 24 := (by rcases hJ with ⟨h, _⟩ | h <;> exact h.len)
                  refine s_skip ?_
                  refine n_K ?_
                  refine s_seq ?_
                  refine s_region0 (fun ops => ?_)
                  refine o_rd (rd_assign rfl) rfl ?_
                  refine o_nil ?_
                  refine n_K ?_
                  refine s_seq ?_
                  refine s_seq ?_
                  refine s_region0 (fun ops => ?_)
                  refine o_rd (rd_move rfl) rfl ?_
                  refine c_ex rfl (open_b (c := onC c2) ha' (by omega) ho2) (by repeat (first | exact Split.nil | (apply Split.cons; next => repeat (first | exact Pick.here | apply Pick.there | apply Pick.app)) | (apply Split.chunk; next => repeat (first | exact PickL.here | exact PickL.last | apply PickL.there | apply PickL.app)) | (apply Split.lst; repeat (first | exact PickL.here | exact PickL.last | apply PickL.there | apply PickL.app)))) rfl (fun v113 Y113 h113 => ?_)
                  obtain ⟨tb, rfl, rfl, htb⟩ := h113
                  refine so_ap (by repeat (first | exact Ap.nil | apply Ap.cons | apply Ap.app | exact Ap.one)) ?_
                  refine o_rd (rd_move rfl) rfl ?_
                  refine o_rd (rd_extract rfl rfl) rfl ?_
                  refine o_rd (rd_extract rfl rfl) rfl ?_
                  refine o_rd (rd_assign rfl) rfl ?_
                  refine o_rd (rd_assign rfl) rfl ?_
                  refine o_nil ?_
                  refine n_K ?_
                  refine s_seq ?_
                  refine s_region [(2, 118), (6, 122)] rfl (fun ops y => ?_)
                  refine o_rd (rd_move rfl) rfl ?_
                  refine o_rd (rd_eqNil rfl rfl) rfl ?_
                  refine o_rd (rd_move rfl) rfl ?_
                  refine' o_or (j := 2) (k := 2) y rfl rfl rfl rfl rfl rfl rfl (fun hg118 => ?_) ?_
                  rotate_left
                  · try (simp at hg118; show _)
                    refine o_g y rfl rfl ?_
                    refine o_rd (rd_move rfl) rfl ?_
                    refine o_g y rfl rfl ?_
                    refine o_rd (rd_bin rfl rfl rfl) rfl ?_
                    exact o_nil ⟨rfl, rfl, ⟨_, (by repeat (first | exact Split.nil | (apply Split.cons; next => repeat (first | exact Pick.here | apply Pick.there | apply Pick.app)) | (apply Split.chunk; next => repeat (first | exact PickL.here | exact PickL.last | apply PickL.there | apply PickL.app)) | (apply Split.lst; repeat (first | exact PickL.here | exact PickL.last | apply PickL.there | apply PickL.app))))⟩⟩
                  refine o_rd (rd_move rfl) rfl ?_
                  refine' o_or (j := 6) (k := 2) y rfl rfl rfl rfl rfl rfl rfl (fun hg122 => ?_) ?_
                  rotate_left
                  · try (simp at hg122; show _)
                    refine o_g y rfl rfl ?_
                    refine o_rd (rd_move rfl) rfl ?_
                    refine o_g y rfl rfl ?_
                    refine o_rd (rd_not rfl) rfl ?_
                    exact o_nil ⟨rfl, rfl, ⟨_, (by repeat (first | exact Split.nil | (apply Split.cons; next => repeat (first | exact Pick.here | apply Pick.there | apply Pick.app)) | (apply Split.chunk; next => repeat (first | exact PickL.here | exact PickL.last | apply PickL.there | apply PickL.app)) | (apply Split.lst; repeat (first | exact PickL.here | exact PickL.last | apply PickL.there | apply PickL.app))))⟩⟩
                  refine o_nil ?_
                  refine n_K ?_
                  refine s_condF rfl ?_
                  refine s_skip ?_
                  refine n_K ?_
                  refine s_seq ?_
                  refine s_seq ?_
                  refine s_region0 (fun ops => ?_)
                  refine o_rd (rd_move rfl) rfl ?_
                  refine o_rd (rd_move rfl) rfl ?_
                  refine c_ex rfl (same_fn (c := onC c2) (t := tb) (r := q) ha' (by omega) (by have := hq1; rcases hJ with ⟨h, _⟩ | h; exact (le_of_step g2.refS.1 hst); exact h.refS.1)) (by repeat (first | exact Split.nil | (apply Split.cons; next => repeat (first | exact Pick.here | apply Pick.there | apply Pick.app)) | (apply Split.chunk; next => repeat (first | exact PickL.here | exact PickL.last | apply PickL.there | apply PickL.app)) | (apply Split.lst; repeat (first | exact PickL.here | exact PickL.last | apply PickL.there | apply PickL.app)))) rfl (fun v128 Y128 h128 => ?_)
                  obtain ⟨x, rfl, rfl, hx3, hx4⟩ := h128
                  refine so_ap (by repeat (first | exact Ap.nil | apply Ap.cons | apply Ap.app | exact Ap.one)) ?_
                  refine o_nil ?_
                  refine n_K ?_
                  refine s_cond rfl (fun c128 => ?_) (fun c128 => ?_)
                  · skip
                    have hJn : JC (onC c2) tb.ts q.u.list q.l.list 24 (i + 1) := (by rcases hJ with ⟨h, hne⟩ | h; exact absurd ((hx4 (by rw [show tb.l.list = tb.ts.lost from rfl, htb]; exact hne)).symm.trans c128) (by decide); rw [htb]; exact h)
                    refine s_region0 (fun ops => ?_)
                    refine o_rd (rd_move rfl) rfl ?_
                    refine o_rd (rd_assign rfl) rfl ?_
                    refine o_nil ?_
                    refine n_K ?_
                    refine s_seq ?_
                    refine s_region0 (fun ops => ?_)
                    refine o_rd (rd_move rfl) rfl ?_
                    refine o_rd (rd_move rfl) rfl ?_
                    refine c_is rfl ((by first | exact sameC_fn (c := onC c2) (t := tb) ha' hJn | exact sameC_fn (c := onC c2) (t := tb) ha' hJo)) (by repeat (first | exact Split.nil | (apply Split.cons; next => repeat (first | exact Pick.here | apply Pick.there | apply Pick.app)) | (apply Split.chunk; next => repeat (first | exact PickL.here | exact PickL.last | apply PickL.there | apply PickL.app)) | (apply Split.lst; repeat (first | exact PickL.here | exact PickL.last | apply PickL.there | apply PickL.app)))) rfl (by repeat (first | exact Ap.nil | apply Ap.cons | apply Ap.app | exact Ap.one)) ?_
                    refine o_rd (rd_not rfl) rfl ?_
                    refine o_nil ?_
                    refine n_K ?_
                    refine s_condF rfl ?_
                    refine s_skip ?_
                    refine n_blk ?_
                    refine n_K ?_
                    refine s_region0 (fun ops => ?_)
                    refine o_rd (rd_add64 rfl rfl (by omega)) rfl ?_
                    refine o_rd (rd_move rfl) rfl ?_
                    refine o_nil ?_
                    refine n_K ?_
                    first | exact ⟨(i + 1, tb, onC c2, q), ⟨by simp only; omega, ha', hJn⟩, by simp only; omega, (by repeat' first | exact Keep.nil | refine Keep.cons rfl ?_), (by repeat' first | exact Keep.nil | refine Keep.cons rfl ?_), _, (by repeat (first | exact Split.nil | (apply Split.cons; next => repeat (first | exact Pick.here | apply Pick.there | apply Pick.app)) | (apply Split.chunk; next => repeat (first | exact PickL.here | exact PickL.last | apply PickL.there | apply PickL.app)) | (apply Split.lst; repeat (first | exact PickL.here | exact PickL.last | apply PickL.there | apply PickL.app))))⟩ | exact ⟨(i + 1, tb, onC c2, r1), ⟨by simp only; omega, ha', hJo⟩, by simp only; omega, (by repeat' first | exact Keep.nil | refine Keep.cons rfl ?_), (by repeat' first | exact Keep.nil | refine Keep.cons rfl ?_), _, (by repeat (first | exact Split.nil | (apply Split.cons; next => repeat (first | exact Pick.here | apply Pick.there | apply Pick.app)) | (apply Split.chunk; next => repeat (first | exact PickL.here | exact PickL.last | apply PickL.there | apply PickL.app)) | (apply Split.lst; repeat (first | exact PickL.here | exact PickL.last | apply PickL.there | apply PickL.app))))⟩ | exact ⟨(i + 1, t', onC c2, q), ⟨by simp only; omega, ha', hJ⟩, by simp only; omega, (by repeat' first | exact Keep.nil | refine Keep.cons rfl ?_), (by repeat' first | exact Keep.nil | refine Keep.cons rfl ?_), _, (by repeat (first | exact Split.nil | (apply Split.cons; next => repeat (first | exact Pick.here | apply Pick.there | apply Pick.app)) | (apply Split.chunk; next => repeat (first | exact PickL.here | exact PickL.last | apply PickL.there | apply PickL.app)) | (apply Split.lst; repeat (first | exact PickL.here | exact PickL.last | apply PickL.there | apply PickL.app))))⟩ | exact ⟨(i + 1, t', onC c2, r1), ⟨by simp only; omega, ha', hJ⟩, by simp only; omega, (by repeat' first | exact Keep.nil | refine Keep.cons rfl ?_), (by repeat' first | exact Keep.nil | refine Keep.cons rfl ?_), _, (by repeat (first | exact Split.nil | (apply Split.cons; next => repeat (first | exact Pick.here | apply Pick.there | apply Pick.app)) | (apply Split.chunk; next => repeat (first | exact PickL.here | exact PickL.last | apply PickL.there | apply PickL.app)) | (apply Split.lst; repeat (first | exact PickL.here | exact PickL.last | apply PickL.there | apply PickL.app))))⟩
                  · skip
                    have hJo : JC (onC c2) tb.ts r1.u.list r1.l.list 24 (i + 1) := (by rcases hJ with ⟨h, hne⟩ | h; rw [htb]; exact h; exact absurd ((hx3 (by rw [htb, hl2]; exact h.rel)).symm.trans c128) (by decide))
                    refine s_skip ?_
                    refine n_K ?_
                    refine s_seq ?_
                    refine s_region0 (fun ops => ?_)
                    refine o_rd (rd_move rfl) rfl ?_
                    refine o_rd (rd_move rfl) rfl ?_
                    refine c_is rfl ((by first | exact sameC_fn (c := onC c2) (t := tb) ha' hJn | exact sameC_fn (c := onC c2) (t := tb) ha' hJo)) (by repeat (first | exact Split.nil | (apply Split.cons; next => repeat (first | exact Pick.here | apply Pick.there | apply Pick.app)) | (apply Split.chunk; next => repeat (first | exact PickL.here | exact PickL.last | apply PickL.there | apply PickL.app)) | (apply Split.lst; repeat (first | exact PickL.here | exact PickL.last | apply PickL.there | apply PickL.app)))) rfl (by repeat (first | exact Ap.nil | apply Ap.cons | apply Ap.app | exact Ap.one)) ?_
                    refine o_rd (rd_not rfl) rfl ?_
                    refine o_nil ?_
                    refine n_K ?_
                    refine s_condF rfl ?_
                    refine s_skip ?_
                    refine n_blk ?_
                    refine n_K ?_
                    refine s_region0 (fun ops => ?_)
                    refine o_rd (rd_add64 rfl rfl (by omega)) rfl ?_
                    refine o_rd (rd_move rfl) rfl ?_
                    refine o_nil ?_
                    refine n_K ?_
                    first | exact ⟨(i + 1, tb, onC c2, q), ⟨by simp only; omega, ha', hJn⟩, by simp only; omega, (by repeat' first | exact Keep.nil | refine Keep.cons rfl ?_), (by repeat' first | exact Keep.nil | refine Keep.cons rfl ?_), _, (by repeat (first | exact Split.nil | (apply Split.cons; next => repeat (first | exact Pick.here | apply Pick.there | apply Pick.app)) | (apply Split.chunk; next => repeat (first | exact PickL.here | exact PickL.last | apply PickL.there | apply PickL.app)) | (apply Split.lst; repeat (first | exact PickL.here | exact PickL.last | apply PickL.there | apply PickL.app))))⟩ | exact ⟨(i + 1, tb, onC c2, r1), ⟨by simp only; omega, ha', hJo⟩, by simp only; omega, (by repeat' first | exact Keep.nil | refine Keep.cons rfl ?_), (by repeat' first | exact Keep.nil | refine Keep.cons rfl ?_), _, (by repeat (first | exact Split.nil | (apply Split.cons; next => repeat (first | exact Pick.here | apply Pick.there | apply Pick.app)) | (apply Split.chunk; next => repeat (first | exact PickL.here | exact PickL.last | apply PickL.there | apply PickL.app)) | (apply Split.lst; repeat (first | exact PickL.here | exact PickL.last | apply PickL.there | apply PickL.app))))⟩ | exact ⟨(i + 1, t', onC c2, q), ⟨by simp only; omega, ha', hJ⟩, by simp only; omega, (by repeat' first | exact Keep.nil | refine Keep.cons rfl ?_), (by repeat' first | exact Keep.nil | refine Keep.cons rfl ?_), _, (by repeat (first | exact Split.nil | (apply Split.cons; next => repeat (first | exact Pick.here | apply Pick.there | apply Pick.app)) | (apply Split.chunk; next => repeat (first | exact PickL.here | exact PickL.last | apply PickL.there | apply PickL.app)) | (apply Split.lst; repeat (first | exact PickL.here | exact PickL.last | apply PickL.there | apply PickL.app))))⟩ | exact ⟨(i + 1, t', onC c2, r1), ⟨by simp only; omega, ha', hJ⟩, by simp only; omega, (by repeat' first | exact Keep.nil | refine Keep.cons rfl ?_), (by repeat' first | exact Keep.nil | refine Keep.cons rfl ?_), _, (by repeat (first | exact Split.nil | (apply Split.cons; next => repeat (first | exact Pick.here | apply Pick.there | apply Pick.app)) | (apply Split.chunk; next => repeat (first | exact PickL.here | exact PickL.last | apply PickL.there | apply PickL.app)) | (apply Split.lst; repeat (first | exact PickL.here | exact PickL.last | apply PickL.there | apply PickL.app))))⟩
    · simp only [decide_eq_true_eq, decide_eq_false_iff_not] at c53
      refine s_exit ?_
      refine x_K ?_
      refine x_K ?_
      refine x_blk ?_
      refine n_K ?_
      refine s_seq ?_
      refine s_region0 (fun ops => ?_)
      refine o_rd (rd_move rfl) rfl ?_
      refine o_rd (rd_move rfl) rfl ?_
      refine c_is rfl (sameC_fn (c := c1) (t := t1) g1 g2) (by repeat (first | exact Split.nil | (apply Split.cons; next => repeat (first | exact Pick.here | apply Pick.there | apply Pick.app)) | (apply Split.chunk; next => repeat (first | exact PickL.here | exact PickL.last | apply PickL.there | apply PickL.app)) | (apply Split.lst; repeat (first | exact PickL.here | exact PickL.last | apply PickL.there | apply PickL.app)))) rfl (by repeat (first | exact Ap.nil | apply Ap.cons | apply Ap.app | exact Ap.one)) ?_
      refine o_rd (rd_assign rfl) rfl ?_
      refine o_nil ?_
      refine n_K ?_
      refine s_ret ?_
      exact leaf_r (rets1 Tryz.results4 (rv_tmp rfl)) (by rfl) (by repeat (first | exact Split.nil | (apply Split.cons; next => repeat (first | exact Pick.here | apply Pick.there | apply Pick.app)) | (apply Split.chunk; next => repeat (first | exact PickL.here | exact PickL.last | apply PickL.there | apply PickL.app)) | (apply Split.lst; repeat (first | exact PickL.here | exact PickL.last | apply PickL.there | apply PickL.app))))
end Go.Proofs.YtdfidkhbldedlaaGreat
