/- What holds of chips, tables, disks and logs, for all of them; the conditions are the statement's own: part 6. -/
import Derived.Test.YtkfcpjohblddmaaGreatJ4
import Derived.Test.YtkfcpjohblddmaaGreatJ5
section
/- A range over a function. -/
namespace Go.K
open Go Go.Sem
set_option linter.unusedVariables false
set_option linter.unusedSimpArgs false
set_option linter.unusedSectionVars false

/-! ### objects that are no cells -/
theorem trk_setO {w : World} {b : Nat} {o o' : Obj} {H K : Hp} (h : HpOk H w) (hu : Upd b o o' H K) (h1 : ∀ c T f, o ≠ .cells c T f) (h2 : ∀ c T f, o' ≠ .cells c T f) : Trk w (w.putObj b o') H K :=
  trk_set h hu (fun i s => by
    have hlt := h.lt hu.mem
    have e1 := h.here _ hu.mem
    simp only at e1
    have e2 : (setBlk w b o').heap[b]? = some o' := by simp [setBlk, hlt]
    unfold World.frozen?
    simp only [e1, e2]
    cases o <;> first | exact absurd rfl (h1 _ _ _) | (cases o' <;> first | exact absurd rfl (h2 _ _ _) | rfl))
theorem trk_newO {w : World} {H : Hp} (h : HpOk H w) {o : Obj} (h1 : ∀ c T f, o ≠ .cells c T f) : Trk w (w.alloc o) H ((w.heap.size, true, o) :: H) :=
  trk_new h (fun i s => by
    unfold World.frozen?
    simp only [Array.getElem?_push_size]
    cases o <;> first | exact absurd rfl (h1 _ _ _) | rfl)

/-! ### regions of which a part asks for a round -/
section
variable {P : Program} {n : Nat} {E : Env} {H : Hp} {Q : Post} {ops : Array Oper} {rest : List Oper}
def SY [rg : Rg] (P : Program) (n : Nat) (ops : Array Oper) (l : List Oper) (E : Env) (H : Hp) (Q : Post) : Prop :=
  ∀ a w, EnvOk E a → a.tmps.size = n → a.defers = rg.ds → HpOk H w → wpListIn Rg.F 0 P ops (Up n w H Q) l a w

theorem s_regionY [rg : Rg] {id : Nat} {l : List Oper} (Y : List (Nat × Nat)) (hY : yokB l Y = true) (h : ∀ ops, Yok ops Y → SY P n ops l E H Q) : SC P n (.region id l.toArray false) E H Q := by
  intro a w h1 h2 h3 h4 _
  refine wpIn_region_lit (h _ ?_ a w h1 h2 h3 h4)
  intro j d hm
  have := List.all_eq_true.1 hY (j, d) hm
  simpa using this
theorem y_nil [rg : Rg] (h : Q .normal E H) : SY P n ops [] E H Q := fun a w h1 h2 h3 h4 => ⟨E, H, h1, h2, h3, Trk.refl h4, h⟩

theorem y_app [rg : Rg] {l x : List Oper} (y : List Oper) (hl : l = x ++ y) (hn : rg.rd.isSome = true → x.all ndOp = true) (h : SO P n ops x E H (fun e E' H' => e = .normal ∧ SY P n ops y E' H' Q)) : SY P n ops l E H Q := by
  intro a w h1 h2 h3 h4
  subst hl
  refine list_in2 y (Q := Up n w H (fun e E' H' => e = .normal ∧ SY P n ops y E' H' Q)) ?_ ?_ x a w hn (h a w h1 h2 h3 h4)
  · rintro a' w' ⟨E', H', k1, k2, k3, k4, _, k5⟩
    have := k5 a' w' k1 k2 k3 k4.ok
    exact wpListIn_post (fun e a w hu => hu.after k4) _ _ _ this
  · rintro e a' w' he ⟨E', H', k1, k2, k3, k4, k5, _⟩
    exact he k5
where
  wpListIn_post {F : Fence} {m : Nat} {q q' : Exit → Act → World → Prop} (hq : ∀ e a w, q e a w → q' e a w) : ∀ (l : List Oper) (a : Act) (w : World), wpListIn F m P ops q l a w → wpListIn F m P ops q' l a w
    | [], a, w, h => hq _ _ _ h
    | o :: l, a, w, h => by
      simp only [wpListIn] at h ⊢
      split
      · rename_i hw
        rw [if_pos hw] at h
        refine ⟨h.1, ?_⟩
        have h2 := h.2
        have hk : ∀ a w, wpListIn F m P ops q l a w → wpListIn F m P ops q' l a w := wpListIn_post hq l
        generalize (o.semAt F.round a.eval).run P w = x at h2 ⊢
        cases x with
        | ok x w2 =>
          cases x <;> simp only [Oper.uponIn] at h2 ⊢
          case enter => exact ⟨h2.1, CallsIn.mono h2.2 fun e w' hh => by cases e <;> first | exact hk _ _ hh | exact hq _ _ _ hh | exact let ⟨a, w, hh⟩ := hh; ⟨a, w, hq .outgrown a w hh⟩⟩
          case round => exact ⟨h2.1, RoundIn.mono h2.2 fun e w' hh => by cases e <;> first | exact hk _ _ hh | exact hq _ _ _ hh | exact let ⟨a, w, hh⟩ := hh; ⟨a, w, hq .outgrown a w hh⟩⟩
          case row => exact ⟨h2.1, RowsIn.mono h2.2 fun _ _ hh => hk _ _ hh⟩
          all_goals first | exact hk _ _ h2 | exact h2.elim
        | halt x w2 => cases x <;> simp only [Oper.uponIn] at h2 ⊢ <;> first | exact hq _ _ _ h2 | exact h2
      · rename_i hw
        rw [if_neg hw] at h
        exact ⟨h.1, wpListIn_post hq l _ _ h.2⟩

theorem y_take [rg : Rg] {l : List Oper} (k : Nat) (h : SO P n ops (l.take k) E H (fun e E' H' => e = .normal ∧ SY P n ops (l.drop k) E' H' Q)) (hn : rg.rd.isSome = true → (l.take k).all ndOp = true := by intro e; cases e) : SY P n ops l E H Q :=
  y_app (l.drop k) (List.take_append_drop k l).symm hn h
theorem y_env [rg : Rg] {l : List Oper} {F : Env} (hk : Keep E F) (h : SY P n ops l F H Q) : SY P n ops l E H Q := fun a w h1 h2 h3 h4 => h a w (hk.ok h1) h2 h3 h4
/-- What a round does. -/
def Rnd (P : Program) (l : Nat) (f : FuncId) (tmps : Array Value) (asg bd : Code) (L : Hp) (R : Value → Hp → Prop) : Prop :=
  ∀ w, HpOk L w → RoundIn Fence.wide 0 P l f tmps asg bd w fun e w' => ∃ v L', e = .returned v ∧ R v L' ∧ Trk w w' L L'

def tmpsOf (r : Loop) (args : List Value) : Array Value := (r.params.zip args.toArray).foldl (fun tmps (t, a) => tmps.setIfInBounds t a) r.tmps

/-- A call of yield. -/
theorem y_yield [rg : Rg] {d l : Nat} {x : Operand} {xs : List Operand} {ts : Array TypeId} {ty : TypeId} {pos : String} {af : Array Edge} {gd : Option (Nat × Bool)} {args : List Value} {r : Loop} {L F : Hp} {R : Value → Hp → Prop} {Y : List (Nat × Nat)} (yk : Yok ops Y)
    (hgd : gOk E Y gd = true) (hg : ev E x = some (.func (.yield l) #[] #[])) (hx : evl E xs = some args) (hz : args.length = r.params.size) (hs : Split H ((l, true, .loop r) :: L) F)
    (hr : Rnd P l r.fn (tmpsOf r args) r.assign r.body ((l, true, .loop r) :: L) R) (hd : Nat.blt d n = true)
    (k : ∀ v L', R v L' → SY P n ops rest ((d, v) :: E) (L' ++ F) Q) : SY P n ops (⟨some d, .call ⟨.value x, xs.toArray, ts⟩, ty, pos, af, gd⟩ :: rest) E H Q := by
  intro a w h1 h2 h3 h4
  have hp := hs.perm
  have hok := h4.perm hp
  have hl := hok.here (l, true, .loop r) (by simp)
  simp only at hl
  have hrun : (execOp a.eval ⟨some d, .call ⟨.value x, xs.toArray, ts⟩, ty, pos, af, gd⟩).run P w = .ok (.round l r.fn (tmpsOf r args) r.assign r.body) w := by
    have e := evl_ok h1 hx
    have e2 : xs.toArray.map a.eval = args.toArray := by rw [← e]; simp
    simp only [execOp, resolve, Sem.run_bind, ev_ok h1 hg, Deferred.ofValue, Sem.run_pure, Result.andThen_ok, invoke]
    rw [e2]
    have hy := run_yield (P := P) (args := args.toArray) hl (by simpa using hz)
    simpa [tmpsOf] using hy
  unfold wpListIn
  rw [if_pos (gOk_wanted yk hgd h1)]
  refine ⟨fun _ _ => trivial, ?_⟩
  rw [Oper.semAt_eq _ _ _ (by simp), hrun, Oper.uponIn_round]
  refine ⟨(fun e => by cases e), RoundIn.mono (hr w hok.left) ?_⟩
  rintro e w' ⟨v, L', rfl, hR, ht⟩
  have ht' : Trk w w' H (L' ++ F) := (ht.frame hok).perm_left hp.symm
  have hlt : d < a.tmps.size := by rw [h2]; exact Nat.le_of_ble_eq_true hd
  exact y_app.wpListIn_post (fun e a w hu => hu.after ht') _ _ _ (k v L' hR _ _ (h1.put hlt) (by simp [Act.put, h2]) h3 ht'.ok)

/-! ### a round, out of its body -/
theorem rnd_body {l f : Nat} {tmps tm : Array Value} {ps : Array Tmp} {asg bd : Code} {fn : FuncId} {D : Nat} {M : Hp} {R : Value → Hp → Prop} (E0 : Env) (he : EnvOk E0 { tmps := tmps, defers := [] }) (hn : tmps.size = n) (hnd : (ndef asg && ndef bd) = true)
    (h : ∀ rg : Rg, SC P n asg E0 ((l, true, .loop ⟨.ready, none, fn, tm, ps, asg, bd, D⟩) :: M) (fun e E1 H1 => e = .normal ∧ ∃ N, H1 = ((l, true, .loop ⟨.ready, none, fn, tm, ps, asg, bd, D⟩) :: N) ∧
      SC P n bd E1 ((l, true, .loop ⟨.busy, none, fn, tm, ps, asg, bd, D⟩) :: N) (fun e E2 H2 => e = .normal ∧ ∃ N2 F2, Split H2 ((l, true, .loop ⟨.busy, none, fn, tm, ps, asg, bd, D⟩) :: N2) F2 ∧ R (.bool true) ((l, true, .loop ⟨.ready, none, fn, tm, ps, asg, bd, D⟩) :: N2)))) :
    Rnd P l f tmps asg bd ((l, true, .loop ⟨.ready, none, fn, tm, ps, asg, bd, D⟩) :: M) R := by
  intro w hw
  simp only [Bool.and_eq_true] at hnd
  let rg : Rg := ⟨[], some l⟩
  have hF : @Rg.F rg = Fence.wide.inRound l := rfl
  refine roundIn_of_wpIn trivial ?_
  have h0 := h rg { tmps := tmps, defers := [] } w he hn rfl hw (fun _ => ⟨fun ⟨a, w, E', H', _, _, _, _, k, _⟩ => (by cases k), hnd.1⟩)
  rw [hF] at h0
  refine wpIn_mono h0 ?_
  rintro e a1 w1 ⟨E1, H1, k1, k2, k3, k4, k5, N, k6, k7⟩
  subst k5
  subst k6
  have t1 := k4
  have hl1 := t1.ok.here _ (List.mem_cons_self)
  have t2 := trk_setO (b := l) (o' := .loop ⟨.busy, none, fn, tm, ps, asg, bd, D⟩) t1.ok .here (fun _ _ _ e => nomatch e) (fun _ _ _ e => nomatch e)
  refine ⟨_, run_beginRound hl1 rfl, ?_⟩
  have h1 := k7 a1 (w1.putObj l (.loop ⟨.busy, none, fn, tm, ps, asg, bd, D⟩)) k1 k2 k3 t2.ok (fun _ => ⟨fun ⟨a, w, E', H', _, _, _, _, k, _⟩ => (by cases k), hnd.2⟩)
  rw [hF] at h1
  refine wpIn_mono h1 ?_
  rintro e a2 w2 ⟨E2, H2, m1, m2, m3, m4, m5, N2, F2, m6, m7⟩
  subst m5
  have t3 := m4.split m6
  have hl2 := t3.ok.here _ (List.mem_cons_self)
  have t4 := trk_setO (b := l) (o' := .loop ⟨.ready, none, fn, tm, ps, asg, bd, D⟩) t3.ok .here (fun _ _ _ e => nomatch e) (fun _ _ _ e => nomatch e)
  exact ⟨_, _, run_endRound none hl2, .bool true, _, rfl, m7, ((t1.trans t2).trans t3).trans t4⟩
end

/-! ### a function that holds one range over a function -/
def mark (D : Nat) : Blk := (D, true, .deferred (some []))
def DQ (P : Program) (fn : Func) (w : World) (H : Hp) (R : Value → Hp → Prop) : Exit → Act → World → Prop := fun e a' w' =>
  (e = .normal ∨ e = .ret) ∧ ∃ E' H' D v L, EnvOk E' a' ∧ a'.defers = [⟨.collected D, #[]⟩] ∧ Trk w w' H H' ∧ (∃ G F, Pick (mark D) H' G ∧ Split G L F ∧ Ret P fn E' G v ∧ R v L)
def SDf (P : Program) (fn : Func) (n : Nat) (c : Code) (E : Env) (H : Hp) (R : Value → Hp → Prop) : Prop :=
  ∀ a w, EnvOk E a → a.tmps.size = n → a.defers = [] → HpOk H w → c.wpIn Fence.wide 0 P (DQ P fn w H R) a w
/-- 'c', and 'y' behind it. -/
def SDk (P : Program) (fn : Func) (n : Nat) (c y : Code) (E : Env) (H : Hp) (R : Value → Hp → Prop) : Prop :=
  ∀ a w, EnvOk E a → a.tmps.size = n → a.defers = [] → HpOk H w → c.wpIn Fence.wide 0 P (Exit.then (y.wpIn Fence.wide 0 P (DQ P fn w H R)) (DQ P fn w H R)) a w
def fpostD (P : Program) (fn : Func) (R : Value → Hp → Prop) (D : Nat) : Post
  | .normal, E, H | .ret, E, H => ∃ G, Pick (mark D) H G ∧ fpost P fn R .ret E G
  | _, _, _ => False

section
variable {P : Program} {n f : Nat} {fn : Func} {E : Env} {H : Hp} {Q : Post} {R : Value → Hp → Prop}
theorem DQ.after {w w1 : World} {H1 : Hp} (ht : Trk w w1 H H1) {e : Exit} {a : Act} {w' : World} (h : DQ P fn w1 H1 R e a w') : DQ P fn w H R e a w' :=
  let ⟨m0, E2, H2, D, v, L, m1, m2, m3, m4⟩ := h; ⟨m0, E2, H2, D, v, L, m1, m2, ht.trans m3, m4⟩
theorem d_seq {x y : Code} (h : SC P n x E H (fun e E' H' => e = .normal ∧ SDf P fn n y E' H' R)) : SDf P fn n (.seq x y) E H R := by
  intro a w h1 h2 h3 h4
  refine wpIn_seq (wpIn_mono (h a w h1 h2 h3 h4 fun e => by cases e) ?_)
  rintro e a' w' ⟨E', H', k1, k2, k3, k4, k5, k6⟩
  subst k5
  exact wpIn_mono (k6 a' w' k1 k2 k3 k4.ok) fun e a2 w2 hh => hh.after k4
theorem d_seq2 {x b y : Code} (h : SC P n x E H (fun e E' H' => e = .normal ∧ SDk P fn n b y E' H' R)) : SDf P fn n (.seq (.seq x b) y) E H R := by
  intro a w h1 h2 h3 h4
  refine wpIn_seq (wpIn_seq (wpIn_mono (h a w h1 h2 h3 h4 fun e => by cases e) ?_))
  rintro e a' w' ⟨E', H', k1, k2, k3, k4, k5, k6⟩
  subst k5
  refine wpIn_mono (k6 a' w' k1 k2 k3 k4.ok) fun e a2 w2 hh => ?_
  cases e with
  | normal => exact wpIn_mono hh fun e a3 w3 h3 => h3.after k4
  | _ => exact DQ.after k4 hh

theorem fn_enterD {c : Code} {args : List Value} (hf : P.funcs[f]? = some fn) (hn : fn.ntmps = n) (hb : fn.body = some c) (hl : args.length ≤ n) (h : SDf P fn n c (argEnv 0 args) H R) : Does P f args H R := by
  intro w hw
  refine callsIn_wide.1 (callsIn_of_wp_marks (n := 0) hf hb trivial (wpIn_mono (h { tmps := args.toArray ++ Array.replicate (fn.ntmps - args.toArray.size) undef, defers := [] } w ?_ ?_ rfl hw) ?_))
  · intro i v hv
    obtain ⟨_, h2⟩ := argEnv_fnd args 0 i v hv
    have hi : i < args.length := (List.getElem?_eq_some_iff.1 (by simpa using h2)).1
    simp only [Array.getD_eq_getD_getElem?]
    rw [Array.getElem?_append_left (by simpa using hi)]
    have h2' : args[i]? = some v := by simpa using h2
    simp [h2']
  · simp; omega
  · rintro e a' w' ⟨k0, E', H', D, v, L, k1, k2, k3, G, F, k4, k5, k6, k7⟩
    have hp : H'.Perm (mark D :: G) := k4.perm
    have t1 : Trk w w' H (mark D :: G) := k3.sub (k3.ok.perm hp) (fun x hx => hp.mem_iff.2 hx)
    have hD := t1.ok.here _ (List.mem_cons_self)
    have t2 := trk_setO (b := D) (o' := .deferred none) t1.ok .here (fun _ _ _ e => nomatch e) (fun _ _ _ e => nomatch e)
    have t3 := t1.trans t2
    have t4 : Trk w (w'.putObj D (.deferred none)) H G := t3.drop .here
    have fin : LeavesInM Fence.wide 0 P fn a'.tmps (fun e w'' => ∃ v H', e = .returned v ∧ R v H' ∧ Trk w w'' H H') a'.defers .returning w' := by
      rw [k2]
      exact ⟨(fun e => nomatch e), .inl ⟨D, _, rfl, run_takeDeferred hD, v, k6 _ _ k1 t4.ok, v, L, rfl, k7, t4.split k5⟩⟩
    rcases k0 with rfl | rfl
    · exact fin
    · exact fin

theorem pkD {D : Nat} {H G : Hp} {fn : Func} {R : Value → Hp → Prop} (k : fpost P fn R .ret E G) (h : Pick (mark D) H G := by repeat (first | exact Pick.here | apply Pick.there | apply Pick.app)) : ∃ G, Pick (mark D) H G ∧ fpost P fn R .ret E G := ⟨G, h, k⟩
/-- THE RANGE, with what comes behind it. -/
theorem d_range {i g : Nat} {gf : FuncId} {ps : Array Tmp} {asg bd y : Code} {fi : List Value} {L F : Hp} {R1 : Hp → Prop} [he : Ent P gf]
    (hg : fnd E g = some (.func (.func gf) fi.toArray #[])) (hs : Split H L F)
    (hf : ∀ (D l : Nat) (f0 : FuncId) (tm : Array Value), EnvOk E { tmps := tm, defers := [] } → tm.size = n →
      Does P gf (fi ++ [.func (.yield l) #[] #[]]) ((l, true, .loop ⟨.ready, none, f0, tm, ps, asg, bd, D⟩) :: L) (fun _ Y => ∃ st M, Y = (l, true, .loop ⟨st, none, f0, tm, ps, asg, bd, D⟩) :: M ∧ st ≠ .busy ∧ R1 M))
    (k : ∀ (rg : Rg) (D : Nat) (M : Hp), R1 M → SC P n y E (mark D :: (M ++ F)) (fpostD P fn R D)) :
    SDk P fn n (.block i (.rangeFunc (.tmp g) ps asg bd)) y E H R := by
  intro a w h1 h2 h3 h4
  refine wpIn_block (wpIn_rangeFunc fun f0 _ => ?_)
  have t1 := trk_newO h4 (o := .deferred (some [])) (fun _ _ _ e => nomatch e)
  have t2 := trk_newO t1.ok (o := .loop ⟨.ready, none, f0, a.tmps, ps, asg, bd, w.heap.size⟩) (fun _ _ _ e => nomatch e)
  have hsz : (w.alloc (.deferred (some []))).heap.size = w.heap.size + 1 := Array.size_push ..
  rw [hsz] at t2
  obtain ⟨W, hW⟩ : ∃ W, W = (w.alloc (.deferred (some []))).alloc (.loop ⟨.ready, none, f0, a.tmps, ps, asg, bd, w.heap.size⟩) := ⟨_, rfl⟩
  rw [← hW] at t2
  have hgv : a.eval (.tmp g) = .func (.func gf) fi.toArray #[] := h1 g _ hg
  have hen := run_enterLoop_outer (P := P) (w := w) f0 a.tmps ps asg bd
  rw [← hW] at hen
  refine ⟨w.heap.size + 1, [⟨.collected w.heap.size, #[]⟩], W, ⟨.fn (.func gf) #[], (fi ++ [Value.func (.yield (w.heap.size + 1)) #[] #[]]).toArray⟩, W, gf, (fi ++ [Value.func (.yield (w.heap.size + 1)) #[] #[]]).toArray, W,
    hen, ?_, fun _ _ => trivial, ?_, fun e => (by cases e), ?_⟩
  · have hc : ∀ v, a.eval (.const v) = v := fun _ => rfl
    simp [resolve, rangeCall, hgv, hc, Deferred.ofValue, Sem.run_bind, Sem.run_pure, Result.andThen_ok]
  · have := he.eq (fi ++ [Value.func (.yield (w.heap.size + 1)) #[] #[]]).toArray W
    simpa [invoke] using this
  · refine callsIn_wide.2 ?_
    have hp := hs.perm
    -- what the function has, and what it has not
    have hok2 := t2.ok.perm ((List.Perm.cons _ ((List.Perm.cons _ hp).trans (List.perm_middle (l₁ := L) (a := mark w.heap.size) (l₂ := F)).symm)))
    have hok3 : HpOk (((w.heap.size + 1, true, Obj.loop ⟨.ready, none, f0, a.tmps, ps, asg, bd, w.heap.size⟩) :: L) ++ (mark w.heap.size :: F)) W := hok2
    refine (hf w.heap.size (w.heap.size + 1) f0 a.tmps (by exact h1) h2 W hok3.left).mono ?_
    rintro e W2 ⟨v, Y, rfl, ⟨st, M, rfl, hst, hR1⟩, ht⟩
    have t3 := ht.frame hok3
    have tp : Trk w W H (((w.heap.size + 1, true, Obj.loop ⟨.ready, none, f0, a.tmps, ps, asg, bd, w.heap.size⟩) :: L) ++ (mark w.heap.size :: F)) := (t1.trans t2).sub hok3 (fun x hx => by
      have := (List.Perm.cons (w.heap.size + 1, true, Obj.loop ⟨.ready, none, f0, a.tmps, ps, asg, bd, w.heap.size⟩) ((List.Perm.cons (mark w.heap.size) hp).trans (List.perm_middle (l₁ := L) (a := mark w.heap.size) (l₂ := F)).symm)).mem_iff (a := x)
      exact this.2 hx)
    have t4 := tp.trans t3
    have hl := t4.ok.here _ (List.mem_cons_self)
    have t5 := trk_setO (b := w.heap.size + 1) (o' := .loop ⟨.exhausted, none, f0, a.tmps, ps, asg, bd, w.heap.size⟩) t4.ok .here (fun _ _ _ e => nomatch e) (fun _ _ _ e => nomatch e)
    have t6 := (t4.trans t5).drop .here
    have hpm : (M ++ mark w.heap.size :: F).Perm (mark w.heap.size :: (M ++ F)) := List.perm_middle
    have t7 := t6.sub (t6.ok.perm hpm) (fun x hx => hpm.mem_iff.2 hx)
    refine ⟨none, _, run_endLoop hl hst, ?_⟩
    show y.wpIn Fence.wide 0 P _ _ _
    let rg : Rg := ⟨[⟨.collected w.heap.size, #[]⟩], none⟩
    have hk := k rg w.heap.size M hR1 { a with defers := [⟨.collected w.heap.size, #[]⟩] ++ a.defers } _ h1 h2 (by rw [h3]; rfl) t7.ok (fun e => by cases e)
    refine wpIn_mono (F := Fence.wide) hk ?_
    rintro e a2 w2 ⟨E2, H2, m1, m2, m3, m4, m5⟩
    cases e with
    | normal => obtain ⟨G, q1, v, L2, F3, q2, q3, q4⟩ := m5; exact ⟨.inl rfl, E2, H2, _, v, L2, m1, m3, t7.trans m4, G, F3, q1, q3, q2, q4⟩
    | ret => obtain ⟨G, q1, v, L2, F3, q2, q3, q4⟩ := m5; exact ⟨.inr rfl, E2, H2, _, v, L2, m1, m3, t7.trans m4, G, F3, q1, q3, q2, q4⟩
    | _ => exact m5.elim
end
end Go.K
end
section
/- The segments of a log: the walk that a range over them makes. -/
namespace Go.Proofs.YtkfcpjohblddmaaGreat
open Go.K
set_option linter.unusedVariables false
set_option linter.unusedSimpArgs false
instance ent30 : Ent Tryz.prog 30 := ⟨fun _ _ => by kernel_rfl⟩
set_option maxRecDepth 20000
set_option maxHeartbeats 1000000
section
variable {n k : Nat} {q : Qt} {lg bb nb : Nat} {last : Int} {bs : List LB} {dk : Nat}
theorem used_fn {I : Nat → Hp → Prop} {l f0 D : Nat} {tm : Array Value} {ps : Array Tmp} {sg bd : Code} {X0 : Hp} (hl : bs.length = nb) (hn : nb ≤ 1000) (hps : ps.size = 1) (h0 : I 0 X0)
    (hskip : ∀ j X, j < nb → (bAt bs j).seq.toNat = 0 → I j X → I (j + 1) X)
    (hrnd : ∀ j X, j < nb → (bAt bs j).seq.toNat ≠ 0 → I j X → Rnd Tryz.prog l f0 (tmpsOf ⟨.ready, none, f0, tm, ps, sg, bd, D⟩ [.int .i64 (j : Nat)]) sg bd ((l, true, .loop ⟨.ready, none, f0, tm, ps, sg, bd, D⟩) :: (lg, true, C (lgC dk bb nb last) tLg) :: (bb, true, C (lbs bs) tLB) :: (X ++ []))
      (fun v Y => v = .bool true ∧ ∃ X', Y = (l, true, .loop ⟨.ready, none, f0, tm, ps, sg, bd, D⟩) :: (lg, true, C (lgC dk bb nb last) tLg) :: (bb, true, C (lbs bs) tLB) :: (X' ++ []) ∧ I (j + 1) X')) :
    Does Tryz.prog 30 [ptr lg, .func (.yield l) #[] #[]] ((l, true, .loop ⟨.ready, none, f0, tm, ps, sg, bd, D⟩) :: (lg, true, C (lgC dk bb nb last) tLg) :: (bb, true, C (lbs bs) tLB) :: (X0 ++ []))
      (fun v Y => v = .tuple #[] ∧ ∃ X, Y = (l, true, .loop ⟨.ready, none, f0, tm, ps, sg, bd, D⟩) :: (lg, true, C (lgC dk bb nb last) tLg) :: (bb, true, C (lbs bs) tLB) :: (X ++ []) ∧ I nb X) := by
  refine fn_enter (n := 26) Tryz.func30 Tryz.ntmps30 rfl (Nat.le_of_ble_eq_true rfl) <| s_seq <| s_region0 fun ops => oM rfl <| oN rfl <| oF rfl ?_
  refine oR (rd_ld rfl mM rfl) ?_
  refine oR (rd_lenS rfl) <| oM rfl <| o_nil <| n_K <| s_block ?_
  refine s_loop2 [1, 9, 10] kQ (fun (st : Nat × Hp) => [(11, .int .i64 st.1)]) (fun (st : Nat × Hp) => (l, true, .loop ⟨.ready, none, f0, tm, ps, sg, bd, D⟩) :: (lg, true, C (lgC dk bb nb last) tLg) :: (bb, true, C (lbs bs) tLB) :: (st.2 ++ [])) (fun (st : Nat × Hp) => st.1 ≤ nb ∧ I st.1 st.2) (fun (st : Nat × Hp) => nb - st.1) ((0, X0)) ⟨Nat.zero_le _, h0⟩ kP sP ?_
  rintro ⟨i, X⟩ ⟨g0, gI⟩
  simp only at g0 gI
  refine s_seq <| s_region0 fun ops => oR (rd_bin rfl rfl rfl) <| o_nil <| n_K <| s_seq ?_
  refine s_cond rfl (fun c12 => ?_) (fun c12 => ?_)
  · simp only [decide_eq_true_eq, decide_eq_false_iff_not] at c12
    have hi : i < nb := (by omega)
    have hgi : bs[i]? = some (bAt bs i) := bAt_in (by omega)
    refine s_skip <| n_K <| s_seq <| s_block <| s_seq <| s_region0 fun ops => oM rfl ?_
    refine oR (rd_ixS0 rfl rfl (by omega)) ?_
    refine oR (rd_ldA rfl mM (by simp only [Int.toNat_natCast]; exact lb_cut hgi)) ?_
    refine o_alloc rfl fun b5 => ?_
    refine oA rfl ?_
    refine o_store rfl rfl uD rfl rfl rfl ?_
    refine o_nil <| n_K ?_
    refine s_join (fun F L => ∃ X', F = [(1, .func (.yield l) #[] #[]), (9, .slice (some ⟨bb, 0, none⟩) nb nb), (10, .int .i64 nb), (11, .int .i64 i), (24, .bool false)] ∧ L = (l, true, .loop ⟨.ready, none, f0, tm, ps, sg, bd, D⟩) :: (lg, true, C (lgC dk bb nb last) tLg) :: (bb, true, C (lbs bs) tLB) :: (X' ++ []) ∧ I (i + 1) X') ?_ ?_
    · refine s_regionY [(3, 19)] rfl (fun ops y => y_take 4 ?_)
      refine oF rfl ?_
      refine oR (rd_ld rfl mM rfl) ?_
      refine oR (rd_bin rfl rfl rfl) <| oM rfl <| o_nil ⟨rfl, ?_⟩
      by_cases hq : (bAt bs i).seq.toNat = 0
      · refine y_env (F := [(1, .func (.yield l) #[] #[]), (9, .slice (some ⟨bb, 0, none⟩) nb nb), (10, .int .i64 nb), (11, .int .i64 i), (4, .int .i64 i), (19, .bool false)] ) (.cons rfl <| .cons rfl <| .cons rfl <| .cons rfl <| .cons rfl <| .cons (by show some (Value.bool (decide _)) = _; rw [decide_eq_false (by omega)]) .nil) ?_
        refine y_take 5 ?_
        refine o_gn y rfl rfl rfl rfl <| o_gn y rfl rfl rfl rfl <| o_gn y rfl rfl rfl rfl <| o_gn y rfl rfl rfl rfl <| oR (rd_pickF rfl rfl) <| o_nil ⟨rfl, y_nil <| n_K ?_⟩
        exact ⟨_, _, ⟨X, rfl, rfl, hskip i X hi hq gI⟩, jZ⟩
      · refine y_env (F := [(1, .func (.yield l) #[] #[]), (9, .slice (some ⟨bb, 0, none⟩) nb nb), (10, .int .i64 nb), (11, .int .i64 i), (4, .int .i64 i), (19, .bool true)] ) (.cons rfl <| .cons rfl <| .cons rfl <| .cons rfl <| .cons rfl <| .cons (by show some (Value.bool (decide _)) = _; rw [decide_eq_true (by omega)]) .nil) ?_
        refine y_take 2 ?_
        refine o_g y rfl rfl <| oM rfl <| o_g y rfl rfl <| oM rfl <| o_nil ⟨rfl, ?_⟩
        refine y_yield (r := ⟨.ready, none, f0, tm, ps, sg, bd, D⟩) y rfl rfl rfl (by simp [hps]) sP (hrnd i X hi hq gI) rfl ?_
        rintro v L' ⟨rfl, X', rfl, gI'⟩
        refine y_take 2 ?_
        refine o_g y rfl rfl <| oR (rd_not rfl) <| oR (rd_pickT rfl rfl) <| o_nil ⟨rfl, y_nil <| n_K ?_⟩
        exact ⟨_, _, ⟨X', rfl, rfl, gI'⟩, jZ⟩
    · rintro F L ⟨X', rfl, rfl, gI'⟩
      refine s_condF rfl ?_
      refine s_skip <| n_blk <| n_K <| s_region0 fun ops => ?_
      refine oR (rd_add64 rfl rfl (by omega)) ?_
      refine oM rfl <| o_nil <| n_K ?_
      exact ⟨(i + 1, X'), ⟨by simp only; omega, gI'⟩, (by simp only; omega), lZ⟩
  · simp only [decide_eq_true_eq, decide_eq_false_iff_not] at c12
    have hi : i = nb := (by omega)
    subst hi
    refine s_exit <| x_K <| x_K <| x_blk ?_
    exact leaf_rN (ret0 Tryz.results30) (by exact ⟨rfl, _, rfl, gI⟩) sP
end
end Go.Proofs.YtkfcpjohblddmaaGreat
end
section
/- The segments of a log: sorted by their numbers. -/
namespace Go.Proofs.YtkfcpjohblddmaaGreat
open Go.K
set_option linter.unusedVariables false
set_option linter.unusedSimpArgs false
instance und38 : Und Tryz.prog 38 (.slice 48) := ⟨Tryz.underlying38⟩
instance agg38 : Agg Tryz.prog 38 false := ⟨⟨_, Tryz.underlying38, rfl⟩⟩
instance siz38 : Siz Tryz.prog 38 1 := ⟨by kernel_rfl⟩
instance agg48 : Agg Tryz.prog 48 true := ⟨⟨_, Tryz.underlying48, rfl⟩⟩
instance siz48 : Siz Tryz.prog 48 4 := ⟨by kernel_rfl⟩
instance fld48_1 : Fld Tryz.prog 48 1 1 := ⟨⟨_, _, 0, Tryz.underlying48, rfl, by kernel_rfl, rfl⟩⟩
instance ent33 : Ent Tryz.prog 33 := ⟨fun _ _ => by kernel_rfl⟩
instance ent34 : Ent Tryz.prog 34 := ⟨fun _ _ => by kernel_rfl⟩
instance ent52 : Ent Tryz.prog 52 := ⟨fun _ _ => by kernel_rfl⟩
instance ent54 : Ent Tryz.prog 54 := ⟨fun _ _ => by kernel_rfl⟩
instance ent84 : Ent Tryz.prog 84 := ⟨fun _ _ => by kernel_rfl⟩
set_option maxRecDepth 20000
set_option maxHeartbeats 1000000
abbrev tSeg : TypeId := 48
abbrev tPl2 : TypeId := 26
abbrev Pl2 := Int × Int
instance : Cel Pl2 := ⟨2, fun p => [.int .i64 p.1, .int .i64 p.2], fun _ => rfl, fun _ => rfl⟩
/-- A segment, as a log tells it. -/
structure Seg where
  b : Int
  seq : Wd
  wear : Wd
  recs : Sl Pl2
def segC (s : Seg) : List Value := [.int .i64 s.b, wv s.seq, wv s.wear, s.recs.val]
instance : Cel Seg := ⟨4, segC, fun _ => rfl, fun _ => rfl⟩
def sg0 : Seg := ⟨0, 0, 0, .nil⟩
def sgAt (xs : List Seg) (i : Int) : Seg := xs.getD i.toNat sg0
theorem sgAt_get {xs : List Seg} {i : Int} (h0 : 0 ≤ i) (h1 : i < xs.length) : xs[i.toNat]? = some (sgAt xs i) := by
  have : i.toNat < xs.length := by omega
  simp [sgAt, List.getD_eq_getElem?_getD, this]
abbrev key (s : Seg) : Nat := s.seq.toNat

theorem nanU_fn {x : Wd} : Does Tryz.prog 54 [wv x] [] (Is (.bool false) []) := by
  refine fn_enter (n := 6) Tryz.func54 Tryz.ntmps54 rfl (Nat.le_of_ble_eq_true rfl) <| s_seq <| s_region0 fun ops => oA rfl <| o_nil <| n_K <| s_seq <| s_region0 fun ops => oM rfl <| oM rfl <| oR (rd_bin rfl rfl rfl) <| oA rfl <| o_nil <| n_K ?_
  refine s_ret ?_
  refine leaf_is (rets1 Tryz.results54 (rv_tmp rfl)) ?_ sP
  simp
def cmpU (x y : Nat) : Int := if x < y then -1 else if y < x then 1 else 0
theorem compare_fn {x y : Wd} : Does Tryz.prog 34 [wv x, wv y] [] (Is (.int .i64 (cmpU x.toNat y.toNat)) []) := by
  refine fn_enter (n := 20) Tryz.func34 Tryz.ntmps34 rfl (Nat.le_of_ble_eq_true rfl) <| s_seq <| s_region0 fun ops => oA rfl <| o_nil <| n_K <| s_seq <| s_region0 fun ops => oM rfl ?_
  refine c_is rfl (nanU_fn) sP rfl aQ ?_
  refine oA rfl <| o_nil <| n_K <| s_seq <| s_region0 fun ops => oM rfl ?_
  refine c_is rfl (nanU_fn) sP rfl aQ ?_
  refine oA rfl <| o_nil <| n_K <| s_seq <| s_seq <| s_region0 fun ops => oM rfl <| o_nil <| n_K ?_
  refine s_condF rfl ?_
  refine s_skip <| n_K <| s_seq <| s_seq <| s_region0 fun ops => oM rfl <| o_nil <| n_K ?_
  refine s_condF rfl ?_
  refine s_skip <| n_K <| s_seq <| s_seq <| s_region0 fun ops => oM rfl <| oM rfl <| oR (rd_bin rfl rfl rfl) <| o_nil <| n_K ?_
  refine s_cond rfl (fun c16 => ?_) (fun c16 => ?_)
  · simp only [decide_eq_true_eq, decide_eq_false_iff_not] at c16
    refine s_seq <| s_region0 fun ops => oA rfl <| o_nil <| n_K <| s_ret <| r_K ?_
    refine leaf_is (rets1 Tryz.results34 (rv_tmp rfl)) ?_ sP
    unfold cmpU; first | rw [if_pos (by omega)] | rw [if_neg (by omega), if_pos (by omega)] | rw [if_neg (by omega), if_neg (by omega)]
  · simp only [decide_eq_true_eq, decide_eq_false_iff_not] at c16
    refine s_skip <| n_K <| s_seq <| s_seq <| s_region0 fun ops => oM rfl <| oM rfl <| oR (rd_bin rfl rfl rfl) <| o_nil <| n_K ?_
    refine s_cond rfl (fun c19 => ?_) (fun c19 => ?_)
    · simp only [decide_eq_true_eq, decide_eq_false_iff_not] at c19
      refine s_seq <| s_region0 fun ops => oA rfl <| o_nil <| n_K <| s_ret <| r_K ?_
      refine leaf_is (rets1 Tryz.results34 (rv_tmp rfl)) ?_ sP
      unfold cmpU; first | rw [if_pos (by omega)] | rw [if_neg (by omega), if_pos (by omega)] | rw [if_neg (by omega), if_neg (by omega)]
    · simp only [decide_eq_true_eq, decide_eq_false_iff_not] at c19
      refine s_skip <| n_K <| s_seq <| s_region0 fun ops => oA rfl <| o_nil <| n_K <| s_ret ?_
      refine leaf_is (rets1 Tryz.results34 (rv_tmp rfl)) ?_ sP
      unfold cmpU; first | rw [if_pos (by omega)] | rw [if_neg (by omega), if_pos (by omega)] | rw [if_neg (by omega), if_neg (by omega)]
theorem cmpSeg_fn {x y : Seg} : Does Tryz.prog 33 [.agg (segC x).toArray, .agg (segC y).toArray] [] (Is (.int .i64 (cmpU (key x) (key y))) []) := by
  refine fn_enter (n := 10) Tryz.func33 Tryz.ntmps33 rfl (Nat.le_of_ble_eq_true rfl) <| s_seq <| s_region0 fun ops => ?_
  refine o_box rfl rfl fun b2 => ?_
  refine o_box rfl rfl fun b3 => ?_
  refine oA rfl <| o_nil <| n_K <| s_seq <| s_region0 fun ops => oF rfl ?_
  refine oR (rd_ld rfl mM rfl) ?_
  refine oF rfl ?_
  refine oR (rd_ld rfl mM rfl) ?_
  refine c_is rfl (compare_fn) sP rfl aQ ?_
  refine oA rfl <| o_nil <| n_K <| s_ret ?_
  refine leaf_is (rets1 Tryz.results33 (rv_tmp rfl)) ?_ sP
  rfl
theorem swapG {α : Type} {l : List α} {i j : Nat} {a b : α} (hi : l[i]? = some a) (hj : l[j]? = some b) : ((l.set i b).set j a).Perm l := by
  obtain ⟨h1, rfl⟩ := List.getElem?_eq_some_iff.1 hi
  obtain ⟨h2, rfl⟩ := List.getElem?_eq_some_iff.1 hj
  exact List.set_set_perm h1 h2
/-- Sorted up to i, but for what stands at j. -/
def SortB (xs : List Seg) (i j : Int) : Prop := ∀ a b : Int, 0 ≤ a → a < b → b ≤ i → b ≠ j → key (sgAt xs a) ≤ key (sgAt xs b)
def SortTo (xs : List Seg) (i : Int) : Prop := ∀ a b : Int, 0 ≤ a → a < b → b < i → key (sgAt xs a) ≤ key (sgAt xs b)
theorem sgAt_set {xs : List Seg} {i a : Int} {x : Seg} (h0 : 0 ≤ i) (h1 : i < xs.length) (ha : 0 ≤ a) : sgAt (xs.set i.toNat x) a = if a = i then x else sgAt xs a := by
  unfold sgAt
  simp only [List.getD_eq_getElem?_getD, List.getElem?_set]
  by_cases h : a = i
  · subst h
    have : a.toNat < xs.length := by omega
    simp [this]
  · rw [if_neg h, if_neg (by omega)]
theorem SortB.step {xs : List Seg} {i j : Int} (h : SortB xs i j) (hj : 0 < j) (hi : j ≤ i) (hl : i < xs.length) (hk : key (sgAt xs j) < key (sgAt xs (j - 1))) :
    SortB ((xs.set j.toNat (sgAt xs (j - 1))).set (j - 1).toNat (sgAt xs j)) i (j - 1) := by
  intro a b ha hab hb hne
  have e : ∀ c : Int, 0 ≤ c → sgAt ((xs.set j.toNat (sgAt xs (j - 1))).set (j - 1).toNat (sgAt xs j)) c = if c = j - 1 then sgAt xs j else if c = j then sgAt xs (j - 1) else sgAt xs c := fun c hc => by
    rw [sgAt_set (by omega) (by rw [List.length_set]; omega) hc, sgAt_set (by omega) (by omega) hc]
  rw [e a ha, e b (by omega)]
  have hb1 : ¬ b = j - 1 := hne
  rw [if_neg hb1]
  by_cases h1 : b = j
  · subst h1
    rw [if_pos rfl]
    by_cases h2 : a = b - 1
    · rw [if_pos h2]; omega
    · rw [if_neg h2, if_neg (by omega)]
      exact h a (b - 1) ha (by omega) (by omega) (by omega)
  · rw [if_neg h1]
    by_cases h2 : a = j - 1
    · rw [if_pos h2]
      exact h j b (by omega) (by omega) hb h1
    · rw [if_neg h2]
      by_cases h3 : a = j
      · rw [if_pos h3]
        exact h (j - 1) b (by omega) (by omega) hb h1
      · rw [if_neg h3]
        exact h a b ha hab hb h1
theorem SortB.done {xs : List Seg} {i j : Int} (h : SortB xs i j) (h0 : 0 ≤ j) (hk : 0 < j → key (sgAt xs (j - 1)) ≤ key (sgAt xs j)) : SortTo xs (i + 1) := by
  intro a b ha hab hb
  by_cases h1 : b = j
  · subst h1
    have hk' := hk (by omega)
    by_cases h2 : a = b - 1
    · rw [h2]; exact hk'
    · exact Nat.le_trans (h a (b - 1) ha (by omega) (by omega) (by omega)) hk'
  · exact h a b ha hab (by omega) h1

theorem cmpU_lt {a b : Nat} : cmpU a b < 0 ↔ a < b := by
  unfold cmpU
  split
  · simp; omega
  · split <;> simp <;> omega
theorem SortTo.fin {xs : List Seg} {i : Int} {n : Nat} (h : SortTo xs i) (h0 : 1 ≤ i) (h5 : i ≤ n ∨ i = 1) (hc : ¬ i < n) : SortTo xs n := by
  intro a b ha hab hb
  rcases h5 with h5 | h5
  · exact h a b ha hab (by omega)
  · omega
theorem insertS_fn {s : Sl Seg} (ho : s.isOwn = true) : Does Tryz.prog 84 [s.val, .int .i64 0, .int .i64 s.list.length, .func (.func 33) #[] #[]] (s.hp tSeg ++ [])
    (fun v H => v = .tuple #[] ∧ ∃ s' : Sl Seg, H = s'.hp tSeg ++ [] ∧ s'.val = s.val ∧ s'.isOwn = true ∧ s'.list.Perm s.list ∧ SortTo s'.list s.list.length) := by
  have hsm := s.small
  refine fn_enter (n := 53) Tryz.func84 Tryz.ntmps84 rfl (Nat.le_of_ble_eq_true rfl) <| s_seq <| s_region0 fun ops => oM rfl ?_
  refine oR (rd_add64 rfl rfl (by omega)) ?_
  refine oA rfl <| o_nil <| n_K <| s_block ?_
  refine s_loop2 [0, 1, 2, 3] kQ (fun (st : Int × Sl Seg) => [(8, .int .i64 st.1)]) (fun (st : Int × Sl Seg) => (st.2.hp tSeg ++ [])) (fun (st : Int × Sl Seg) => 1 ≤ st.1 ∧ st.2.val = s.val ∧ st.2.isOwn = true ∧ st.2.list.Perm s.list ∧ SortTo st.2.list st.1 ∧ (st.1 ≤ s.list.length ∨ st.1 = 1)) (fun (st : Int × Sl Seg) => ((s.list.length : Int) - st.1).toNat) ((0 + 1, s)) ⟨by show (1 : Int) ≤ 0 + 1; omega, rfl, ho, List.Perm.refl _, fun a b h1 h2 h3 => by simp only at h3; omega, .inr rfl⟩ kP sP ?_
  rintro ⟨i, s1⟩ ⟨h0, h1, h2, h3, h4, h5⟩
  simp only at h0 h1 h2 h3 h4 h5
  refine s_seq <| s_seq <| s_region0 fun ops => oM rfl <| oM rfl <| oR (rd_bin rfl rfl rfl) <| o_nil <| n_K ?_
  refine s_cond rfl (fun c14 => ?_) (fun c14 => ?_)
  · simp only [decide_eq_true_eq, decide_eq_false_iff_not] at c14
    refine s_skip <| n_K <| s_seq <| s_block <| s_seq <| s_region0 fun ops => oM rfl <| oA rfl <| o_nil <| n_K <| s_block ?_
    refine s_loop2 [0, 1, 2, 3, 8] kQ (fun (st : Int × Sl Seg) => [(9, .int .i64 st.1)]) (fun (st : Int × Sl Seg) => (st.2.hp tSeg ++ [])) (fun (st : Int × Sl Seg) => 0 ≤ st.1 ∧ st.1 ≤ i ∧ st.2.val = s.val ∧ st.2.isOwn = true ∧ st.2.list.Perm s.list ∧ SortB st.2.list i st.1) (fun (st : Int × Sl Seg) => st.1.toNat) ((i, s1)) ⟨by omega, Int.le_refl _, h1, h2, h3, fun a b ha hab hb hne => h4 a b ha hab (by omega)⟩ kP sP ?_
    rintro ⟨j, s2⟩ ⟨k0, k1, k2, k3, k4, k5⟩
    simp only at k0 k1 k2 k3 k4 k5
    have hlen : s2.list.length = s.list.length := k4.length_eq
    have hoff := off_own k3
    refine s_seq <| s_seq ?_
    refine s_draw [(3, 21)] [(3, [(0, false), (1, false), (2, false)]), (17, [(3, false), (4, false), (5, false), (6, false), (7, false), (8, false), (9, false), (10, false), (11, false), (12, false), (13, false), (14, true), (15, false), (16, false)])] (by kernel_rfl) rfl fun ops w0 H0 y => ?_
    refine p_all <| xM rfl <| xM rfl <| xR (rd_bin rfl rfl rfl) <| x_nil <| p_all <| xM rfl ?_
    refine' x_and (j := 3) (k := 12) y rfl rfl rfl rfl rfl rfl rfl (fun hg21 => ?_) ?_
    rotate_left
    · try (simp at hg21; show _)
      refine x_g y rfl rfl ?_
      refine xM rfl ?_
      refine x_g y rfl rfl ?_
      refine xM rfl ?_
      refine x_g y rfl rfl ?_
      refine xM rfl ?_
      refine x_g y rfl rfl ?_
      refine xR (rd_ixSl (s := s2) (by rw [k2]; rfl) rfl ⟨k0, by omega⟩) ?_
      refine x_g y rfl rfl ?_
      refine xR (rd_ldSlA (s := s2) (o := 0) rfl pL (sgAt_get k0 (by omega)) rfl rfl) ?_
      refine x_g y rfl rfl ?_
      refine xM rfl ?_
      refine x_g y rfl rfl ?_
      refine xM rfl ?_
      refine x_g y rfl rfl ?_
      refine xR (rd_sub64 rfl rfl (by omega)) ?_
      refine x_g y rfl rfl ?_
      refine xR (rd_ixSl (s := s2) (by rw [k2]; rfl) rfl ⟨by omega, by omega⟩) ?_
      refine x_g y rfl rfl ?_
      refine xR (rd_ldSlA (s := s2) (o := 0) rfl pL (sgAt_get (i := j - 1) (by omega) (by omega)) rfl rfl) ?_
      refine x_g y rfl rfl ?_
      refine x_so ?_
      refine c_fis (fi := []) (ca := []) rfl rfl (cmpSeg_fn (x := sgAt s2.list j) (y := sgAt s2.list (j - 1))) sP rfl aQ ?_
      refine o_nil ⟨rfl, ⟨_, sP⟩, ?_⟩
      refine x_g y rfl rfl ?_
      refine xR (rd_bin rfl rfl rfl) ?_
      exact x_nil ⟨rfl, ⟨_, sP⟩⟩
    refine x_nil <| p_end <| n_K ?_
    refine s_cond rfl (fun c34 => ?_) (fun c34 => ?_)
    · skip
      have hj : 0 < j := (by simp at c34; exact c34.1)
      have hkk : key (sgAt s2.list j) < key (sgAt s2.list (j - 1)) := (by simp only [Bool.and_eq_true, decide_eq_true_eq, cmpU_lt] at c34; exact c34.2)
      have ga := sgAt_get (xs := s2.list) k0 (by omega)
      have gb := sgAt_get (xs := s2.list) (i := j - 1) (by omega) (by omega)
      obtain ⟨s3, hs3⟩ : ∃ s3, s3 = s2.set j.toNat (sgAt s2.list (j - 1)) := ⟨_, rfl⟩
      have q1 : s3.val = s.val := (by rw [hs3, Sl.set_val, k2])
      have q2 : s3.list = s2.list.set j.toNat (sgAt s2.list (j - 1)) := (by rw [hs3, Sl.set_list _ _ _ k3])
      have q3 : s3.isOwn = true := (by rw [hs3]; exact Sl.set_isOwn _ _ _ k3)
      have q4 : s3.list[(j - 1).toNat]? = some (sgAt s2.list (j - 1)) := (by rw [q2, List.getElem?_set_ne (by omega)]; exact gb)
      refine s_skip <| n_K <| s_seq <| s_block ?_
      refine s_drawM [] [0, 1, 2, 3, 4, 5, 6, 7, 8, 10, 11, 12] [[(9, false), (13, false)], [(14, false)], [(15, true)], [(16, false)], [(17, true)]] (by kernel_rfl) rfl rfl fun ops w0 H0 y => ?_
      unfold SPre
      refine xM rfl <| xM rfl <| xM rfl <| xM rfl ?_
      refine xR (rd_sub64 rfl rfl (by omega)) ?_
      refine xM rfl <| xM rfl ?_
      refine xR (rd_sub64 rfl rfl (by omega)) ?_
      refine xR (rd_ixSl (s := s2) (by rw [k2]; rfl) rfl ⟨by omega, by omega⟩) ?_
      refine xM rfl <| xM rfl ?_
      refine xR (rd_ixSl (s := s2) (by rw [k2]; rfl) rfl ⟨by omega, by omega⟩) ?_
      refine x_nil <| p_all ?_
      refine xR (rd_ldSlA (s := s2) (o := 0) rfl pL gb rfl rfl) ?_
      refine xR (rd_ldSlA (s := s2) (o := 0) rfl pL ga rfl rfl) ?_
      refine x_nil <| p_all ?_
      refine xR (rd_ixSl (s := s2) (by rw [k2]; rfl) rfl ⟨by omega, by omega⟩) ?_
      refine x_nil <| p_none <| x_so ?_
      first | (refine o_storeSl (s := s2) (o := 0) (z' := sgAt s2.list (j - 1)) rfl rfl uL k3 ga rfl rfl rfl (by rw [hoff]; exact Nat.zero_add _) ?_; rw [← hs3]) | refine o_storeSl (s := s3) (o := 0) (z' := sgAt s2.list j) rfl rfl uL q3 q4 rfl rfl rfl (by rw [off_own q3]; exact Nat.zero_add _) ?_
      refine o_nil ⟨rfl, ⟨_, sP⟩, ?_⟩
      refine x_nil <| p_all ?_
      refine xR (rd_ixSl (s := s3) (by rw [q1]; rfl) rfl ⟨by omega, by rw [q2, List.length_set]; omega⟩) ?_
      refine x_nil <| p_none <| x_so ?_
      first | (refine o_storeSl (s := s2) (o := 0) (z' := sgAt s2.list (j - 1)) rfl rfl uL k3 ga rfl rfl rfl (by rw [hoff]; exact Nat.zero_add _) ?_; rw [← hs3]) | refine o_storeSl (s := s3) (o := 0) (z' := sgAt s2.list j) rfl rfl uL q3 q4 rfl rfl rfl (by rw [off_own q3]; exact Nat.zero_add _) ?_
      refine o_nil ⟨rfl, ⟨_, sP⟩, ?_⟩
      refine x_nil <| p_end <| n_blk <| n_K <| s_region0 fun ops => oM rfl ?_
      refine oR (rd_sub64 rfl rfl (by omega)) ?_
      refine oA rfl <| o_nil <| n_K ?_
      exact ⟨(j - 1, s3.set (j - 1).toNat (sgAt s2.list j)), ⟨by simp only; omega, by simp only; omega, by rw [Sl.set_val, q1], Sl.set_isOwn _ _ _ q3, by simp only; rw [Sl.set_list _ _ _ q3, q2]; exact (swapG ga gb).trans k4, by simp only; rw [Sl.set_list _ _ _ q3, q2]; exact k5.step hj k1 (by omega) hkk⟩, (by simp only; omega), lZ⟩
    · skip
      have hdn : SortTo s2.list (i + 1) := k5.done k0 (fun hj => by simp [cmpU_lt, hj] at c34; omega)
      refine s_exit <| x_K <| x_K <| x_blk <| n_blk <| n_K <| s_region0 fun ops => oM rfl ?_
      refine oR (rd_add64 rfl rfl (by omega)) ?_
      refine oA rfl <| o_nil <| n_K ?_
      exact ⟨(i + 1, s2), ⟨by simp only; omega, k2, k3, k4, hdn, by simp only; omega⟩, (by simp only; omega), lZ⟩
  · simp only [decide_eq_true_eq, decide_eq_false_iff_not] at c14
    refine s_exit <| x_K <| x_K <| x_blk ?_
    exact leaf_rN (ret0 Tryz.results84) (by exact ⟨rfl, s1, rfl, h1, h2, h3, h4.fin h0 h5 c14⟩) sP
theorem pdqS_fn {s : Sl Seg} {x : Int} (ho : s.isOwn = true) (hn : s.list.length ≤ 12) : Does Tryz.prog 52 [s.val, .int .i64 0, .int .i64 s.list.length, .int .i64 x, .func (.func 33) #[] #[]] (s.hp tSeg ++ [])
    (fun v H => v = .tuple #[] ∧ ∃ s' : Sl Seg, H = s'.hp tSeg ++ [] ∧ s'.val = s.val ∧ s'.isOwn = true ∧ s'.list.Perm s.list ∧ SortTo s'.list s.list.length) := by
  refine fn_enter (n := 148) Tryz.func52 Tryz.ntmps52 rfl (Nat.le_of_ble_eq_true rfl) <| s_seq <| s_region0 fun ops => oA rfl <| o_nil <| n_K <| s_seq <| s_region0 fun ops => oA rfl <| o_nil <| n_K <| s_block ?_
  refine s_loop2E [0, 1, 2, 3, 4] kQ (fun (_u : Unit) => []) (fun (_u : Unit) => True) (fun (_u : Unit) => 0) (()) (by first | trivial | omega | simp) kP ?_
  rintro _ _
  refine s_block <| s_seq <| s_region0 fun ops => oM rfl <| oM rfl ?_
  refine oR (rd_sub64 rfl rfl (by omega)) ?_
  refine oA rfl <| o_nil <| n_K <| s_seq <| s_seq <| s_region0 fun ops => oM rfl <| oR (rd_bin rfl rfl rfl) <| o_nil <| n_K ?_
  refine s_cond rfl (fun c25 => ?_) (fun c25 => ?_)
  · simp only [decide_eq_true_eq, decide_eq_false_iff_not] at c25
    refine s_seq <| s_region0 fun ops => oM rfl <| oM rfl <| oM rfl <| oM rfl ?_
    refine c_ex rfl (insertS_fn ho) sP rfl fun v30 Y30 h30 => ?_
    obtain ⟨rfl, s30, rfl, hv30, ho30, hp30, hq30⟩ := h30
    refine so_ap aQ ?_
    refine o_nil <| n_K <| s_ret <| r_K <| r_blk <| r_K <| r_blk ?_
    exact leaf_r (ret0 Tryz.results52) (by exact ⟨rfl, s30, rfl, hv30, ho30, hp30, hq30⟩) sP
  · simp only [decide_eq_true_eq, decide_eq_false_iff_not] at c25
    omega
end Go.Proofs.YtkfcpjohblddmaaGreat
end
section
/- The segments of a log, told. -/
namespace Go.Proofs.YtkfcpjohblddmaaGreat
open Go.K
set_option linter.unusedVariables false
set_option linter.unusedSimpArgs false
instance und23 : Und Tryz.prog 23 (.pointer 36) := ⟨Tryz.underlying23⟩
instance agg23 : Agg Tryz.prog 23 false := ⟨⟨_, Tryz.underlying23, rfl⟩⟩
instance siz23 : Siz Tryz.prog 23 1 := ⟨by kernel_rfl⟩
instance und46 : Und Tryz.prog 46 (.slice 26) := ⟨Tryz.underlying46⟩
instance agg46 : Agg Tryz.prog 46 false := ⟨⟨_, Tryz.underlying46, rfl⟩⟩
instance siz46 : Siz Tryz.prog 46 1 := ⟨by kernel_rfl⟩
instance zer38 : Zer Tryz.prog 38 ([.slice none 0 0]) := ⟨by kernel_rfl⟩
instance zer48 : Zer Tryz.prog 48 ([.int .i64 0, .int .u64 0, .int .u64 0, .slice none 0 0]) := ⟨by kernel_rfl⟩
instance fld48_3 : Fld Tryz.prog 48 3 3 := ⟨⟨_, _, 0, Tryz.underlying48, rfl, by kernel_rfl, rfl⟩⟩
instance plc48 : Plc Tryz.prog 48 [(0, 1), (1, 1), (2, 1), (3, 1)] := ⟨⟨_, Tryz.underlying48, fun _ => by kernel_rfl⟩⟩
instance byt26 : Byt Tryz.prog 26 16 := ⟨by kernel_rfl⟩
instance byt48 : Byt Tryz.prog 48 48 := ⟨by kernel_rfl⟩
instance ent14 : Ent Tryz.prog 14 := ⟨fun _ _ => by kernel_rfl⟩
instance ent32 : Ent Tryz.prog 32 := ⟨fun _ _ => by kernel_rfl⟩
set_option maxRecDepth 20000
set_option maxHeartbeats 1000000
theorem sortS_fn {s : Sl Seg} (ho : s.isOwn = true) (hn : s.list.length ≤ 12) : Does Tryz.prog 32 [s.val, .func (.func 33) #[] #[]] (s.hp tSeg ++ [])
    (fun v H => v = .tuple #[] ∧ ∃ s' : Sl Seg, H = s'.hp tSeg ++ [] ∧ s'.val = s.val ∧ s'.isOwn = true ∧ s'.list.Perm s.list ∧ SortTo s'.list s.list.length) := by
  refine fn_enter (n := 14) Tryz.func32 Tryz.ntmps32 rfl (Nat.le_of_ble_eq_true rfl) <| s_seq <| s_region0 fun ops => oM rfl <| oR (rd_lenS rfl) <| oA rfl <| o_nil <| n_K <| s_region0 fun ops => oM rfl <| oM rfl <| oM rfl ?_
  refine oR (rd_convN rfl (wrapN_u .u64 rfl (by show _ < 2 ^ 64; omega))) ?_
  refine c_is rfl (len_fn (n := s.list.length) (by omega)) sP rfl aQ ?_
  refine oM rfl ?_
  refine c_ex rfl (pdqS_fn ho hn) sP rfl fun v13 Y13 h13 => ?_
  obtain ⟨rfl, s13, rfl, hv13, ho13, hp13, hq13⟩ := h13
  refine so_ap aQ ?_
  refine o_nil ?_
  exact leaf_rN (ret0 Tryz.results32) (by exact ⟨rfl, s13, rfl, hv13, ho13, hp13, hq13⟩) sP
/-- The places of a block's records, of its pages in front of i. -/
def recsN (v : Blk) (b : Int) : Nat → List Pl2
  | 0 => []
  | i + 1 => recsN v b i ++ if 2 ≤ i ∧ (getF (pgAt v i)).2.2.2 = 0 then [(b, (i : Int))] else []
theorem recsN_2 (v : Blk) (b : Int) : recsN v b 2 = [] := by simp [recsN]
theorem recsN_len (v : Blk) (b : Int) : ∀ i, (recsN v b i).length ≤ i
  | 0 => Nat.le_refl _
  | i + 1 => by
    have := recsN_len v b i
    unfold recsN
    split <;> simp <;> omega
abbrev SV := Int × Wd × Wd × List Pl2
def segV (s : Seg) : SV := (s.b, s.seq, s.wear, s.recs.list)
def segsN (V : Nat → Blk) (bs : List LB) : Nat → List SV
  | 0 => []
  | j + 1 => segsN V bs j ++ if (bAt bs j).seq.toNat = 0 then [] else [((j : Int), (bAt bs j).seq, (bAt bs j).wear, recsN (V j) j 8)]
theorem segsN_len (V : Nat → Blk) (bs : List LB) : ∀ i, (segsN V bs i).length ≤ i
  | 0 => Nat.le_refl _
  | i + 1 => by
    have := segsN_len V bs i
    unfold segsN
    split <;> simp <;> omega
def recH (l : List Seg) : Hp := l.flatMap fun s => s.recs.hp tPl2
theorem recH_add (l : List Seg) (s : Seg) : recH (l ++ [s]) = recH l ++ s.recs.hp tPl2 := by simp [recH]
abbrev tPLg : TypeId := 23
abbrev tSegs : TypeId := 38
section
variable {d : Dsk} {n k : Nat} {q : Qt} {lg bb nb : Nat} {last : Int} {V : Nat → Blk} {bs : List LB}
def SegI (d : Dsk) (V : Nat → Blk) (bs : List LB) (lg b1 b2 : Nat) (j : Nat) (X : Hp) : Prop :=
  ∃ out : Sl Seg, X = (b1, true, C [ptr lg] tPLg) :: (b2, true, C [out.val] tSegs) :: (out.hp tSeg ++ (recH out.list ++ dkH d)) ∧ out.isOwn = true ∧ out.list.map segV = segsN V bs j ∧ ∀ x ∈ out.list, x.recs.isOwn = true
theorem segments_fn (h : DD d n k V) (hnb : nb + 6 = n) (hn40 : n ≤ 40) (hl : bs.length = nb) (h12 : (segsN V bs nb).length ≤ 12) : Does Tryz.prog 14 [ptr lg] ((lg, true, C (lgC d.dk bb nb last) tLg) :: (bb, true, C (lbs bs) tLB) :: (dkH d ++ []))
    (fun v H => ∃ (s : Sl Seg) (l0 : List Seg), v = s.val ∧ H = s.hp tSeg ++ (recH l0 ++ ((lg, true, C (lgC d.dk bb nb last) tLg) :: (bb, true, C (lbs bs) tLB) :: (dkH d ++ []))) ∧ l0.Perm s.list ∧ s.isOwn = true ∧ (s.list.map segV).Perm (segsN V bs nb) ∧ SortTo s.list s.list.length ∧ ∀ x ∈ s.list, x.recs.isOwn = true) := by
  refine fn_enterD (n := 58) Tryz.func14 Tryz.ntmps14 rfl (Nat.le_of_ble_eq_true rfl) ?_
  refine d_seq ?_
  refine s_region0 fun ops => ?_
  refine o_box rfl rfl fun b1 => ?_
  refine o_alloc rfl fun b2 => ?_
  refine o_nil ?_
  refine ⟨rfl, ?_⟩
  refine d_seq2 ?_
  refine s_region0 fun ops => ?_
  refine oR (rd_ld rfl mM rfl) ?_
  refine oR (rd_func2 (fi := [.tmp 12]) (cap := []) rfl rfl) ?_
  refine o_nil ?_
  refine ⟨rfl, ?_⟩
  refine d_range (fi := [ptr lg]) (L := (lg, true, C (lgC d.dk bb nb last) tLg) :: (bb, true, C (lbs bs) tLB) :: (b1, true, C [ptr lg] tPLg) :: (b2, true, C [(Sl.nil : Sl Seg).val] tSegs) :: (dkH d ++ [])) (F := []) (R1 := fun M => ∃ X, M = (lg, true, C (lgC d.dk bb nb last) tLg) :: (bb, true, C (lbs bs) tLB) :: (X ++ []) ∧ SegI d V bs lg b1 b2 nb X) rfl sP ?_ ?_
  · intro D l f0 tm ht hsz
    refine (used_fn (dk := d.dk) (I := SegI d V bs lg b1 b2) (X0 := (b1, true, C [ptr lg] tPLg) :: (b2, true, C [(Sl.nil : Sl Seg).val] tSegs) :: dkH d) hl (by omega) rfl ⟨.nil, by rw [Sl.hp_nil]; rfl, rfl, rfl, fun x hx => nomatch hx⟩ ?_ ?_).mono ?_
    · rintro j X hj h0 ⟨out, hX, ho, hm, hr⟩
      exact ⟨out, hX, ho, by rw [hm]; show _ = segsN V bs j ++ _; rw [if_pos h0, List.append_nil], hr⟩
    rotate_left
    · rintro v Y ⟨rfl, X, rfl, hX⟩
      exact ⟨_, _, rfl, (fun e => nomatch e), X, rfl, hX⟩
    rintro j X hj hne ⟨out, rfl, ho, hm, hr⟩
    rw [show ((b1, true, C [ptr lg] tPLg) :: (b2, true, C [out.val] tSegs) :: (out.hp tSeg ++ (recH out.list ++ dkH d)) ++ [] : Hp) = (b1, true, C [ptr lg] tPLg) :: (b2, true, C [out.val] tSegs) :: (out.hp tSeg ++ (recH out.list ++ (dkH d ++ []))) by simp [List.append_assoc]]
    have hgj : bs[j]? = some (bAt bs j) := bAt_in (by omega)
    have hol : out.list.length ≤ 40 := (by have e := congrArg List.length hm; rw [List.length_map] at e; rw [e]; have := segsN_len V bs j; omega)
    refine rnd_body (n := 58) [(14, .int .i64 (j : Nat)), (1, ptr b1), (2, ptr b2)] (by rw [show tmpsOf _ _ = tm.setIfInBounds 14 (.int .i64 (j : Nat)) from by simp [tmpsOf]]; exact EnvOk.put (a := ⟨tm, []⟩) (d := 14) (v := .int .i64 (j : Nat)) ((Keep.cons rfl <| Keep.cons rfl .nil).ok ht) (by rw [hsz]; decide)) (by simp [tmpsOf, hsz]) rfl fun rg => ?_
    refine s_region0 fun ops => oA rfl <| o_nil ?_
    refine ⟨rfl, _, rfl, ?_⟩
    refine s_block <| s_seq <| s_region0 fun ops => ?_
    refine oR (rd_ld rfl mM rfl) ?_
    refine oN rfl <| oF rfl ?_
    refine oR (rd_ld rfl mM rfl) ?_
    refine oM rfl ?_
    refine oR (rd_ixS0 rfl rfl (by omega)) ?_
    refine oR (rd_ldA rfl mM (by simp only [Int.toNat_natCast]; exact lb_cut hgj)) ?_
    refine o_alloc rfl fun b4 => ?_
    refine o_store rfl rfl uD rfl rfl rfl ?_
    refine o_nil <| n_K <| s_seq <| s_region0 fun ops => oM rfl <| oF rfl ?_
    refine oR (rd_ld rfl mM rfl) ?_
    refine oF rfl ?_
    refine oR (rd_ld rfl mM rfl) ?_
    refine oR (rd_build_s rfl rfl) ?_
    refine o_alloc rfl fun b5 => ?_
    refine o_store rfl rfl uD rfl rfl rfl ?_
    refine o_nil <| n_K <| s_seq <| s_seq <| s_region0 fun ops => oA rfl <| o_nil <| n_K <| s_block ?_
    refine s_loop2 [1, 2, 3, 5] kQ (fun (st : Nat × Sl Pl2) => [(6, .int .i64 st.1)]) (fun (st : Nat × Sl Pl2) => (l, true, .loop ⟨.busy, none, f0, tm, _, _, _, D⟩) :: (lg, true, C (lgC d.dk bb nb last) tLg) :: (bb, true, C (lbs bs) tLB) :: (b1, true, C [ptr lg] tPLg) :: (b2, true, C [out.val] tSegs) :: (b5, true, C (segC ⟨j, (bAt bs j).seq, (bAt bs j).wear, st.2⟩) tSeg) :: (st.2.hp tPl2 ++ (out.hp tSeg ++ (recH out.list ++ (dkH d ++ []))))) (fun (st : Nat × Sl Pl2) => 2 ≤ st.1 ∧ st.1 ≤ 8 ∧ st.2.isOwn = true ∧ st.2.list = recsN (V j) j st.1) (fun (st : Nat × Sl Pl2) => 8 - st.1) ((2, Sl.nil)) ⟨Nat.le_refl _, by decide, rfl, (recsN_2 _ _).symm⟩ kP (by rw [Sl.hp_nil, List.nil_append]; exact sP) ?_
    rintro ⟨i, rs⟩ ⟨g1, g2, g3, g4⟩
    simp only at g1 g2 g3 g4
    have hrl := recsN_len (V j) j i
    rw [← g4] at hrl
    refine s_seq <| s_seq <| s_region0 fun ops => oM rfl <| oR (rd_bin rfl rfl rfl) <| o_nil <| n_K ?_
    refine s_cond rfl (fun c29 => ?_) (fun c29 => ?_)
    · simp only [decide_eq_true_eq, decide_eq_false_iff_not] at c29
      refine s_skip <| n_K <| s_seq <| s_block <| s_seq <| s_region0 fun ops => oM rfl <| oM rfl <| oR (rd_build_s rfl rfl) ?_
      refine o_alloc rfl fun b7 => ?_
      refine o_store rfl rfl uD rfl rfl rfl ?_
      refine o_nil <| n_K <| s_seq <| s_region0 fun ops => ?_
      refine oR (rd_ld rfl mM rfl) ?_
      refine oR (rd_ldA rfl mM rfl) ?_
      refine c_ex rfl (get_fn h (b := j) (j := i) (by omega) (by omega)) sP rfl fun v38 Y38 h38 => ?_
      obtain ⟨s38, rfl, rfl, hs38, ho38⟩ := h38
      refine so_ap aQ ?_
      refine oM rfl <| oE rfl rfl <| oE rfl rfl <| oE rfl rfl <| oE rfl rfl <| oA rfl <| oA rfl <| oA rfl <| oA rfl <| o_nil <| n_K <| s_seq <| s_region0 fun ops => oM rfl ?_
      refine oR (rd_bin rfl rfl rfl) <| o_nil <| n_K ?_
      refine s_cond rfl (fun c44 => ?_) (fun c44 => ?_)
      · simp only [decide_eq_true_eq, decide_eq_false_iff_not] at c44
        have hrT : recsN (V j) j (i + 1) = rs.list ++ [((j : Int), (i : Int))] := (by show recsN (V j) j i ++ _ = _; rw [if_pos ⟨g1, c44⟩, g4])
        refine s_region0 fun ops => oF rfl ?_
        refine oR (rd_ld rfl mM rfl) ?_
        refine oR (rd_ldA rfl mM rfl) ?_
        refine o_bslice_k rfl rfl rfl rfl fun b48 => ?_
        refine o_append_sl (s := rs) (new := [((j : Int), (i : Int))]) (m := 1) rfl rfl pL g3 (src_blk (r := true) mM rfl) rfl rfl rfl rfl (by omega) rfl fun rs' hs1 hs2 => ?_
        refine oF rfl ?_
        refine o_store rfl rfl uD rfl rfl rfl ?_
        refine o_nil <| n_blk <| n_K <| s_region0 fun ops => oM rfl ?_
        refine oR (rd_add64 rfl rfl (by omega)) ?_
        refine oA rfl <| o_nil <| n_K ?_
        first | exact ⟨(i + 1, rs'), ⟨by simp only; omega, by simp only; omega, hs2, by rw [hrT]; exact hs1⟩, by simp only; omega, lZ⟩ | exact ⟨(i + 1, rs), ⟨by simp only; omega, by simp only; omega, g3, hrF.symm⟩, by simp only; omega, lZ⟩
      · simp only [decide_eq_true_eq, decide_eq_false_iff_not] at c44
        have hrF : recsN (V j) j (i + 1) = rs.list := (by show recsN (V j) j i ++ _ = _; rw [if_neg (fun e => c44 e.2), List.append_nil, g4])
        refine s_skip <| n_blk <| n_K <| s_region0 fun ops => oM rfl ?_
        refine oR (rd_add64 rfl rfl (by omega)) ?_
        refine oA rfl <| o_nil <| n_K ?_
        first | exact ⟨(i + 1, rs'), ⟨by simp only; omega, by simp only; omega, hs2, by rw [hrT]; exact hs1⟩, by simp only; omega, lZ⟩ | exact ⟨(i + 1, rs), ⟨by simp only; omega, by simp only; omega, g3, hrF.symm⟩, by simp only; omega, lZ⟩
    · simp only [decide_eq_true_eq, decide_eq_false_iff_not] at c29
      have hi8 : i = 8 := (by omega)
      subst hi8
      refine s_exit <| x_K <| x_K <| x_blk <| n_K <| s_region0 fun ops => ?_
      refine oR (rd_ld rfl mM rfl) ?_
      refine oR (rd_ldA rfl mM rfl) ?_
      refine o_bslice_k rfl rfl rfl rfl fun b53 => ?_
      refine o_append_sl (s := out) (new := [(⟨(j : Nat), (bAt bs j).seq, (bAt bs j).wear, rs⟩ : Seg)]) (m := 1) rfl rfl pL ho (src_blk (r := true) mM rfl) rfl rfl rfl rfl (by omega) rfl fun out' hs1 hs2 => ?_
      refine o_store rfl rfl uD rfl rfl rfl ?_
      refine o_nil <| n_blk ?_
      refine ⟨rfl, (lg, true, C (lgC d.dk bb nb last) tLg) :: (bb, true, C (lbs bs) tLB) :: (b1, true, C [ptr lg] tPLg) :: (b2, true, C [out'.val] tSegs) :: (out'.hp tSeg ++ (recH out.list ++ (rs.hp tPl2 ++ (dkH d ++ [])))), _, sP, rfl, (b1, true, C [ptr lg] tPLg) :: (b2, true, C [out'.val] tSegs) :: (out'.hp tSeg ++ (recH out'.list ++ dkH d)), ?_, out', rfl, hs2, ?_, ?_⟩
      · rw [hs1, recH_add]; simp [List.append_assoc]
      · rw [hs1, List.map_append, hm]; show _ = segsN V bs j ++ _; rw [if_neg hne, ← g4]; rfl
      · intro x hx
        rw [hs1] at hx
        rcases List.mem_append.1 hx with hx | hx
        · exact hr x hx
        · obtain rfl := List.mem_singleton.1 hx; exact g3
  · rintro rg D M ⟨X, rfl, out, rfl, ho, hm, hr⟩
    have hn : out.list.length ≤ 12 := by have e := congrArg List.length hm; rw [List.length_map] at e; omega
    rw [show (Go.K.mark D :: (((lg, true, C (lgC d.dk bb nb last) tLg) :: (bb, true, C (lbs bs) tLB) :: ((b1, true, C [ptr lg] tPLg) :: (b2, true, C [out.val] tSegs) :: (out.hp tSeg ++ (recH out.list ++ dkH d)) ++ [])) ++ []) : Hp) = Go.K.mark D :: (lg, true, C (lgC d.dk bb nb last) tLg) :: (bb, true, C (lbs bs) tLB) :: (b1, true, C [ptr lg] tPLg) :: (b2, true, C [out.val] tSegs) :: (out.hp tSeg ++ (recH out.list ++ (dkH d ++ []))) by simp [List.append_assoc]]
    refine s_seq <| s_region0 fun ops => ?_
    refine oR (rd_ld rfl mM rfl) ?_
    refine c_ex rfl (sortS_fn ho hn) sP rfl fun v56 Y56 h56 => ?_
    obtain ⟨rfl, s56, rfl, hv56, ho56, hp56, hq56⟩ := h56
    refine so_ap aQ ?_
    refine o_nil <| n_K <| s_seq <| s_region0 fun ops => ?_
    refine oR (rd_ld rfl mM rfl) ?_
    refine o_store rfl rfl uD rfl rfl rfl ?_
    refine o_nil <| n_K <| s_ret ?_
    refine pkD ?_
    exact leaf_r (rets1 Tryz.results14 (rv_cell1 rfl mM rfl)) (by exact ⟨s56, out.list, hv56.symm, rfl, hp56.symm, ho56, by rw [← hm]; exact hp56.map _, by rw [hp56.length_eq]; exact hq56, fun x hx => hr x (hp56.mem_iff.1 hx)⟩) sP
end
end Go.Proofs.YtkfcpjohblddmaaGreat
end
section
/- A log is made. -/
namespace Go.Proofs.YtkfcpjohblddmaaGreat
open Go.K
set_option linter.unusedVariables false
set_option linter.unusedSimpArgs false
instance ent11 : Ent Tryz.prog 11 := ⟨fun _ _ => by kernel_rfl⟩
set_option maxRecDepth 20000
set_option maxHeartbeats 1000000
/-- The wear that a block of a new log is told to have. -/
def newW (bs0 : List LB) (i : Nat) : Wd := (if (bAt bs0 i).known = true then (bAt bs0 i).wear else 0) + 1
structure NwI (n nb k : Nat) (q : Qt) (c0 : Chip) (bs0 : List LB) (j : Nat) (t : Tab) (c : Chip) (bs : List LB) (V : Nat → Blk) : Prop where
  le : j ≤ nb
  len : bs.length = nb
  fr : FrA c0 c
  dv : DV c t.ts n (k + 40 * j) V
  acc : Acc q c t.ts
  old : ∀ i, j ≤ i → bAt bs i = bAt bs0 i
  new : ∀ i < j, bAt bs i = wiped (newW bs0 i) ∧ (V i).next = 1 ∧ pgAt (V i) 0 = wearP (newW bs0 i)
theorem NwI.step {n nb k : Nat} {q : Qt} {j : Nat} {c0 c c' : Chip} {bs0 bs bsx bs' : List LB} {t t' : Tab} {V : Nat → Blk} (g : NwI n nb k q c0 bs0 j t c bs V) (hj : j < nb) (hl : bsx.length = nb) (ho : ∀ i, i ≠ j → bAt bsx i = bAt bs i)
    (hw : (bAt bsx j).wear + 1 = newW bs0 j) (hW : WipeR n nb (k + 40 * j + 40) q V j bsx c bs' 0 t'.ts c') : ∃ V', NwI n nb k q c0 bs0 (j + 1) t' c' bs' V' := by
  obtain ⟨h1, h2, v, h3⟩ := hW
  obtain ⟨_, h4, h5, h6, h7, h8⟩ := h3.resolve_right (fun h => absurd h.1 (by decide))
  have hb : ∀ i, bAt bs' i = if i = j then wiped (newW bs0 j) else bAt bs i := fun i => by
    rw [h6, bAt_set (by omega), hw]
    by_cases e : i = j
    · rw [if_pos e, if_pos e]
    · rw [if_neg e, if_neg e, ho i e]
  refine ⟨upV V j v, by omega, h1, g.fr.trans h2, ?_, h5, fun i hi => ?_, fun i hi => ?_⟩
  · have : k + 40 * (j + 1) = k + 40 * j + 40 := by omega
    rw [this]; exact h4
  · rw [hb, if_neg (by omega)]; exact g.old i (by omega)
  · rw [hb]
    by_cases e : i = j
    · subst e
      rw [if_pos rfl, upV_at]
      exact ⟨rfl, h7, by rw [h8, hw]⟩
    · rw [if_neg e]
      have := g.new i (by omega)
      have hv : upV V j v i = V i := by unfold upV; rw [if_neg e]
      rw [hv]; exact this
section
variable {d : Dsk} {n k : Nat} {q : Qt} {nb : Nat} {V : Nat → Blk}
theorem new8_fn (h : DD d n k V) (hk : k ≤ 100000) (hq : q.n ≤ 3) (hacc : Acc q d.c d.t.ts) (hnb : nb + 6 = n) (haf : d.c.after < 0) : Does Tryz.prog 11 [ptr d.dk] (dkH d ++ [])
    (fun v H => ∃ (lg bb : Nat) (t' : Tab) (c' : Chip) (bs' : List LB) (V' : Nat → Blk), v = .tuple #[ptr lg, .int .i64 0] ∧ H = (lg, true, C (lgC d.dk bb nb (-1)) tLg) :: (bb, true, C (lbs bs') tLB) :: (dkH ⟨d.dk, t', c'⟩ ++ []) ∧ NwI n nb k q d.c (openL V nb).1 nb t' c' bs' V') := by
  have hn40 := h.di.wf.n2
  have hol : (openL V nb).1.length = nb := by first | exact lookL_len .. | simp [openL, lookL]
  refine fn_enter (n := 51) Tryz.func11 Tryz.ntmps11 rfl (Nat.le_of_ble_eq_true rfl) <| s_seq <| s_region0 fun ops => oA rfl <| oA rfl <| o_nil <| n_K <| s_seq <| s_region0 fun ops => oM rfl ?_
  refine c_ex rfl (open8_fn h hnb) sP rfl fun v10 Y10 h10 => ?_
  obtain ⟨lg10, bb10, rfl, rfl⟩ := h10
  refine so_ap aQ ?_
  refine oM rfl <| oE rfl rfl <| oE rfl rfl <| oA rfl <| oA rfl <| o_nil <| n_K <| s_seq <| s_seq <| s_region0 fun ops => oM rfl <| oR (rd_bin rfl rfl rfl) <| o_nil <| n_K ?_
  refine s_condF rfl ?_
  refine s_skip <| n_K <| s_seq <| s_seq <| s_region0 fun ops => oM rfl <| oN rfl <| oF rfl ?_
  refine oR (rd_ld rfl mM rfl) ?_
  refine oR (rd_lenS rfl) <| oM rfl <| o_nil <| n_K <| s_block ?_
  refine s_loop2 [4, 20] kQ (fun (st : Nat × Tab × Chip × List LB) => [(21, .int .i64 st.1)]) (fun (st : Nat × Tab × Chip × List LB) => (lg10, true, C (lgC d.dk bb10 nb (openL V nb).2) tLg) :: (bb10, true, C (lbs st.2.2.2) tLB) :: (dkH ⟨d.dk, st.2.1, st.2.2.1⟩ ++ [])) (fun (st : Nat × Tab × Chip × List LB) => ∃ V', NwI n nb k q d.c (openL V nb).1 st.1 st.2.1 st.2.2.1 st.2.2.2 V') (fun (st : Nat × Tab × Chip × List LB) => nb - st.1) ((0, d.t, d.c, (openL V nb).1)) ⟨V, Nat.zero_le _, hol, FrA.refl _, h, hacc, fun _ _ => rfl, fun i hi => (by cases hi)⟩ kP sP ?_
  rintro ⟨i, t1, c1, bs⟩ ⟨V1, g⟩
  simp only at g
  have g0 := g.le
  have g1 := g.len
  refine s_seq <| s_region0 fun ops => oR (rd_bin rfl rfl rfl) <| o_nil <| n_K <| s_seq ?_
  refine s_cond rfl (fun c22 => ?_) (fun c22 => ?_)
  · simp only [decide_eq_true_eq, decide_eq_false_iff_not] at c22
    have hi : i < nb := (by omega)
    have hgi : bs[i]? = some (bAt bs i) := bAt_in (by omega)
    have gold := g.old i (Nat.le_refl _)
    refine s_skip <| n_K <| s_seq <| s_block <| s_seq <| s_region0 fun ops => oM rfl <| oA rfl <| o_nil <| n_K <| s_seq <| s_seq <| s_region0 fun ops => oM rfl ?_
    refine oN rfl <| oF rfl ?_
    refine oR (rd_ld rfl mM rfl) ?_
    refine oM rfl ?_
    refine oR (rd_ixS0 rfl rfl (by omega)) ?_
    refine oF rfl ?_
    refine oR (rd_ld rfl mM (by simp only [Int.toNat_natCast]; exact lb_nth (o := 1) hgi (by omega) rfl)) ?_
    refine oR (rd_not rfl) <| o_nil <| n_K ?_
    refine s_cond rfl (fun c32 => ?_) (fun c32 => ?_)
    · skip
      have hkn : (bAt bs i).known = false := (by simpa using c32)
      obtain ⟨bx, hbx⟩ : ∃ x, x = bs.set i { bAt bs i with wear := 0 } := ⟨_, rfl⟩
      have hlx : bx.length = nb := (by rw [hbx, List.length_set]; exact g1)
      have hx : ∀ j, j ≠ i → bAt bx j = bAt bs j := (fun j hj => by rw [hbx, bAt_set (by omega), if_neg hj])
      have hw : (bAt bx i).wear + 1 = newW (openL V nb).1 i := (by rw [hbx, bAt_set (by omega), if_pos rfl]; unfold newW; rw [← gold, if_neg (by rw [hkn]; decide)])
      refine s_region0 fun ops => oM rfl <| oN rfl <| oF rfl ?_
      refine oR (rd_ld rfl mM rfl) ?_
      refine oM rfl ?_
      refine oR (rd_ixS0 rfl rfl (by omega)) ?_
      refine oF rfl ?_
      refine o_store (cs' := lbs bx) rfl rfl uD rfl rfl (by rw [hbx]; simp only [Int.toNat_natCast]; exact lb_set (o := 0) hgi rfl) ?_
      refine o_nil <| n_K <| s_seq <| s_region0 fun ops => oM rfl <| oM rfl ?_
      refine c_ex rfl (lwipe_fn (d := ⟨d.dk, t1, c1⟩) (bs := bx) g.dv (by omega) hq g.acc hnb hlx hi) sP rfl fun v42 Y42 h42 => ?_
      obtain ⟨t2, c2, bs2, e2, rfl, rfl, hW⟩ := h42
      refine so_ap aQ ?_
      refine oA rfl <| o_nil <| n_K <| s_seq <| s_region0 fun ops => oM rfl <| oR (rd_bin rfl rfl rfl) <| o_nil <| n_K ?_
      refine s_cond rfl (fun c44 => ?_) (fun c44 => ?_)
      · skip
        exact absurd (hW.2.2.elim fun v hv => hv.elim (fun h1 => absurd h1.1 (by simpa using c44)) (fun h1 => absurd (g.fr.pos haf).1 (fun e => h1.2.2.1 (by rw [e]; exact haf)))) id
      · skip
        have he2 : e2 = 0 := (by simpa using c44)
        subst he2
        refine s_skip <| n_blk <| n_K <| s_region0 fun ops => ?_
        refine oR (rd_add64 rfl rfl (by omega)) ?_
        refine oM rfl <| o_nil <| n_K ?_
        obtain ⟨V2, g2⟩ := g.step hi hlx hx hw hW
        exact ⟨(i + 1, t2, c2, bs2), ⟨V2, g2⟩, by simp only; omega, lZ⟩
    · skip
      obtain ⟨bx, hbx⟩ : ∃ x, x = bs := ⟨_, rfl⟩
      subst hbx
      have hkn : (bAt bx i).known = true := (by simpa using c32)
      have hlx := g1
      have hx : ∀ j, j ≠ i → bAt bx j = bAt bx j := (fun j hj => rfl)
      have hw : (bAt bx i).wear + 1 = newW (openL V nb).1 i := (by unfold newW; rw [← gold, if_pos hkn])
      refine s_skip <| n_K <| s_seq <| s_region0 fun ops => oM rfl <| oM rfl ?_
      refine c_ex rfl (lwipe_fn (d := ⟨d.dk, t1, c1⟩) (bs := bx) g.dv (by omega) hq g.acc hnb hlx hi) sP rfl fun v42 Y42 h42 => ?_
      obtain ⟨t2, c2, bs2, e2, rfl, rfl, hW⟩ := h42
      refine so_ap aQ ?_
      refine oA rfl <| o_nil <| n_K <| s_seq <| s_region0 fun ops => oM rfl <| oR (rd_bin rfl rfl rfl) <| o_nil <| n_K ?_
      refine s_cond rfl (fun c44 => ?_) (fun c44 => ?_)
      · skip
        exact absurd (hW.2.2.elim fun v hv => hv.elim (fun h1 => absurd h1.1 (by simpa using c44)) (fun h1 => absurd (g.fr.pos haf).1 (fun e => h1.2.2.1 (by rw [e]; exact haf)))) id
      · skip
        have he2 : e2 = 0 := (by simpa using c44)
        subst he2
        refine s_skip <| n_blk <| n_K <| s_region0 fun ops => ?_
        refine oR (rd_add64 rfl rfl (by omega)) ?_
        refine oM rfl <| o_nil <| n_K ?_
        obtain ⟨V2, g2⟩ := g.step hi hlx hx hw hW
        exact ⟨(i + 1, t2, c2, bs2), ⟨V2, g2⟩, by simp only; omega, lZ⟩
  · simp only [decide_eq_true_eq, decide_eq_false_iff_not] at c22
    have hi : i = nb := (by omega)
    subst hi
    refine s_exit <| x_K <| x_K <| x_blk <| n_K <| s_seq <| s_region0 fun ops => oM rfl <| oN rfl <| oF rfl ?_
    refine o_store rfl rfl uD rfl rfl rfl ?_
    refine o_nil <| n_K <| s_seq <| s_region0 fun ops => oM rfl <| oA rfl <| oA rfl <| o_nil <| n_K <| s_ret ?_
    exact leaf_r (rets2 Tryz.results11 (rv_tmp rfl) (rv_tmp rfl)) (by exact ⟨lg10, bb10, t1, c1, bs, V1, rfl, rfl, g⟩) sP
end
end Go.Proofs.YtkfcpjohblddmaaGreat
end
section
/- The statements' logs: laid anew, opened again. -/
namespace Go.Proofs.YtkfcpjohblddmaaGreat
open Go.K
set_option linter.unusedVariables false
set_option linter.unusedSimpArgs false
instance ent9 : Ent Tryz.prog 9 := ⟨fun _ _ => by kernel_rfl⟩
set_option maxRecDepth 20000
set_option maxHeartbeats 1000000
/-- A log that is just laid. -/
structure Laid (m : Nat) (d : Dsk) (bs : List LB) (V : Nat → Blk) : Prop where
  len : bs.length + 6 = m
  dv : DV d.c d.t.ts m 2000 V
  acc : Acc ⟨0, fmtV (badL m []) ((m : Int) - 6) m⟩ d.c d.t.ts
  af : d.c.after < 0
  blk : ∀ i < bs.length, bAt bs i = wiped (newW (openL (fun _ => newB false) bs.length).1 i) ∧ (V i).next = 1 ∧ pgAt (V i) 0 = wearP (newW (openL (fun _ => newB false) bs.length).1 i)
theorem laid8_fn {m : Nat} (hm : 16 ≤ m ∧ m ≤ 40) (hX : fmtX (badL m []) = false) : Does Tryz.prog 9 [.int .i64 (m : Nat)] []
    (fun v H => ∃ (lg bb : Nat) (d : Dsk) (bs : List LB) (V : Nat → Blk), v = ptr lg ∧ H = (lg, true, C (lgC d.dk bb bs.length (-1)) tLg) :: (bb, true, C (lbs bs) tLB) :: (dkH d ++ []) ∧ Laid m d bs V) := by
  have hok : okNew (m : Int) [] = true := by unfold okNew; simp; omega
  refine fn_enter (n := 30) Tryz.func9 Tryz.ntmps9 rfl (Nat.le_of_ble_eq_true rfl) <| s_seq <| s_region0 fun ops => oA rfl <| o_nil <| n_K <| s_seq <| s_region0 fun ops => ?_
  refine c_ex rfl (newPower_fn) sP rfl fun v10 Y10 h10 => ?_
  obtain ⟨p10, rfl, rfl⟩ := h10
  refine so_ap aQ ?_
  refine oM rfl ?_
  refine c_ex rfl (new0_fn (n := m) hok) sP rfl fun v12 Y12 h12 => ?_
  obtain ⟨aC, aB, rfl, rfl⟩ := h12
  refine so_ap aQ ?_
  refine oM rfl <| oE rfl rfl <| oE rfl rfl <| oA rfl <| oA rfl <| o_nil <| n_K <| s_seq <| s_seq <| s_region0 fun ops => oM rfl <| oR (rd_eqNil rfl rfl) <| o_nil <| n_K ?_
  refine s_condF rfl ?_
  refine s_skip <| n_K <| s_seq <| s_region0 fun ops => oM rfl ?_
  refine c_ex rfl (dk_format (pp := p10) (aC := aC) (aB := aB) (m := m) hm hX) sP rfl fun v19 Y19 h19 => ?_
  obtain ⟨d, rfl, rfl, hd⟩ := h19
  refine so_ap aQ ?_
  refine oM rfl <| oE rfl rfl <| oE rfl rfl <| oA rfl <| oA rfl <| o_nil <| n_K <| s_seq <| s_seq <| s_region0 fun ops => oM rfl <| oR (rd_eqNil rfl rfl) <| o_nil <| n_K ?_
  refine s_condF rfl ?_
  refine s_skip <| n_K <| s_seq <| s_region0 fun ops => oM rfl ?_
  refine c_ex rfl (new8_fn (q := ⟨0, fmtV (badL m []) ((m : Int) - 6) m⟩) (nb := m - 6) (d := d) hd.dd (by omega) (Nat.zero_le 3) ⟨by rw [fp_nil hd.pf, fw_nil hd.wf, hd.lost]; exact Nat.le_refl 0, fun _ => hd.uses⟩ (by omega) hd.af) sP rfl fun v26 Y26 h26 => ?_
  obtain ⟨lg, bb, t', c', bs', V', rfl, rfl, hN⟩ := h26
  refine so_ap aQ ?_
  refine oM rfl <| oE rfl rfl <| oE rfl rfl <| oA rfl <| oA rfl <| o_nil <| n_K <| s_seq <| s_region0 fun ops => oM rfl <| oA rfl <| o_nil <| n_K <| s_ret ?_
  exact leaf_r (rets1 Tryz.results9 (rv_tmp rfl)) (by exact ⟨lg, bb, ⟨d.dk, t', c'⟩, bs', V', rfl, by rw [hN.len], ⟨by rw [hN.len]; omega, hN.dv.mono (by omega), hN.acc, by rw [(hN.fr.pos hd.af).1]; exact hd.af, by rw [hN.len]; exact hN.new⟩⟩) sP
end Go.Proofs.YtkfcpjohblddmaaGreat
end
section
/- What a log that is just laid is. -/
namespace Go.Proofs.YtkfcpjohblddmaaGreat
open Go.K
set_option linter.unusedVariables false
set_option linter.unusedSimpArgs false
set_option maxRecDepth 20000
set_option maxHeartbeats 1000000
theorem fx_fin : ∀ k : Fin 41, 16 ≤ k.val → fmtX (badL k.val []) = false := by decide +kernel
theorem fx_all {m : Nat} (h : 16 ≤ m ∧ m ≤ 40) : fmtX (badL m []) = false := fx_fin ⟨m, by omega⟩ h.1
theorem lookB_new : (lookB (newB false)).known = false := by
  unfold lookB
  exact (nF_blank (kind := 2))
theorem newW_fresh {nb i : Nat} (h : i < nb) : newW (openL (fun _ => newB false) nb).1 i = 1 := by
  have e : (bAt (openL (fun _ => newB false) nb).1 i).known = false := by
    unfold openL bAt
    simp only [List.getD_eq_getElem?_getD, List.getElem?_map, List.getElem?_range h, Option.map_some, Option.getD_some]
    unfold knownL
    split
    · rename_i hk; rw [lookB_new] at hk; cases hk
    · exact lookB_new
  unfold newW
  rw [if_neg (by rw [e]; decide)]
  rfl
theorem Laid.at {m : Nat} {d : Dsk} {bs : List LB} {V : Nat → Blk} (h : Laid m d bs V) {i : Nat} (hi : i < bs.length) : bAt bs i = wiped 1 ∧ (V i).next = 1 ∧ pgAt (V i) 0 = wearP 1 := by
  have := h.blk i hi
  rwa [newW_fresh hi] at this
end Go.Proofs.YtkfcpjohblddmaaGreat
end
section
/- The exact regime: nothing fails, nothing is lost, the power stays. -/
namespace Go.Proofs.YtkfcpjohblddmaaGreat
open Go.K
set_option linter.unusedVariables false
set_option linter.unusedSimpArgs false
set_option maxRecDepth 20000
set_option maxHeartbeats 1000000
/-- A free block. -/
structure FreeX (x : LB) (v : Blk) : Prop where
  seq : x.seq.toNat = 0
  known : x.known = true
  next : v.next = 1
  wear : pgAt v 0 = wearP x.wear
/-- A page that holds a record. -/
def RecP (p : Pg) : Prop := ∃ (kind : By) (b : List By), 3 < kind.toNat ∧ wrong kind b = false ∧ p = pageW kind b
theorem RecP.mend {p : Pg} (h : RecP p) : mendP p = p := by
  obtain ⟨kind, b, _, h2, rfl⟩ := h
  exact mend_page h2
theorem RecP.get {p : Pg} (h : RecP p) : (getF p).2.2.2 = 0 := by
  obtain ⟨kind, b, h1, h2, rfl⟩ := h
  unfold getF
  rw [readF_page h2, if_neg (by rintro ⟨_, h9⟩; simp only at h9; omega)]
/-- A block that is a segment; r: its records, page by page (what 'Get' tells of them). -/
structure UsedX (x : LB) (v : Blk) (r : List Pg) : Prop where
  seq : x.seq.toNat ≠ 0
  ready : x.ready = false
  known : x.known = true
  len : r.length ≤ 6
  next : v.next = ((2 + r.length : Nat) : Int)
  at' : x.next = v.next ∨ x.next = 8
  wear : pgAt v 0 = wearP x.wear
  head : pgAt v 1 = headP x.seq
  recs : ∀ i (h : i < r.length), pgAt v (2 + i) = r[i]
  good : ∀ p ∈ r, RecP p
structure LX (n nb k : Nat) (q : Qt) (d : Dsk) (bs : List LB) (last : Int) (V : Nat → Blk) (R : Nat → List Pg) : Prop where
  num : nb + 6 = n
  len : bs.length = nb
  dv : DV d.c d.t.ts n k V
  acc : Acc q d.c d.t.ts
  af : d.c.after < 0
  blk : ∀ j < nb, (FreeX (bAt bs j) (V j) ∧ R j = []) ∨ UsedX (bAt bs j) (V j) (R j)
  lst : (last = -1 ∧ ∀ j < nb, (bAt bs j).seq.toNat = 0) ∨ ∃ l : Nat, last = l ∧ l < nb ∧ (bAt bs l).seq.toNat ≠ 0 ∧ ∀ j < nb, j ≠ l → (bAt bs j).seq.toNat < (bAt bs l).seq.toNat
  top : ∀ j < nb, (bAt bs j).seq.toNat ≤ k
  dis : ∀ i < nb, ∀ j < nb, i ≠ j → (bAt bs i).seq.toNat ≠ 0 → (bAt bs i).seq.toNat ≠ (bAt bs j).seq.toNat
theorem kept_pg {v w : Blk} {j i : Nat} (h : Kept v w j) (hi : i < j) (hj : j ≤ 8) (hm : mendP (pgAt w i) = pgAt w i) : pgAt v i = pgAt w i := by
  have h8 : i < 8 := by omega
  rw [pgAt_in h8] at hm ⊢
  rcases h i h8 hi with e | e
  · rw [e, pgAt_in h8]
  · rw [e, hm, pgAt_in h8]
/-- A record more. -/
theorem UsedX.add {x : LB} {v w : Blk} {r : List Pg} {p : Pg} (u : UsedX x w r) (hl : r.length < 6) (hn : v.next = ((2 + r.length + 1 : Nat) : Int)) (hk : Kept v w (2 + r.length)) (hp : pgAt v (2 + r.length) = p) (hg : RecP p) :
    UsedX { x with next := ((2 + r.length : Nat) : Int) + 1 } v (r ++ [p]) where
  seq := u.seq
  ready := u.ready
  known := u.known
  len := by rw [List.length_append]; simp; omega
  next := by rw [hn, List.length_append]; simp; omega
  at' := .inl (by rw [hn]; simp)
  wear := by rw [kept_pg hk (by omega) (by omega) (by rw [u.wear]; exact mend_num (by decide) _), u.wear]
  head := by rw [kept_pg hk (by omega) (by omega) (by rw [u.head]; exact mend_num (by decide) _), u.head]
  recs := fun i hi => by
    rw [List.length_append] at hi
    simp only [List.length_singleton] at hi
    by_cases e : i = r.length
    · subst e; rw [hp]; simp
    · have h1 : i < r.length := by omega
      rw [kept_pg hk (by omega) (by omega) (by rw [u.recs i h1]; exact (u.good _ (List.getElem_mem h1)).mend), u.recs i h1, List.getElem_append_left h1]
  good := fun z hz => by
    rcases List.mem_append.1 hz with h | h
    · exact u.good z h
    · rw [List.mem_singleton.1 h]; exact hg
theorem LX.rdy {n nb k : Nat} {q : Qt} {d : Dsk} {bs : List LB} {last : Int} {V : Nat → Blk} {R : Nat → List Pg} (h : LX n nb k q d bs last V R) : RdyI V bs nb := fun b hb hr => by
  rcases h.blk b hb with ⟨f, _⟩ | u
  · exact ⟨f.next, f.known, f.wear⟩
  · rw [u.ready] at hr; cases hr
theorem Laid.lx {m : Nat} (q : Qt) (hq : q.n = 0 → q.u = fmtV (badL m []) ((m : Int) - 6) m) {d : Dsk} {bs : List LB} {V : Nat → Blk} (h : Laid m d bs V) : LX m bs.length 2000 q d bs (-1) V (fun _ => []) where
  num := h.len
  len := rfl
  dv := h.dv
  acc := ⟨Nat.le_trans h.acc.1 (Nat.zero_le _), fun h0 => by rw [hq h0]; exact h.acc.2 rfl⟩
  af := h.af
  blk := fun j hj => by
    obtain ⟨h1, h2, h3⟩ := h.at hj
    exact .inl ⟨⟨by rw [h1]; rfl, by rw [h1]; rfl, h2, by rw [h1]; exact h3⟩, rfl⟩
  lst := .inl ⟨rfl, fun j hj => by rw [(h.at hj).1]; rfl⟩
  top := fun j hj => by rw [(h.at hj).1]; exact Nat.zero_le _
  dis := fun i hi j hj hne hs => by rw [(h.at hi).1] at hs; exact absurd rfl hs
end Go.Proofs.YtkfcpjohblddmaaGreat
end
section
/- The exact regime: a record more. -/
namespace Go.Proofs.YtkfcpjohblddmaaGreat
open Go.K
set_option linter.unusedVariables false
set_option linter.unusedSimpArgs false
set_option maxRecDepth 20000
set_option maxHeartbeats 1000000
def upR (R : Nat → List Pg) (b : Nat) (r : List Pg) : Nat → List Pg := fun j => if j = b then r else R j
section
variable {n nb k k' : Nat} {q : Qt} {d : Dsk} {bs : List LB} {last : Int} {V : Nat → Blk} {R : Nat → List Pg} {p : Pg} {t' : Tab} {c' : Chip} {v : Blk}
theorem LX.used (h : LX n nb k q d bs last V R) {l : Nat} (hl : last = l) : l < nb ∧ UsedX (bAt bs l) (V l) (R l) := by
  rcases h.lst with ⟨h1, _⟩ | ⟨l', h1, h2, h3, _⟩
  · omega
  · have : l' = l := by omega
    subst this
    refine ⟨h2, ?_⟩
    rcases h.blk l' h2 with ⟨f, _⟩ | u
    · exact absurd f.seq h3
    · exact u
/-- Into the last segment. -/
theorem LX.app1 (h : LX n nb k q d bs last V R) (hkk : k ≤ k') (hg : RecP p) {l : Nat} (hl : last = l) (hr : (R l).length < 6) (hfr : FrA d.c c') (hdv : DV c' t'.ts n k' (upV V l v)) (hacc : Acc q c' t'.ts)
    (hn : v.next = ((2 + (R l).length + 1 : Nat) : Int)) (hk : Kept v (V l) (2 + (R l).length)) (hp : pgAt v (2 + (R l).length) = p) :
    LX n nb k' q ⟨d.dk, t', c'⟩ (bs.set l { bAt bs l with next := ((2 + (R l).length : Nat) : Int) + 1 }) last (upV V l v) (upR R l (R l ++ [p])) := by
  obtain ⟨hlt, u⟩ := h.used hl
  have hb : ∀ j, bAt (bs.set l { bAt bs l with next := ((2 + (R l).length : Nat) : Int) + 1 }) j = if j = l then { bAt bs l with next := ((2 + (R l).length : Nat) : Int) + 1 } else bAt bs j := fun j => bAt_set (by rw [h.len]; exact hlt)
  have hs : ∀ j, (bAt (bs.set l { bAt bs l with next := ((2 + (R l).length : Nat) : Int) + 1 }) j).seq = (bAt bs j).seq := fun j => by
    rw [hb]
    split
    · rename_i e; subst e; rfl
    · rfl
  refine ⟨h.num, by rw [List.length_set]; exact h.len, hdv, hacc, by rw [(hfr.pos h.af).1]; exact h.af, fun j hj => ?_, ?_, fun j hj => by rw [hs]; exact Nat.le_trans (h.top j hj) hkk, fun i hi j hj => ?_⟩
  · rw [hb]
    unfold upV upR
    by_cases e : j = l
    · rw [if_pos e, if_pos e, if_pos e]
      exact .inr (u.add hr hn hk hp hg)
    · rw [if_neg e, if_neg e, if_neg e]
      exact h.blk j hj
  · rcases h.lst with ⟨h1, h2⟩ | ⟨l', h1, h2, h3, h4⟩
    · exact .inl ⟨h1, fun j hj => by rw [hs]; exact h2 j hj⟩
    · exact .inr ⟨l', h1, h2, by rw [hs]; exact h3, fun j hj hne => by rw [hs, hs]; exact h4 j hj hne⟩
  · rw [hs, hs]; exact h.dis i hi j hj
theorem FreeX.oth {x y : LB} {w : Blk} (f : FreeX x w) (h : y = x ∨ y = { x with next := 8 }) : FreeX y w := by
  rcases h with rfl | rfl
  · exact f
  · exact ⟨f.seq, f.known, f.next, f.wear⟩
theorem UsedX.oth {x y : LB} {w : Blk} {r : List Pg} (u : UsedX x w r) (h : y = x ∨ y = { x with next := 8 }) : UsedX y w r := by
  rcases h with rfl | rfl
  · exact u
  · exact ⟨u.seq, u.ready, u.known, u.len, u.next, .inr rfl, u.wear, u.head, u.recs, u.good⟩
theorem LX.seqN (h : LX n nb k q d bs last V R) (hk : k ≤ 400000) : (seqN bs last).toNat ≠ 0 ∧ (seqN bs last).toNat ≤ k + 1 ∧ ∀ j < nb, (bAt bs j).seq.toNat < (seqN bs last).toNat := by
  unfold Go.Proofs.YtkfcpjohblddmaaGreat.seqN
  rcases h.lst with ⟨h1, h2⟩ | ⟨l, h1, h2, h3, h4⟩
  · rw [if_pos (by omega)]
    exact ⟨by decide, by show 1 ≤ k + 1; omega, fun j hj => by rw [h2 j hj]; decide⟩
  · rw [if_neg (by omega), h1, Int.toNat_natCast]
    have ht := h.top l h2
    have e : ((bAt bs l).seq + 1).toNat = (bAt bs l).seq.toNat + 1 := by
      rw [BitVec.toNat_add]
      show ((bAt bs l).seq.toNat + 1) % 2 ^ 64 = _
      omega
    rw [e]
    refine ⟨by omega, by omega, fun j hj => ?_⟩
    by_cases hj2 : j = l
    · subst hj2; omega
    · have := h4 j hj hj2; omega
/-- Into a block that is begun. -/
theorem LX.app2 (h : LX n nb k q d bs last V R) (hk : k ≤ 400000) (hkk : k + 1 ≤ k') (hg : RecP p) {to : Nat} {bs' : List LB} (hto : to < nb) (hlen : bs'.length = nb) (hfr : FrA d.c c') (hdv : DV c' t'.ts n k' (upV V to v))
    (hacc : Acc q c' t'.ts) (hn : v.next = 3) (h2 : pgAt v 2 = p) (h1 : pgAt v 1 = headP (Go.Proofs.YtkfcpjohblddmaaGreat.seqN bs last)) (h0 : pgAt v 0 = wearP (bAt bs to).wear)
    (hx : bAt bs' to = ⟨(bAt bs to).wear, true, Go.Proofs.YtkfcpjohblddmaaGreat.seqN bs last, false, 3⟩) (ho : Others bs bs' nb last to) : LX n nb k' q ⟨d.dk, t', c'⟩ bs' to (upV V to v) (upR R to [p]) := by
  obtain ⟨s1, s2, s3⟩ := h.seqN hk
  have ho2 : ∀ j < nb, j ≠ to → bAt bs' j = bAt bs j ∨ bAt bs' j = { bAt bs j with next := 8 } := fun j hj hne => (ho j hj (by omega)).imp id (fun e => e.2)
  have hs : ∀ j < nb, j ≠ to → (bAt bs' j).seq = (bAt bs j).seq := fun j hj hne => by
    rcases ho2 j hj hne with e | e <;> rw [e]
  refine ⟨h.num, hlen, hdv, hacc, by rw [(hfr.pos h.af).1]; exact h.af, fun j hj => ?_, .inr ⟨to, rfl, hto, by rw [hx]; exact s1, fun j hj hne => by rw [hs j hj hne, hx]; exact s3 j hj⟩, fun j hj => ?_, fun i hi j hj hne hz => ?_⟩
  · unfold upV upR
    by_cases e : j = to
    · subst e
      rw [if_pos rfl, if_pos rfl]
      refine .inr ⟨by rw [hx]; exact s1, by rw [hx], by rw [hx], by simp, by rw [hn]; rfl, .inl (by rw [hx, hn]), by rw [hx]; exact h0, by rw [hx]; exact h1, fun i hi => ?_, fun z hz => by rw [List.mem_singleton.1 hz]; exact hg⟩
      have : i = 0 := by simp at hi; exact hi
      subst this
      exact h2
    · rw [if_neg e, if_neg e]
      exact (h.blk j hj).imp (fun ⟨f, r⟩ => ⟨f.oth (ho2 j hj e), r⟩) (fun u => u.oth (ho2 j hj e))
  · by_cases e : j = to
    · subst e; rw [hx]; exact Nat.le_trans s2 hkk
    · rw [hs j hj e]; exact Nat.le_trans (h.top j hj) (by omega)
  · by_cases e : i = to
    · subst e
      rw [hs j hj (Ne.symm hne), hx]
      have := s3 j hj
      simp only
      omega
    · by_cases e2 : j = to
      · subst e2
        rw [hs i hi e, hx]
        have := s3 i hi
        simp only
        omega
      · rw [hs i hi e] at hz ⊢
        rw [hs j hj e2]
        exact h.dis i hi j hj hne hz
end
end Go.Proofs.YtkfcpjohblddmaaGreat
end
section
/- The exact regime: Append's exact answer. -/
namespace Go.Proofs.YtkfcpjohblddmaaGreat
open Go.K
set_option linter.unusedVariables false
set_option linter.unusedSimpArgs false
set_option maxRecDepth 20000
set_option maxHeartbeats 1000000
def FullX (bs : List LB) (last : Int) : Prop := last < 0 ∨ ∃ l : Nat, last = l ∧ (bAt bs l).next = 8
section
variable {n nb k : Nat} {q : Qt} {d : Dsk} {bs bs' : List LB} {last last' e pb pj : Int} {V : Nat → Blk} {R : Nat → List Pg} {p : Pg} {t' : Tab} {c' : Chip}
theorem LX.app (h : LX n nb k q d bs last V R) (hk : k ≤ 300000) (hg : RecP p) (hA : AppR n nb (k + 80) q V bs last p d.c d.t.ts bs' last' e pb pj t'.ts c') :
    (∃ l : Nat, last = l ∧ (bAt bs l).next = ((2 + (R l).length : Nat) : Int) ∧ (R l).length < 6 ∧ e = 0 ∧ pb = l ∧ pj = ((2 + (R l).length : Nat) : Int) ∧ last' = last ∧ bs' = bs.set l { bAt bs l with next := ((2 + (R l).length : Nat) : Int) + 1 } ∧ ∃ V', LX n nb (k + 80) q ⟨d.dk, t', c'⟩ bs' last' V' (upR R l (R l ++ [p]))) ∨
    (FullX bs last ∧ toU bs nb < 0 ∧ e = 40 ∧ last' = last ∧ bs' = bs ∧ ∃ V', LX n nb (k + 80) q ⟨d.dk, t', c'⟩ bs' last' V' R) ∨
    (FullX bs last ∧ ∃ to : Nat, toU bs nb = to ∧ to < nb ∧ (bAt bs to).seq.toNat = 0 ∧ e = 0 ∧ pb = to ∧ pj = 2 ∧ last' = to ∧ bs' = bs.set to ⟨(bAt bs to).wear, true, Go.Proofs.YtkfcpjohblddmaaGreat.seqN bs last, false, 3⟩ ∧ ∃ V', LX n nb (k + 80) q ⟨d.dk, t', c'⟩ bs' last' V' (upR R to [p])) := by
  rcases hA with ⟨l, nx, h1, h2, h3, h4, h5, v, h6, h7, h8⟩ | ⟨hnr, hA⟩
  · obtain ⟨hlt, u⟩ := h.used h1
    have hun := u.next
    have hnx : nx = 2 + (R l).length := by omega
    have hx : (bAt bs l).next = ((2 + (R l).length : Nat) : Int) := by rcases u.at' with e | e <;> omega
    rcases h8 with ⟨q1, q2, q3, q4, q5, q6, q7, q8⟩ | ⟨_, _, q, _⟩
    · subst hnx
      refine .inl ⟨l, h1, hx, by omega, q1, q5, q6, q7, q8, upV V l v, ?_⟩
      rw [q7, q8]
      exact h.app1 (by omega) hg h1 (by omega) h5 q2 q3 h6 h7 q4
    · exact absurd h.af q
  · have hfull : FullX bs last := by
      rcases hnr with h1 | ⟨l, h1, h2⟩
      · exact .inl h1
      · obtain ⟨hlt, u⟩ := h.used h1
        refine .inr ⟨l, h1, ?_⟩
        have hun := u.next
        have hul := u.len
        rcases u.at' with e | e
        · by_cases h8 : (R l).length = 6
          · rw [e, hun, h8]; rfl
          · exact absurd hun (h2 (2 + (R l).length) (by omega) (by omega))
        · exact e
    have hoth : ∀ (to : Int), Others bs bs' nb last to → ∀ j < nb, (j : Int) ≠ to → bAt bs' j = bAt bs j := fun to ho j hj hne => by
      rcases ho j hj hne with e | ⟨e1, e2⟩
      · exact e
      · rcases hfull with h1 | ⟨l, h1, h2⟩
        · omega
        · have : l = j := by omega
          subst this
          rw [e2, ← h2]
    have hsame : bs'.length = nb → Others bs bs' nb last (-1) → bs' = bs := fun h1 ho => bs_ext (by rw [h1, h.len]) fun j hj => hoth _ ho j (by omega) (by omega)
    have hsame2 : ∀ {to : Nat}, bs'.length = nb → to < nb → bAt bs' to = ⟨(bAt bs to).wear, true, Go.Proofs.YtkfcpjohblddmaaGreat.seqN bs last, false, 3⟩ → Others bs bs' nb last to → bs' = bs.set to ⟨(bAt bs to).wear, true, Go.Proofs.YtkfcpjohblddmaaGreat.seqN bs last, false, 3⟩ := fun {to} h1 hto hx ho => by
      apply bs_ext
      · rw [h1, List.length_set, h.len]
      · intro j hj
        rw [bAt_set (by rw [h.len]; exact hto)]
        by_cases e : j = to
        · rw [if_pos e, e, hx]
        · rw [if_neg e]; exact hoth _ ho j (by omega) (by omega)
    rcases hA with ⟨q1, q2, q3, q4, q5, q6, q7⟩ | ⟨q1, q2, to, v, q3, q4⟩
    · refine .inr (.inl ⟨hfull, q2, q1, q5, hsame q6 q7, V, ?_⟩)
      have ho2 : ∀ j < nb, bAt bs' j = bAt bs j ∨ bAt bs' j = { bAt bs j with next := 8 } := fun j hj => (q7 j hj (by omega)).imp id (fun e => e.2)
      have hs : ∀ j < nb, (bAt bs' j).seq = (bAt bs j).seq := fun j hj => by rcases ho2 j hj with e | e <;> rw [e]
      rw [q5]
      refine ⟨h.num, q6, by show DV c' t'.ts n (k + 80) V; rw [q3, q4]; exact h.dv.mono (by omega), by show Acc q c' t'.ts; rw [q3, q4]; exact h.acc, by show c'.after < 0; rw [q4]; exact h.af,
        fun j hj => (h.blk j hj).imp (fun ⟨f, r⟩ => ⟨f.oth (ho2 j hj), r⟩) (fun u => u.oth (ho2 j hj)), ?_, fun j hj => by rw [hs j hj]; exact Nat.le_trans (h.top j hj) (by omega), fun i hi j hj hne hz => ?_⟩
      · rcases h.lst with ⟨h1, h2⟩ | ⟨l', h1, h2, h3, h4⟩
        · exact .inl ⟨h1, fun j hj => by rw [hs j hj]; exact h2 j hj⟩
        · exact .inr ⟨l', h1, h2, by rw [hs l' h2]; exact h3, fun j hj hne => by rw [hs j hj, hs l' h2]; exact h4 j hj hne⟩
      · rw [hs i hi] at hz ⊢; rw [hs j hj]; exact h.dis i hi j hj hne hz
    · rcases q4 with ⟨r1, r2, r3, r4, r5, r6, r7, r8, r9, r10, r11, r12⟩ | ⟨_, _, q, _⟩
      · obtain ⟨l, x1, x2, x3, _⟩ := (toU_spec bs nb).resolve_left (fun h => by omega)
        have : l = to := by omega
        subst this
        refine .inr (.inr ⟨hfull, l, q3, x2, x3, r1, r4, r5, r6, hsame2 q2 x2 r11 r12, upV V l v, ?_⟩)
        rw [r6]
        exact h.app2 (by omega) (by omega) hg x2 q2 q1 r2 r3 r7 r8 r9 r10 r11 r12
      · exact absurd h.af q
end
end Go.Proofs.YtkfcpjohblddmaaGreat
end
section
/- The exact regime: Append. -/
namespace Go.Proofs.YtkfcpjohblddmaaGreat
open Go.K
set_option linter.unusedVariables false
set_option linter.unusedSimpArgs false
set_option maxRecDepth 20000
set_option maxHeartbeats 1000000
def AppX (n nb k : Nat) (q : Qt) (d : Dsk) (bs : List LB) (last : Int) (R : Nat → List Pg) (p : Pg) (d' : Dsk) (bs' : List LB) (last' e pb pj : Int) : Prop :=
  (∃ l : Nat, last = l ∧ (bAt bs l).next = ((2 + (R l).length : Nat) : Int) ∧ (R l).length < 6 ∧ e = 0 ∧ pb = l ∧ pj = ((2 + (R l).length : Nat) : Int) ∧ last' = last ∧ bs' = bs.set l { bAt bs l with next := ((2 + (R l).length : Nat) : Int) + 1 } ∧ ∃ V', LX n nb (k + 80) q d' bs' last' V' (upR R l (R l ++ [p]))) ∨
  (FullX bs last ∧ toU bs nb < 0 ∧ e = 40 ∧ last' = last ∧ bs' = bs ∧ ∃ V', LX n nb (k + 80) q d' bs' last' V' R) ∨
  (FullX bs last ∧ ∃ to : Nat, toU bs nb = to ∧ to < nb ∧ (bAt bs to).seq.toNat = 0 ∧ e = 0 ∧ pb = to ∧ pj = 2 ∧ last' = to ∧ bs' = bs.set to ⟨(bAt bs to).wear, true, seqN bs last, false, 3⟩ ∧ ∃ V', LX n nb (k + 80) q d' bs' last' V' (upR R to [p]))
section
variable {n nb k : Nat} {q : Qt} {lg bb : Nat} {d : Dsk} {bs : List LB} {last : Int} {V : Nat → Blk} {R : Nat → List Pg}
theorem LX.rng (h : LX n nb k q d bs last V R) : -1 ≤ last ∧ last < nb := by
  rcases h.lst with ⟨h1, _⟩ | ⟨l, h1, h2, _⟩ <;> omega
theorem LX.lls (h : LX n nb k q d bs last V R) (h0 : 0 ≤ last) : (bAt bs last.toNat).seq.toNat ≠ 0 ∧ 2 ≤ (bAt bs last.toNat).next ∧ (bAt bs last.toNat).next ≤ 8 := by
  obtain ⟨hlt, u⟩ := h.used (l := last.toNat) (by omega)
  have h1 := u.next
  have h2 := u.len
  refine ⟨u.seq, ?_, ?_⟩ <;> rcases u.at' with e | e <;> omega
theorem appX_fn (h : LX n nb k q d bs last V R) (hk : k ≤ 300000) (hq : q.n ≤ 3) {kind : By} {qs : Sl (Sl By)} (hj : (joinB qs.list).length ≤ 70000000000000) :
    Does Tryz.prog 10 [ptr lg, bv kind, qs.val] ((lg, true, C (lgC d.dk bb nb last) tLg) :: (bb, true, C (lbs bs) tLB) :: (dkH d ++ (qs.hp tSB ++ (partsH qs.list ++ []))))
    (fun v H => ∃ (d' : Dsk) (bs' : List LB) (last' e pb pj : Int), d'.dk = d.dk ∧ v = .tuple #[.agg #[.int .i64 pb, .int .i64 pj], .int .i64 e] ∧ H = (lg, true, C (lgC d'.dk bb nb last') tLg) :: (bb, true, C (lbs bs') tLB) :: (dkH d' ++ []) ∧
      (((kind.toNat ≤ 3 ∨ wrong kind (joinB qs.list) = true) ∧ e = 1 ∧ pb = 0 ∧ pj = 0 ∧ d' = d ∧ bs' = bs ∧ last' = last) ∨
       (3 < kind.toNat ∧ wrong kind (joinB qs.list) = false ∧ AppX n nb k q d bs last R (pageW kind (joinB qs.list)) d' bs' last' e pb pj))) := by
  refine (append8_fn (q := q) h.dv (by omega) hq h.acc h.num h.len h.rng h.lls h.rdy hj).mono ?_
  rintro v H ⟨t', c', bs', last', e, pb, pj, rfl, rfl, hr⟩
  refine ⟨⟨d.dk, t', c'⟩, bs', last', e, pb, pj, rfl, rfl, rfl, ?_⟩
  rcases hr with ⟨h1, h2, h3, h4, rfl, rfl, h5, h6⟩ | ⟨h1, h2, h3⟩
  · exact .inl ⟨h1, h2, h3, h4, rfl, h5, h6⟩
  · exact .inr ⟨h1, h2, h.app hk ⟨_, _, h1, h2, rfl⟩ h3⟩
end
end Go.Proofs.YtkfcpjohblddmaaGreat
end
section
/- The exact regime: what is told of a log; the log that is opened again. -/
namespace Go.Proofs.YtkfcpjohblddmaaGreat
open Go.K
set_option linter.unusedVariables false
set_option linter.unusedSimpArgs false
instance ent16 : Ent Tryz.prog 16 := ⟨fun _ _ => by kernel_rfl⟩
set_option maxRecDepth 20000
set_option maxHeartbeats 1000000
theorem DV.again {c : Chip} {t : TS} {n k : Nat} {V : Nat → Blk} (h : DV c t n k V) : ∃ t2, openC c = (0, t2) ∧ t2.lost = t.lost ∧ t2.uses = t.uses ∧ DV c t2 n k V := by
  obtain ⟨a, _, hh, _⟩ := h.di.ti
  obtain ⟨t2, o1, o2, o3, o4⟩ := open_disk h.di.up hh h.di.wf h.di.len h.di.bs h.di.cnt h.di.ver
  exact ⟨t2, o1, o4, o3, o2, fun l hl => by rw [o3]; exact h.vw l hl⟩
theorem rec_nb {p : Pg} (h : (readF p).2.2.2 = 0) : blankB p = false := by
  cases hb : blankB p with
  | false => rfl
  | true => rw [readF_blank hb] at h; exact absurd h (by decide)
theorem RecP.nb {p : Pg} (h : RecP p) : blankB p = false := by
  obtain ⟨kind, b, _, h2, rfl⟩ := h
  exact rec_nb (by rw [readF_page h2])
theorem num_nb {kind : By} (h : 0 < kind.toNat ∧ kind.toNat < 255) (x : Wd) : blankB (numP kind x) = false := rec_nb (by unfold numP; rw [readF_page (numP_right h x)])
theorem get_blank {p : Pg} (h : blankB p = true) : (getF p).2.2.2 ≠ 0 := by
  unfold getF
  rw [readF_blank h]
  decide
theorem BI.pg {v : Blk} (h : BI v) {j : Nat} (hj : j < 8) (hn : v.next ≤ j) : pgAt v j = blankP := by
  rw [pgAt_in hj]
  exact h.bl j hj hn
theorem FreeX.look {x : LB} {v : Blk} (f : FreeX x v) (h : BI v) : lookB v = ⟨x.wear, true, 0, false, 8⟩ := by
  unfold lookB
  have h1 : pgAt v 1 = blankP := h.pg (by omega) (by rw [f.next]; decide)
  rw [f.wear, h1, if_neg (by rw [nF_blank]; decide), if_neg (by rw [nF_blank]; decide), nF_num (by decide)]
theorem UsedX.nextF {x : LB} {v : Blk} {r : List Pg} (u : UsedX x v r) (h : BI v) : nextF v = 2 + r.length := by
  have hl := u.len
  have hn := u.next
  refine nextF_eq (by omega) (fun i hi hj => ?_) (fun _ => ?_)
  · have := h.pg hi (by rw [hn]; omega)
    rw [pgAt_in hi] at this
    rw [this]; exact blankP_blank
  · by_cases e : r.length = 0
    · rw [show 2 + r.length - 1 = 1 by omega, u.head]
      exact num_nb (by decide) _
    · rw [show 2 + r.length - 1 = 2 + (r.length - 1) by omega, u.recs _ (by omega)]
      exact (u.good _ (List.getElem_mem _)).nb
theorem UsedX.look {x : LB} {v : Blk} {r : List Pg} (u : UsedX x v r) (h : BI v) : lookB v = ⟨x.wear, true, x.seq, false, v.next⟩ := by
  unfold lookB
  rw [u.wear, u.head, nF_num (by decide), nF_num (by decide), if_pos rfl, if_pos rfl, u.nextF h, u.next]
theorem lastU_congr {bs cs : List LB} : ∀ k, (∀ j < k, (bAt bs j).seq = (bAt cs j).seq) → lastU bs k = lastU cs k
  | 0, _ => rfl
  | k + 1, h => by
    have ih := lastU_congr k fun j hj => h j (by omega)
    have hr := lastU_rng cs k
    unfold lastU
    rw [ih, h k (by omega)]
    by_cases h1 : lastU cs k < 0
    · simp [h1]
    · rw [h (lastU cs k).toNat (by omega)]
theorem freeN_congr {bs cs : List LB} : ∀ k, (∀ j < k, ((bAt bs j).seq.toNat = 0 ↔ (bAt cs j).seq.toNat = 0)) → freeN bs k = freeN cs k
  | 0, _ => rfl
  | k + 1, h => by
    have ih := freeN_congr k fun j hj => h j (by omega)
    have := h k (by omega)
    unfold freeN
    rw [ih]
    by_cases h1 : (bAt cs k).seq.toNat = 0
    · rw [if_pos (this.2 h1), if_pos h1]
    · rw [if_neg (fun h2 => h1 (this.1 h2)), if_neg h1]
/-- No segment was shut. -/
def NS (bs : List LB) (nb : Nat) (R : Nat → List Pg) : Prop := ∀ j < nb, (bAt bs j).seq.toNat ≠ 0 → (bAt bs j).next = ((2 + (R j).length : Nat) : Int)
section
variable {n nb k : Nat} {q : Qt} {d : Dsk} {bs : List LB} {last : Int} {V : Nat → Blk} {R : Nat → List Pg}
theorem LX.bi (h : LX n nb k q d bs last V R) {j : Nat} (hj : j < nb) : BI (V j) := (h.dv.blk (l := j) (by have := h.num; omega)).1
theorem LX.look (h : LX n nb k q d bs last V R) {j : Nat} (hj : j < nb) : lookB (V j) = ⟨(bAt bs j).wear, true, (bAt bs j).seq, false, if (bAt bs j).seq.toNat = 0 then 8 else (V j).next⟩ := by
  rcases h.blk j hj with ⟨f, _⟩ | u
  · have : (bAt bs j).seq = 0 := BitVec.eq_of_toNat_eq f.seq
    rw [f.look (h.bi hj), if_pos f.seq, this]
  · rw [u.look (h.bi hj), if_neg u.seq]
theorem LX.open_at (h : LX n nb k q d bs last V R) {j : Nat} (hj : j < nb) : bAt (openL V nb).1 j = ⟨(bAt bs j).wear, true, (bAt bs j).seq, false, if (bAt bs j).seq.toNat = 0 then 8 else (V j).next⟩ := by
  have e : bAt (openL V nb).1 j = knownL (mostU (lookL V nb) nb) (lookB (V j)) := by
    unfold openL bAt
    simp only [List.getD_eq_getElem?_getD, List.getElem?_map, List.getElem?_range hj, Option.map_some, Option.getD_some]
    rfl
  rw [e, h.look hj]
  rfl
theorem LX.last_eq (h : LX n nb k q d bs last V R) : lastU bs nb = last := by
  rcases lastU_spec bs nb with ⟨h1, h2⟩ | ⟨l, h1, h2, h3, h4⟩
  · rcases h.lst with ⟨g1, _⟩ | ⟨l', g1, g2, g3, _⟩
    · rw [h1, g1]
    · exact absurd (h2 l' g2) g3
  · rcases h.lst with ⟨_, g2⟩ | ⟨l', g1, g2, g3, g4⟩
    · have := g2 l h2; omega
    · by_cases e : l = l'
      · rw [h1, g1, e]
      · have a1 := g4 l h2 e
        have a2 := h4 l' g2
        omega
theorem LX.open_last (h : LX n nb k q d bs last V R) : (openL V nb).2 = last := by
  rw [← h.last_eq]
  show lastU ((List.range nb).map fun b => lookB (V b)) nb = _
  refine lastU_congr nb fun j hj => ?_
  have e : bAt ((List.range nb).map fun b => lookB (V b)) j = lookB (V j) := by
    unfold bAt
    simp only [List.getD_eq_getElem?_getD, List.getElem?_map, List.getElem?_range hj, Option.map_some, Option.getD_some]
  rw [e, h.look hj]
theorem openL_len (V : Nat → Blk) (nb : Nat) : (openL V nb).1.length = nb := by simp [openL]
theorem LX.opened (h : LX n nb k q d bs last V R) {dk : Nat} {tb : Tab} (hd : DV d.c tb.ts n k V) (hl : tb.ts.lost = d.t.ts.lost) (hu : tb.ts.uses = d.t.ts.uses) : LX n nb k q ⟨dk, tb, d.c⟩ (openL V nb).1 (openL V nb).2 V R := by
  have hs : ∀ j, j < nb → (bAt (openL V nb).1 j).seq = (bAt bs j).seq := fun j hj => by rw [h.open_at hj]
  refine ⟨h.num, openL_len V nb, hd, ⟨by show tb.ts.lost.length + FP d.c + FW d.c ≤ q.n; rw [hl]; exact h.acc.1, fun h0 => by show tb.ts.uses = q.u; rw [hu]; exact h.acc.2 h0⟩, h.af, fun j hj => ?_, ?_, fun j hj => by rw [hs j hj]; exact h.top j hj, fun i hi j hj hne hz => by rw [hs i hi] at hz ⊢; rw [hs j hj]; exact h.dis i hi j hj hne hz⟩
  · rw [h.open_at hj]
    rcases h.blk j hj with ⟨f, r⟩ | u
    · exact .inl ⟨⟨f.seq, rfl, f.next, f.wear⟩, r⟩
    · exact .inr ⟨u.seq, rfl, rfl, u.len, u.next, .inl (if_neg u.seq), u.wear, u.head, u.recs, u.good⟩
  · rw [h.open_last]
    rcases h.lst with ⟨h1, h2⟩ | ⟨l', h1, h2, h3, h4⟩
    · exact .inl ⟨h1, fun j hj => by rw [hs j hj]; exact h2 j hj⟩
    · exact .inr ⟨l', h1, h2, by rw [hs l' h2]; exact h3, fun j hj hne => by rw [hs j hj, hs l' h2]; exact h4 j hj hne⟩
theorem LX.us (h : LX n nb k q d bs last V R) {j : Nat} (hj : j < nb) (hs : (bAt bs j).seq.toNat ≠ 0) : UsedX (bAt bs j) (V j) (R j) := by
  rcases h.blk j hj with ⟨f, _⟩ | u
  · exact absurd f.seq hs
  · exact u
theorem LX.open_ns (h : LX n nb k q d bs last V R) : NS (openL V nb).1 nb R := fun j hj hs => by
  rw [h.open_at hj] at hs ⊢
  show (if _ then _ else _) = _
  rw [if_neg hs, (h.us hj hs).next]
theorem LX.open_free (h : LX n nb k q d bs last V R) : freeN (openL V nb).1 nb = freeN bs nb := freeN_congr nb fun j hj => by rw [h.open_at hj]
theorem LX.roomE (h : LX n nb k q d bs last V R) (hn : NS bs nb R) : roomN bs last = if last < 0 then 0 else 6 - ((R last.toNat).length : Int) := by
  unfold roomN
  split
  · rfl
  · obtain ⟨h1, h2⟩ := h.used (l := last.toNat) (by omega)
    rw [hn _ h1 h2.seq]; omega
theorem LX.rooms (h : LX n nb k q d bs last V R) : 0 ≤ last → 0 ≤ (bAt bs last.toNat).next ∧ (bAt bs last.toNat).next ≤ 8 := fun h0 => by
  have := h.lls h0
  omega
/-- The log that is opened again. -/
theorem again8_fn (h : LX n nb k q d bs last V R) : Does Tryz.prog 16 [ptr d.c.aC] (dkH d)
    (fun v H => ∃ (lg bb : Nat) (d' : Dsk), v = ptr lg ∧ H = (lg, true, C (lgC d'.dk bb nb (openL V nb).2) tLg) :: (bb, true, C (lbs (openL V nb).1) tLB) :: (dkH d' ++ []) ∧ d'.c = d.c ∧ LX n nb k q d' (openL V nb).1 (openL V nb).2 V R ∧ NS (openL V nb).1 nb R ∧ freeN (openL V nb).1 nb = freeN bs nb ∧ (openL V nb).2 = last) := by
  obtain ⟨t2, o1, o2, o4, o3⟩ := DV.again h.dv
  have hlen : d.c.blocks.length = n := DI.len (DV.di h.dv)
  have hw := (DV.di h.dv).wf
  have hn1 := hw.n1
  have hn2 := hw.n2
  refine fn_enter (n := 20) Tryz.func16 Tryz.ntmps16 rfl (Nat.le_of_ble_eq_true rfl) <| s_seq <| s_region0 fun ops => oA rfl <| o_nil <| n_K <| s_seq <| s_region0 fun ops => oM rfl ?_
  refine c_ex rfl (dk_open (d := d) (by omega) o1) sP rfl fun v9 Y9 h9 => ?_
  obtain ⟨dk, tb, rfl, rfl, htb⟩ := h9
  refine so_ap aQ ?_
  refine oM rfl <| oE rfl rfl <| oE rfl rfl <| oA rfl <| oA rfl <| o_nil <| n_K <| s_seq <| s_seq <| s_region0 fun ops => oM rfl <| oR (rd_eqNil rfl rfl) <| o_nil <| n_K ?_
  refine s_condF rfl ?_
  refine s_skip <| n_K <| s_seq <| s_region0 fun ops => oM rfl ?_
  refine c_ex rfl (open8_fn (d := ⟨dk, tb, d.c⟩) (nb := nb) (V := V) (n := n) (k := k) (by show DV d.c tb.ts n k V; rw [htb]; exact o3) h.num) sP rfl fun v16 Y16 h16 => ?_
  obtain ⟨lg, bb, rfl, rfl⟩ := h16
  refine so_ap aQ ?_
  refine oM rfl <| oE rfl rfl <| oE rfl rfl <| oA rfl <| oA rfl <| o_nil <| n_K <| s_seq <| s_region0 fun ops => oM rfl <| oA rfl <| o_nil <| n_K <| s_ret ?_
  exact leaf_r (rets1 Tryz.results16 (rv_tmp rfl)) (by exact ⟨lg, bb, ⟨dk, tb, d.c⟩, rfl, rfl, rfl, h.opened (by rw [htb]; exact o3) (by rw [htb, o2]) (by rw [htb, o4]), h.open_ns, h.open_free, h.open_last⟩) sP
/-! Append -/
/-- What Append answers, and what it changes. -/
inductive AppY (nb : Nat) (bs : List LB) (last : Int) (R : Nat → List Pg) (p : Pg) : Int → Int → Int → Int → List LB → (Nat → List Pg) → Prop
  | into {l : Nat} : last = l → l < nb → (bAt bs l).seq.toNat ≠ 0 → (bAt bs l).next = ((2 + (R l).length : Nat) : Int) → (R l).length < 6 → AppY nb bs last R p 0 l ((2 + (R l).length : Nat) : Int) last (bs.set l { bAt bs l with next := ((2 + (R l).length : Nat) : Int) + 1 }) (upR R l (R l ++ [p]))
  | none {pb pj : Int} : FullX bs last → toU bs nb < 0 → AppY nb bs last R p 40 pb pj last bs R
  | fresh {to : Nat} : FullX bs last → toU bs nb = to → to < nb → (bAt bs to).seq.toNat = 0 → (∀ j < nb, (bAt bs j).seq.toNat = 0 → (bAt bs to).wear.toNat ≤ (bAt bs j).wear.toNat) → (seqN bs last).toNat ≠ 0 → R to = [] → AppY nb bs last R p 0 to 2 to (bs.set to ⟨(bAt bs to).wear, true, seqN bs last, false, 3⟩) (upR R to [p])
theorem LX.y (h : LX n nb k q d bs last V R) (hk : k ≤ 300000) {p : Pg} {d' : Dsk} {bs' : List LB} {last' e pb pj : Int} (hA : AppX n nb k q d bs last R p d' bs' last' e pb pj) :
    ∃ R', AppY nb bs last R p e pb pj last' bs' R' ∧ ∃ V', LX n nb (k + 80) q d' bs' last' V' R' := by
  rcases hA with ⟨l, h1, h2, h3, rfl, rfl, rfl, rfl, rfl, V', h4⟩ | ⟨h1, h2, rfl, rfl, rfl, V', h3⟩ | ⟨h1, to, h2, h3, h4, rfl, rfl, rfl, rfl, rfl, V', h5⟩
  · exact ⟨_, .into h1 (h.used h1).1 (h.used h1).2.seq h2 h3, V', h4⟩
  · exact ⟨_, .none h1 h2, V', h3⟩
  · refine ⟨_, .fresh h1 h2 h3 h4 (fun j hj hz => ?_) (h.seqN (by omega)).1 ?_, V', h5⟩
    · rcases toU_spec bs nb with ⟨g1, _⟩ | ⟨l, g1, _, _, g4⟩
      · omega
      · have : l = to := by omega
        subst this
        exact g4 j hj hz
    · rcases h.blk to h3 with ⟨_, r⟩ | u
      · exact r
      · exact absurd h4 u.seq
theorem AppY.ns {nb : Nat} {bs bs' : List LB} {last last' e pb pj : Int} {R R' : Nat → List Pg} {p : Pg} (h : AppY nb bs last R p e pb pj last' bs' R') (hl : bs.length = nb) (hn : NS bs nb R) : NS bs' nb R' := by
  cases h with
  | @into l h1 h2 h3 h4 h5 =>
    intro j hj hs
    unfold upR
    rw [bAt_set (by omega)] at hs ⊢
    by_cases e : j = l
    · subst e; rw [if_pos rfl, if_pos rfl]; simp; omega
    · rw [if_neg e] at hs ⊢; rw [if_neg e]; exact hn j hj hs
  | none => exact hn
  | @fresh to h1 h2 h3 h4 h5 h6 h7 =>
    intro j hj hs
    unfold upR
    rw [bAt_set (by omega)] at hs ⊢
    by_cases e : j = to
    · subst e; rw [if_pos rfl, if_pos rfl]; rfl
    · rw [if_neg e] at hs ⊢; rw [if_neg e]; exact hn j hj hs
/-! segments -/
def recL (b : Int) (m : Nat) : List Pl2 := (List.range m).map fun i => (b, ((2 + i : Nat) : Int))
theorem recsN_eq {v : Blk} {b : Int} {m : Nat} (h1 : ∀ i < m, (getF (pgAt v (2 + i))).2.2.2 = 0) : ∀ i, i ≤ m → recsN v b (2 + i) = recL b i
  | 0, _ => recsN_2 v b
  | i + 1, h => by
    rw [show 2 + (i + 1) = (2 + i) + 1 by omega]
    unfold recsN
    rw [recsN_eq h1 i (by omega), if_pos ⟨by omega, h1 i (by omega)⟩]
    unfold recL
    rw [List.range_succ, List.map_append]
    rfl
theorem recsN_more {v : Blk} {b : Int} {m : Nat} (h2 : ∀ i, m ≤ i → 2 + i < 8 → (getF (pgAt v (2 + i))).2.2.2 ≠ 0) : ∀ i, m ≤ i → 2 + i ≤ 8 → recsN v b (2 + i) = recsN v b (2 + m)
  | 0, h, _ => by rw [show m = 0 by omega]
  | i + 1, h, h8 => by
    by_cases e : m = i + 1
    · rw [e]
    · rw [show 2 + (i + 1) = (2 + i) + 1 by omega]
      conv => lhs; unfold recsN
      rw [recsN_more h2 i (by omega) (by omega), if_neg (fun h9 => h2 i (by omega) (by omega) h9.2), List.append_nil]
theorem UsedX.segs {x : LB} {v : Blk} {r : List Pg} (u : UsedX x v r) (h : BI v) (b : Int) : recsN v b 8 = recL b r.length := by
  have hl := u.len
  have hn := u.next
  rw [show 8 = 2 + 6 from rfl, recsN_more (m := r.length) (fun i hi h8 => ?_) 6 hl (by omega), recsN_eq (m := r.length) (fun i hi => ?_) _ (Nat.le_refl _)]
  · rw [u.recs i hi]; exact (u.good _ (List.getElem_mem _)).get
  · rw [h.pg h8 (by rw [hn]; omega)]; exact get_blank blankP_blank
/-- What 'Segments' tells, block by block. -/
def segX (bs : List LB) (L : Nat → Nat) : Nat → List SV
  | 0 => []
  | j + 1 => segX bs L j ++ if (bAt bs j).seq.toNat = 0 then [] else [((j : Int), (bAt bs j).seq, (bAt bs j).wear, recL j (L j))]
theorem LX.segs (h : LX n nb k q d bs last V R) : ∀ j, j ≤ nb → segsN V bs j = segX bs (fun i => (R i).length) j
  | 0, _ => rfl
  | j + 1, hj => by
    unfold segsN segX
    rw [h.segs j (by omega)]
    by_cases e : (bAt bs j).seq.toNat = 0
    · rw [if_pos e, if_pos e]
    · rw [if_neg e, if_neg e]
      rcases h.blk j (by omega) with ⟨f, _⟩ | u
      · exact absurd f.seq e
      · rw [u.segs (h.bi (by omega))]
end
end Go.Proofs.YtkfcpjohblddmaaGreat
end
section
/- The exact regime: a block is dropped; a log is made anew; segments and blocks counted. -/
namespace Go.Proofs.YtkfcpjohblddmaaGreat
open Go.K
set_option linter.unusedVariables false
set_option linter.unusedSimpArgs false
set_option maxRecDepth 20000
set_option maxHeartbeats 1000000
section
variable {n nb k : Nat} {q : Qt} {d : Dsk} {bs bs' : List LB} {last last' e : Int} {V : Nat → Blk} {R R' : Nat → List Pg} {t' : Tab} {c' : Chip} {p : Pg} {pb pj : Int}
theorem LX.drop (h : LX n nb k q d bs last V R) {b : Nat} (hb : b < nb) (hD : DropR n nb (k + 40) q V bs last b d.c d.t.ts bs' last' e t'.ts c') (hs : (bAt bs b).seq.toNat ≠ 0) :
    e = 0 ∧ bs' = bs.set b (wiped ((bAt bs b).wear + 1)) ∧ last' = (if (b : Int) = last then lastU bs' nb else last) ∧ ∃ V', LX n nb (k + 40) q ⟨d.dk, t', c'⟩ bs' last' V' (upR R b []) := by
  have hlen := h.len
  have hsg : segB bs b = true := by unfold segB; simp; omega
  rcases hD with ⟨h1, _⟩ | ⟨_, hW, hl⟩
  · rw [hsg] at h1; cases h1
  rw [Int.toNat_natCast] at hW
  obtain ⟨w1, w2, v, w3⟩ := hW
  obtain ⟨rfl, w4, w5, w6, w7, w8⟩ := w3.resolve_right fun h9 => absurd h.af h9.2.2.1
  have hl := hl rfl
  refine ⟨rfl, w6, hl, upV V b v, ?_⟩
  have hb' : ∀ j, bAt bs' j = if j = b then wiped ((bAt bs b).wear + 1) else bAt bs j := fun j => by rw [w6, bAt_set (by omega)]
  have hz : (bAt bs' b).seq.toNat = 0 := by rw [hb', if_pos rfl]; rfl
  have ho : ∀ j, j ≠ b → bAt bs' j = bAt bs j := fun j hj => by rw [hb', if_neg hj]
  refine ⟨h.num, w1, w4, w5, by rw [(w2.pos h.af).1]; exact h.af, fun j hj => ?_, ?_, fun j hj => ?_, fun i hi j hj hne hzi => ?_⟩
  · unfold upV upR
    by_cases ej : j = b
    · subst ej
      rw [if_pos rfl, if_pos rfl, hb', if_pos rfl]
      exact .inl ⟨⟨rfl, rfl, w7, w8⟩, rfl⟩
    · rw [if_neg ej, if_neg ej, ho j ej]
      exact h.blk j hj
  · rw [hl]
    split
    · rcases lastU_spec bs' nb with ⟨g1, g2⟩ | ⟨l, g1, g2, g3, g4⟩
      · exact .inl ⟨g1, g2⟩
      · refine .inr ⟨l, g1, g2, by omega, fun j hj hne => ?_⟩
        have := g4 j hj
        by_cases eq : (bAt bs' j).seq.toNat = (bAt bs' l).seq.toNat
        · exfalso
          have hjb : j ≠ b := fun e => by rw [e, hz] at eq; omega
          have hlb : l ≠ b := fun e => by rw [e, hz] at g3; omega
          rw [ho j hjb, ho l hlb] at eq
          rw [ho l hlb] at g3
          exact h.dis l g2 j hj (Ne.symm hne) (by omega) eq.symm
        · omega
    · rename_i hne
      rcases h.lst with ⟨g1, g2⟩ | ⟨l, g1, g2, g3, g4⟩
      · exact absurd (g2 b hb) hs
      · have hlb : l ≠ b := fun e => hne (by omega)
        refine .inr ⟨l, g1, g2, by rw [ho l hlb]; exact g3, fun j hj hj2 => ?_⟩
        rw [ho l hlb]
        by_cases ej : j = b
        · rw [ej, hz]; omega
        · rw [ho j ej]; exact g4 j hj hj2
  · by_cases ej : j = b
    · rw [ej, hz]; omega
    · rw [ho j ej]; exact Nat.le_trans (h.top j hj) (by omega)
  · have hib : i ≠ b := fun e => hzi (by rw [e, hz])
    rw [ho i hib] at hzi ⊢
    by_cases ej : j = b
    · rw [ej, hz]; exact hzi
    · rw [ho j ej]; exact h.dis i hi j hj hne hzi
theorem drop_ns {b : Nat} {w : Wd} (hb : b < bs.length) (hn : NS bs nb R) : NS (bs.set b (wiped w)) nb (upR R b []) := fun j hj hs => by
  unfold upR
  rw [bAt_set hb] at hs ⊢
  by_cases e : j = b
  · rw [if_pos e] at hs; exact absurd rfl hs
  · rw [if_neg e] at hs ⊢
    rw [if_neg e]; exact hn j hj hs
theorem LX.anew (h : LX n nb k q d bs last V R) {V' : Nat → Blk} (hN : NwI n nb k q d.c (openL V nb).1 nb t' c' bs' V') :
    LX n nb (k + 40 * nb) q ⟨d.dk, t', c'⟩ bs' (-1) V' (fun _ => []) ∧ ∀ j < nb, bAt bs' j = wiped ((bAt bs j).wear + 1) := by
  have hw : ∀ j < nb, bAt bs' j = wiped ((bAt bs j).wear + 1) ∧ (V' j).next = 1 ∧ pgAt (V' j) 0 = wearP ((bAt bs j).wear + 1) := fun j hj => by
    have := hN.new j hj
    unfold newW at this
    rw [h.open_at hj, if_pos rfl] at this
    exact this
  refine ⟨⟨h.num, hN.len, hN.dv, hN.acc, by rw [(hN.fr.pos h.af).1]; exact h.af, fun j hj => ?_, .inl ⟨rfl, fun j hj => by rw [(hw j hj).1]; rfl⟩, fun j hj => by rw [(hw j hj).1]; exact Nat.zero_le _, fun i hi j hj hne hs => by rw [(hw i hi).1] at hs; exact absurd rfl hs⟩, fun j hj => (hw j hj).1⟩
  rw [(hw j hj).1]
  exact .inl ⟨⟨rfl, rfl, (hw j hj).2.1, (hw j hj).2.2⟩, rfl⟩
/-! counting -/
def z1 (x : LB) : Nat := if x.seq.toNat = 0 then 1 else 0
theorem freeN_succ (bs : List LB) (k : Nat) : freeN bs (k + 1) = freeN bs k + z1 (bAt bs k) := rfl
theorem freeN_set {b : Nat} {x : LB} (hb : b < bs.length) : ∀ k, b < k → freeN (bs.set b x) k + z1 (bAt bs b) = freeN bs k + z1 x
  | 0, h => by omega
  | k + 1, h => by
    rw [freeN_succ, freeN_succ]
    by_cases e : b = k
    · subst e
      rw [bAt_set hb, if_pos rfl, freeN_congr (cs := bs) b fun j hj => by rw [bAt_set hb, if_neg (by omega)]]
      omega
    · have := freeN_set (x := x) hb k (by omega)
      rw [bAt_set hb, if_neg (by omega)]
      omega
theorem freeN_pos {k b : Nat} (hb : b < k) (hz : (bAt bs b).seq.toNat = 0) : 0 < freeN bs k := by
  induction k with
  | zero => omega
  | succ k ih =>
    rw [freeN_succ]
    by_cases e : b = k
    · subst e; unfold z1; rw [if_pos hz]; omega
    · have := ih (by omega); omega
theorem freeN_zero {k : Nat} : freeN bs k = 0 ↔ ∀ j < k, (bAt bs j).seq.toNat ≠ 0 := by
  refine ⟨fun h j hj hz => ?_, fun h => ?_⟩
  · have := freeN_pos hj hz; omega
  · induction k with
    | zero => rfl
    | succ k ih =>
      rw [freeN_succ, ih fun j hj => h j (by omega)]
      unfold z1
      rw [if_neg (h k (by omega))]
theorem freeN_all {k : Nat} (h : ∀ j < k, (bAt bs j).seq.toNat = 0) : freeN bs k = k := by
  induction k with
  | zero => rfl
  | succ k ih =>
    rw [freeN_succ, ih fun j hj => h j (by omega)]
    unfold z1
    rw [if_pos (h k (by omega))]
theorem toU_free {nb : Nat} : toU bs nb < 0 ↔ freeN bs nb = 0 := by
  rw [freeN_zero]
  rcases toU_spec bs nb with ⟨h1, h2⟩ | ⟨l, h1, h2, h3, h4⟩
  · exact ⟨fun _ => h2, fun _ => by omega⟩
  · exact ⟨fun h => by omega, fun h => absurd h3 (h l h2)⟩
theorem segX_len {L : Nat → Nat} : ∀ k, (segX bs L k).length + freeN bs k = k
  | 0 => rfl
  | k + 1 => by
    have ih := segX_len (L := L) k
    rw [freeN_succ]
    unfold segX z1
    rw [List.length_append]
    split <;> simp <;> omega
theorem segX_mem {L : Nat → Nat} {x : SV} : ∀ {k}, x ∈ segX bs L k ↔ ∃ j < k, (bAt bs j).seq.toNat ≠ 0 ∧ x = ((j : Int), (bAt bs j).seq, (bAt bs j).wear, recL j (L j))
  | 0 => by simp [segX]
  | k + 1 => by
    have ih := segX_mem (L := L) (x := x) (k := k)
    unfold segX
    rw [List.mem_append, ih]
    constructor
    · rintro (⟨j, h1, h2⟩ | h)
      · exact ⟨j, by omega, h2⟩
      · split at h
        · cases h
        · rename_i hz; exact ⟨k, by omega, hz, by simpa using h⟩
    · rintro ⟨j, h1, h2, h3⟩
      by_cases e : j = k
      · subst e; rw [if_neg h2]; exact .inr (by simpa using h3)
      · exact .inl ⟨j, by omega, h2, h3⟩
theorem AppY.len (h : AppY nb bs last R p e pb pj last' bs' R') : bs'.length = bs.length := by
  cases h <;> simp
theorem AppY.wear (h : AppY nb bs last R p e pb pj last' bs' R') (hl : bs.length = nb) (j : Nat) : (bAt bs' j).wear = (bAt bs j).wear := by
  cases h with
  | @into l h1 h2 => rw [bAt_set (by omega)]; split <;> simp_all
  | none => rfl
  | @fresh to h1 h2 h3 => rw [bAt_set (by omega)]; split <;> simp_all
theorem AppY.err (h : AppY nb bs last R p e pb pj last' bs' R') : e = 0 ∨ e = 40 := by
  cases h <;> simp
theorem segmentsX_fn {lg bb : Nat} (h : LX n nb k q d bs last V R) (h12 : nb ≤ freeN bs nb + 12) : Does Tryz.prog 14 [ptr lg] ((lg, true, C (lgC d.dk bb nb last) tLg) :: (bb, true, C (lbs bs) tLB) :: (dkH d ++ []))
    (fun v H => ∃ (s : Sl Seg) (l0 : List Seg), v = s.val ∧ H = s.hp tSeg ++ (recH l0 ++ ((lg, true, C (lgC d.dk bb nb last) tLg) :: (bb, true, C (lbs bs) tLB) :: (dkH d ++ []))) ∧ l0.Perm s.list ∧ s.isOwn = true ∧ (s.list.map segV).Perm (segX bs (fun i => (R i).length) nb) ∧ SortTo s.list s.list.length ∧ (∀ x ∈ s.list, x.recs.isOwn = true) ∧ s.list.length + freeN bs nb = nb) := by
  have hw := (DV.di h.dv).wf
  have hn2 := hw.n2
  have e := h.segs nb (Nat.le_refl _)
  have hlen := segX_len (bs := bs) (L := fun i => (R i).length) nb
  refine (segments_fn h.dv h.num hn2 h.len (by rw [e]; omega)).mono ?_
  rintro v H ⟨s, l0, h1, h2, h3, h4, h5, h6, h7⟩
  rw [e] at h5
  have h8 := h5.length_eq
  rw [List.length_map] at h8
  exact ⟨s, l0, h1, h2, h3, h4, h5, h6, h7, by omega⟩
end
end Go.Proofs.YtkfcpjohblddmaaGreat
end
section
/- Logs that are filled; the example of the document. -/
namespace Go.Proofs.YtkfcpjohblddmaaGreat
open Go.K
set_option linter.unusedVariables false
set_option linter.unusedSimpArgs false
instance ent8 : Ent Tryz.prog 8 := ⟨fun _ _ => by kernel_rfl⟩
set_option maxRecDepth 20000
set_option maxHeartbeats 1000000
/-- So many records were appended to an empty log. -/
structure Fill (nb : Nat) (bs : List LB) (last : Int) (R : Nat → List Pg) (i : Nat) : Prop where
  ns : NS bs nb R
  fr : freeN bs nb + (i + 5) / 6 = nb
  la : last < 0 ↔ i = 0
  rl : ∀ l : Nat, last = l → (R l).length = (i - 1) % 6 + 1
  al : ∀ j < nb, (bAt bs j).seq.toNat ≠ 0 → (j : Int) ≠ last → (R j).length = 6
section
variable {n nb k : Nat} {q : Qt} {i : Nat} {d : Dsk} {bs bs' : List LB} {last last' e : Int} {V : Nat → Blk} {R R' : Nat → List Pg} {p : Pg} {pb pj : Int}
theorem FullX.len (f : FullX bs last) (h : LX n nb k q d bs last V R) (hn : NS bs nb R) : last < 0 ∨ ∃ l : Nat, last = l ∧ (R l).length = 6 := by
  rcases f with h1 | ⟨l, h1, h2⟩
  · exact .inl h1
  · obtain ⟨h3, u⟩ := h.used h1
    have := hn l h3 u.seq
    exact .inr ⟨l, h1, by omega⟩
theorem AppY.fill (h : AppY nb bs last R p e pb pj last' bs' R') (hX : LX n nb k q d bs last V R) (f : Fill nb bs last R i) (h0 : 0 < nb) :
    (i < 6 * nb ∧ e = 0 ∧ pj = ((2 + i % 6 : Nat) : Int) ∧ Fill nb bs' last' R' (i + 1)) ∨ (i = 6 * nb ∧ e = 40 ∧ bs' = bs ∧ last' = last ∧ R' = R) := by
  have hl := hX.len
  have hns := h.ns hl f.ns
  have hfr := f.fr
  have hla := f.la
  cases h with
  | @into l h1 h2 h3 h4 h5 =>
    have hr := f.rl l h1
    have hi : i ≠ 0 := fun e => by have := hla.2 e; omega
    refine .inl ⟨by omega, rfl, by congr 1; omega, hns, ?_, ⟨fun h => by omega, fun h => by omega⟩, fun l' hl' => ?_, fun j hj hs hne => ?_⟩
    · have := freeN_set (bs := bs) (b := l) (x := { bAt bs l with next := ((2 + (R l).length : Nat) : Int) + 1 }) (by omega) nb h2
      unfold z1 at this
      rw [if_neg h3] at this
      have h9 : freeN (bs.set l { bAt bs l with next := ((2 + (R l).length : Nat) : Int) + 1 }) nb = freeN bs nb := this
      omega
    · have : l' = l := by omega
      subst this
      unfold upR
      rw [if_pos rfl, List.length_append]
      simp
      omega
    · have hjl : j ≠ l := by omega
      rw [bAt_set (by omega), if_neg hjl] at hs
      unfold upR
      rw [if_neg hjl]
      exact f.al j hj hs hne
  | none h1 h2 =>
    have hz := toU_free.1 h2
    rcases h1.len hX f.ns with h3 | ⟨l, h3, h4⟩
    · have := hla.1 h3; omega
    · have hr := f.rl l h3
      have hi : i ≠ 0 := fun e => by have := hla.2 e; omega
      exact .inr ⟨by omega, rfl, rfl, rfl, rfl⟩
  | @fresh to h1 h2 h3 h4 h5 h6 h7 =>
    have hp := freeN_pos h3 h4
    have him : i % 6 = 0 := by
      rcases h1.len hX f.ns with h3 | ⟨l, h3, h4⟩
      · have := hla.1 h3; omega
      · have hr := f.rl l h3
        have hi : i ≠ 0 := fun e => by have := hla.2 e; omega
        omega
    refine .inl ⟨by omega, rfl, by rw [him]; rfl, hns, ?_, ⟨fun h => by omega, fun h => by omega⟩, fun l' hl' => ?_, fun j hj hs hne => ?_⟩
    · have := freeN_set (bs := bs) (b := to) (x := ⟨(bAt bs to).wear, true, seqN bs last, false, 3⟩) (by omega) nb h3
      unfold z1 at this
      rw [if_pos h4, if_neg h6] at this
      omega
    · have : l' = to := by omega
      subst this
      unfold upR
      rw [if_pos rfl]
      simp
      omega
    · have hjl : j ≠ to := by omega
      rw [bAt_set (by omega), if_neg hjl] at hs
      unfold upR
      rw [if_neg hjl]
      by_cases hjlast : (j : Int) = last
      · rcases h1.len hX f.ns with h8 | ⟨l, h8, h9⟩
        · omega
        · have : l = j := by omega
          subst this; exact h9
      · exact f.al j hj hs hjlast
theorem fill0 (h0 : ∀ j < nb, bAt bs j = wiped 1) : Fill nb bs (-1) (fun _ => []) 0 where
  ns := fun j hj hs => by rw [h0 j hj] at hs; exact absurd rfl hs
  fr := by rw [freeN_all fun j hj => by rw [h0 j hj]; rfl]; omega
  la := by simp
  rl := fun l hl => by omega
  al := fun j hj hs => by rw [h0 j hj] at hs; exact absurd rfl hs
theorem Fill.room (f : Fill nb bs last R i) (h : LX n nb k q d bs last V R) : roomN bs last = ((if i % 6 = 0 then 0 else 6 - i % 6 : Nat) : Int) := by
  rw [h.roomE f.ns]
  have hla := f.la
  split
  · rename_i h1
    have := hla.1 h1
    subst this
    rfl
  · rename_i h1
    have hr := f.rl last.toNat (by omega)
    have hi : i ≠ 0 := fun e => by have := hla.2 e; omega
    split <;> omega
end
abbrev q3 : Qt := ⟨3, []⟩
theorem q3_ne {m : Nat} : q3.n = 0 → q3.u = fmtV (badL m []) ((m : Int) - 6) m := fun h => absurd h (by decide)
/-- A log is laid. -/
theorem laidX_fn {m nb : Nat} {q : Qt} (hq : q.n = 0 → q.u = fmtV (badL m []) ((m : Int) - 6) m) (hm : 16 ≤ m ∧ m ≤ 40) (hnb : nb + 6 = m) : Does Tryz.prog 9 [.int .i64 (m : Nat)] []
    (fun v H => ∃ (lg bb : Nat) (d : Dsk) (bs : List LB) (V : Nat → Blk), v = ptr lg ∧ H = (lg, true, C (lgC d.dk bb nb (-1)) tLg) :: (bb, true, C (lbs bs) tLB) :: (dkH d ++ []) ∧ LX m nb 2000 q d bs (-1) V (fun _ => []) ∧ (∀ j < nb, bAt bs j = wiped 1) ∧ Fill nb bs (-1) (fun _ => []) 0) := by
  refine (laid8_fn hm (fx_all hm)).mono ?_
  rintro v H ⟨lg, bb, d, bs, V, rfl, rfl, hL⟩
  have hl : bs.length = nb := by have := hL.len; omega
  have h0 : ∀ j < nb, bAt bs j = wiped 1 := fun j hj => (hL.at (by omega)).1
  refine ⟨lg, bb, d, bs, V, rfl, by rw [hl], ?_, h0, fill0 h0⟩
  have := hL.lx q hq
  rwa [hl] at this
section
variable {n nb k : Nat} {q : Qt} {lg bb : Nat} {d : Dsk} {bs : List LB} {last : Int} {V : Nat → Blk} {R : Nat → List Pg}
/-- Append, of a body in one part. -/
theorem appS_fn (h : LX n nb k q d bs last V R) (hk : k ≤ 300000) (hq : q.n ≤ 3) {kind : By} {b : Nat} {s : Sl By} (hw : 3 < kind.toNat ∧ wrong kind s.list = false) :
    Does Tryz.prog 10 [ptr lg, bv kind, .slice (some ⟨b, 0, none⟩) 1 1] ((lg, true, C (lgC d.dk bb nb last) tLg) :: (bb, true, C (lbs bs) tLB) :: (dkH d ++ ((b, true, C [s.val] tSB) :: (s.hp tU8 ++ []))))
    (fun v H => ∃ (d' : Dsk) (bs' : List LB) (last' e pb pj : Int) (R' : Nat → List Pg), v = .tuple #[.agg #[.int .i64 pb, .int .i64 pj], .int .i64 e] ∧ H = (lg, true, C (lgC d'.dk bb nb last') tLg) :: (bb, true, C (lbs bs') tLB) :: (dkH d' ++ []) ∧
      AppY nb bs last R (pageW kind s.list) e pb pj last' bs' R' ∧ d'.dk = d.dk ∧ ∃ V', LX n nb (k + 80) q d' bs' last' V' R') := by
  have e2 : (Sl.own b [s] 1 [] ⟨by simp, Nat.le_refl _, by simp⟩ : Sl (Sl By)).list = [s] := rfl
  have e3 : joinB [s] = s.list := by simp [joinB]
  have hle : s.list.length ≤ 240 := by have := hw.2; unfold wrong at this; simp at this; omega
  have hh := appX_fn (lg := lg) (bb := bb) h hk hq (kind := kind) (qs := .own b [s] 1 [] ⟨by simp, Nat.le_refl _, by simp⟩) (by rw [e2, e3]; omega)
  have e := one_parts (b := b) (s := s) (L := [])
  rw [e2, ← e, e3] at hh
  refine hh.mono ?_
  rintro v H ⟨d', bs', last', e, pb, pj, h1, h2, h3, h4⟩
  obtain ⟨_, _, h5⟩ := h4.resolve_left (fun h9 => by rcases h9.1 with h8 | h8; omega; rw [hw.2] at h8; cases h8)
  obtain ⟨R', h6, h7⟩ := h.y hk h5
  exact ⟨d', bs', last', e, pb, pj, R', h2, h3, h6, h1, h7⟩
/-- Append, of no parts. -/
theorem appN_fn (h : LX n nb k q d bs last V R) (hk : k ≤ 300000) (hq : q.n ≤ 3) {kind : By} (hw : 3 < kind.toNat ∧ wrong kind [] = false) :
    Does Tryz.prog 10 [ptr lg, bv kind, .slice none 0 0] ((lg, true, C (lgC d.dk bb nb last) tLg) :: (bb, true, C (lbs bs) tLB) :: (dkH d ++ []))
    (fun v H => ∃ (d' : Dsk) (bs' : List LB) (last' e pb pj : Int) (R' : Nat → List Pg), v = .tuple #[.agg #[.int .i64 pb, .int .i64 pj], .int .i64 e] ∧ H = (lg, true, C (lgC d'.dk bb nb last') tLg) :: (bb, true, C (lbs bs') tLB) :: (dkH d' ++ []) ∧
      AppY nb bs last R (pageW kind []) e pb pj last' bs' R' ∧ d'.dk = d.dk ∧ ∃ V', LX n nb (k + 80) q d' bs' last' V' R') := by
  have hh := appX_fn (lg := lg) (bb := bb) h hk hq (kind := kind) (qs := (Sl.nil : Sl (Sl By))) (by decide)
  rw [Sl.hp_nil, show partsH (Sl.nil : Sl (Sl By)).list = [] from partsH_nil] at hh
  refine hh.mono ?_
  rintro v H ⟨d', bs', last', e, pb, pj, h1, h2, h3, h4⟩
  obtain ⟨_, _, h5⟩ := h4.resolve_left (fun h9 => by rcases h9.1 with h8 | h8; omega; (have h8 : wrong kind [] = true := h8; rw [hw.2] at h8; cases h8))
  obtain ⟨R', h6, h7⟩ := h.y hk h5
  exact ⟨d', bs', last', e, pb, pj, R', h2, h3, h6, h1, h7⟩
/-- Append, of one byte. -/
theorem app1_fn (h : LX n nb k q d bs last V R) (hk : k ≤ 300000) (hq : q.n ≤ 3) {kind x : By} {b a : Nat} (hw : 3 < kind.toNat ∧ wrong kind [x] = false) :
    Does Tryz.prog 10 [ptr lg, bv kind, .slice (some ⟨b, 0, none⟩) 1 1] ((lg, true, C (lgC d.dk bb nb last) tLg) :: (bb, true, C (lbs bs) tLB) :: (dkH d ++ ((b, true, C [.slice (some ⟨a, 0, none⟩) 1 1] tSB) :: (a, true, C [bv x] tU8) :: [])))
    (fun v H => ∃ (d' : Dsk) (bs' : List LB) (last' e pb pj : Int) (R' : Nat → List Pg), v = .tuple #[.agg #[.int .i64 pb, .int .i64 pj], .int .i64 e] ∧ H = (lg, true, C (lgC d'.dk bb nb last') tLg) :: (bb, true, C (lbs bs') tLB) :: (dkH d' ++ []) ∧
      AppY nb bs last R (pageW kind [x]) e pb pj last' bs' R' ∧ d'.dk = d.dk ∧ ∃ V', LX n nb (k + 80) q d' bs' last' V' R') := by
  have hh := appS_fn (lg := lg) (bb := bb) h hk hq (b := b) (s := .own a [x] 1 [] ⟨by simp, Nat.le_refl _, by simp⟩) (kind := kind) hw
  rw [Sl.hp_own] at hh
  exact hh
end
theorem right1 {kind x : By} (h : 3 < kind.toNat ∧ kind.toNat < 255) : 3 < kind.toNat ∧ wrong kind [x] = false := ⟨h.1, by unfold wrong; simp; omega⟩
theorem right0 {kind : By} (h : 3 < kind.toNat ∧ kind.toNat < 255) : 3 < kind.toNat ∧ wrong kind [] = false := ⟨h.1, by unfold wrong; simp; omega⟩
theorem speaks8_fn : Does Tryz.prog 8 [] [] (Is (.bool true) []) := by
  refine fn_enter (n := 40) Tryz.func8 Tryz.ntmps8 rfl (Nat.le_of_ble_eq_true rfl) <| s_seq <| s_region0 fun ops => oA rfl <| o_nil <| n_K <| s_seq <| s_region0 fun ops => ?_
  refine c_ex rfl (laidX_fn (m := 16) (nb := 10) (q := q3) q3_ne (by decide) rfl) sP rfl fun v5 Y5 h5 => ?_
  obtain ⟨lg, bb, d, bs, V, rfl, rfl, hX, h0, hF⟩ := h5
  refine so_ap aQ ?_
  refine oA rfl <| o_nil <| n_K <| s_seq <| s_seq <| s_region0 fun ops => oM rfl <| oR (rd_eqNil rfl rfl) <| o_nil <| n_K ?_
  refine s_condF rfl ?_
  refine s_skip <| n_K <| s_seq <| s_seq <| s_region0 fun ops => oA rfl <| o_nil <| n_K <| s_block ?_
  refine s_loop2 [1] kQ (fun (st : Nat × Dsk × List LB × Int) => [(2, .int .i64 st.1)]) (fun (st : Nat × Dsk × List LB × Int) => (lg, true, C (lgC st.2.1.dk bb 10 st.2.2.2) tLg) :: (bb, true, C (lbs st.2.2.1) tLB) :: (dkH st.2.1 ++ [])) (fun (st : Nat × Dsk × List LB × Int) => st.1 ≤ 7 ∧ ∃ V R, LX 16 10 (2000 + 80 * st.1) q3 st.2.1 st.2.2.1 st.2.2.2 V R ∧ Fill 10 st.2.2.1 st.2.2.2 R st.1) (fun (st : Nat × Dsk × List LB × Int) => 7 - st.1) ((0, d, bs, -1)) ⟨Nat.zero_le _, V, _, hX, hF⟩ kP sP ?_
  rintro ⟨i, d1, cs, la⟩ ⟨g0, V1, R1, g1, g2⟩
  simp only at g0 g1 g2
  refine s_seq <| s_seq <| s_region0 fun ops => oM rfl <| oR (rd_bin rfl rfl rfl) <| o_nil <| n_K ?_
  refine s_cond rfl (fun c9 => ?_) (fun c9 => ?_)
  · simp only [decide_eq_true_eq, decide_eq_false_iff_not] at c9
    have hi : i < 7 := (by omega)
    refine s_skip <| n_K <| s_seq <| s_block <| s_seq <| s_region0 fun ops => oM rfl <| oM rfl ?_
    refine oR (show Rd _ _ _ _ (bv (byteI (i : Nat))) from by (unfold bv; rw [← byte_i64]; exact rd_convI rfl)) ?_
    refine o_bslice_k rfl rfl rfl rfl fun b16 => ?_
    refine o_bslice_k rfl rfl rfl rfl fun b17 => ?_
    refine c_ex rfl (app1_fn g1 (by omega) (by decide) (kind := 10) (x := byteI (i : Nat)) (b := b17) (a := b16) (right1 (by decide))) sP rfl fun v18 Y18 h18 => ?_
    obtain ⟨d', cs', la', e, pb, pj, R', rfl, rfl, hY, _, V', hX'⟩ := h18
    obtain ⟨_, rfl, rfl, hF'⟩ := (hY.fill g1 g2 (by decide)).resolve_right (fun h9 => by omega)
    refine so_ap aQ ?_
    refine oM rfl <| oE rfl rfl <| oE rfl rfl ?_
    refine o_alloc rfl fun b3 => ?_
    refine o_store rfl rfl uD rfl rfl rfl ?_
    refine oA rfl <| o_nil <| n_K <| s_seq ?_
    refine s_region [(2, 23)] rfl fun ops y => ?_
    refine oM rfl <| oR (rd_bin rfl rfl rfl) <| oM rfl ?_
    refine' o_or (j := 2) (k := 6) y rfl rfl rfl rfl rfl rfl rfl (fun hg23 => ?_) ?_
    rotate_left
    · try (simp at hg23; show _)
      refine o_g y rfl rfl ?_
      refine oF rfl ?_
      refine o_g y rfl rfl ?_
      refine oR (rd_ld rfl mM rfl) ?_
      refine o_g y rfl rfl ?_
      refine oM rfl ?_
      refine o_g y rfl rfl ?_
      refine oR (rd_remN (i := i) (m := 6) rfl rfl (by omega)) ?_
      refine o_g y rfl rfl ?_
      refine oR (rd_add64 rfl rfl (by omega)) ?_
      refine o_g y rfl rfl ?_
      refine oR (rd_bin rfl rfl rfl) ?_
      exact o_nil ⟨rfl, rfl, ⟨_, sP⟩⟩
    refine o_nil <| n_K ?_
    refine s_cond rfl (fun c30 => ?_) (fun c30 => ?_)
    · skip
      try (exfalso; (simp at c30 <;> omega); done)
      all_goals
        refine s_seq <| s_region0 fun ops => oA rfl <| o_nil <| n_K <| s_ret <| r_blk <| r_K <| r_K <| r_blk <| r_K ?_
        refine leaf_is (rets1 Tryz.results8 (rv_tmp rfl)) ?_ sP
        have h1 : roomN cs la = 5 := g2.room g1; have h2 := g2.fr; simp; omega
    · skip
      refine s_skip <| n_blk <| n_K <| s_region0 fun ops => oM rfl ?_
      refine oR (rd_add64 rfl rfl (by omega)) ?_
      refine oA rfl <| o_nil <| n_K ?_
      exact ⟨(i + 1, d', cs', la'), ⟨by simp only; omega, V', R', hX', hF'⟩, (by simp only; omega), lZ⟩
  · simp only [decide_eq_true_eq, decide_eq_false_iff_not] at c9
    have hi : i = 7 := (by omega)
    subst hi
    refine s_exit <| x_K <| x_K <| x_blk <| n_K <| s_seq ?_
    refine s_region [(4, 35)] rfl fun ops y => ?_
    refine oM rfl ?_
    refine c_ex rfl (segmentsX_fn g1 (by have := g2.fr; omega)) sP rfl fun v32 Y32 h32 => ?_
    obtain ⟨s, l0, rfl, rfl, _, _, _, _, _, hsl⟩ := h32
    refine so_ap aQ ?_
    refine oR (rd_lenS rfl) <| oR (rd_bin rfl rfl rfl) <| oM rfl ?_
    refine' o_and (j := 4) (k := 3) y rfl rfl rfl rfl rfl rfl rfl (fun hg35 => ?_) ?_
    rotate_left
    · try (simp at hg35; show _)
      refine o_g y rfl rfl ?_
      refine oM rfl ?_
      refine o_g y rfl rfl ?_
      refine c_is rfl (room_fn (nb := 10) g1.len g1.rng g1.rooms) sP rfl aQ ?_
      refine o_g y rfl rfl ?_
      refine oR (rd_bin rfl rfl rfl) ?_
      exact o_nil ⟨rfl, rfl, ⟨_, sP⟩⟩
    refine oA rfl <| o_nil <| n_K <| s_ret ?_
    refine leaf_is (rets1 Tryz.results8 (rv_tmp rfl)) ?_ sP
    have h1 : roomN cs la = 5 := g2.room g1; have h2 := g2.fr; simp; omega
end Go.Proofs.YtkfcpjohblddmaaGreat
end
section
/- The laws LogRoom and LogFull. -/
namespace Go.Proofs.YtkfcpjohblddmaaGreat
open Go.K
set_option linter.unusedVariables false
set_option linter.unusedSimpArgs false
instance ent4 : Ent Tryz.prog 4 := ⟨fun _ _ => by kernel_rfl⟩
set_option maxRecDepth 20000
set_option maxHeartbeats 1000000
theorem LX.ulen {n nb k : Nat} {q : Qt} {d : Dsk} {bs : List LB} {last : Int} {V : Nat → Blk} {R : Nat → List Pg} (h : LX n nb k q d bs last V R) : d.t.u.list.length = nb := by
  have h1 : d.t.u.list.length + 6 = n := (DV.di h.dv).wf.len
  have h2 := h.num
  omega
theorem room8_fn {n : Int} : Does Tryz.prog 4 [.int .i64 n] [] (fun v H => v = .bool true) := by
  obtain ⟨kk, hkk, hkl⟩ := and_le n 127 (by decide)
  have hkk' : ibits .and .i64 n 127 = (kk : Int) := hkk
  refine fn_enter (n := 95) Tryz.func4 Tryz.ntmps4 rfl (Nat.le_of_ble_eq_true rfl) <| s_seq <| s_region0 fun ops => oA rfl <| o_nil <| n_K <| s_seq <| s_seq <| s_region0 fun ops => ?_
  refine c_is rfl (speaks8_fn) sP rfl aQ ?_
  refine oR (rd_not rfl) <| o_nil <| n_K ?_
  refine s_condF rfl ?_
  refine s_skip <| n_K <| s_seq <| s_region0 fun ops => ?_
  refine c_ex rfl (laidX_fn (m := 18) (nb := 12) (q := q3) q3_ne (by decide) rfl) sP rfl fun v12 Y12 h12 => ?_
  obtain ⟨lg, bb, d, bs, V, rfl, rfl, hX, h0, hF⟩ := h12
  refine so_ap aQ ?_
  refine oA rfl <| o_nil <| n_K <| s_seq <| s_seq <| s_region0 fun ops => oM rfl <| oR (rd_eqNil rfl rfl) <| o_nil <| n_K ?_
  refine s_condF rfl ?_
  refine s_skip <| n_K <| s_seq <| s_region0 fun ops => oM rfl <| oN rfl <| oF rfl ?_
  refine oR (rd_ld rfl mM rfl) ?_
  refine c_is rfl ((dk_len (d := d)).to (by rw [hX.ulen]) rfl) sP rfl aQ ?_
  refine oA rfl <| o_nil <| n_K <| s_seq <| s_seq <| s_region0 fun ops => oA rfl <| o_nil <| n_K <| s_block ?_
  refine s_loop2 [0, 3] kQ (fun (st : Nat × Dsk × List LB × Int) => [(5, .int .i64 st.1), (4, .int .i64 (freeN st.2.2.1 12 : Nat))]) (fun (st : Nat × Dsk × List LB × Int) => (lg, true, C (lgC st.2.1.dk bb 12 st.2.2.2) tLg) :: (bb, true, C (lbs st.2.2.1) tLB) :: (dkH st.2.1 ++ [])) (fun (st : Nat × Dsk × List LB × Int) => st.1 ≤ kk ∧ ∃ V R, LX 18 12 (2000 + 80 * st.1) q3 st.2.1 st.2.2.1 st.2.2.2 V R ∧ Fill 12 st.2.2.1 st.2.2.2 R st.1) (fun (st : Nat × Dsk × List LB × Int) => kk - st.1) ((0, d, bs, -1)) ⟨Nat.zero_le _, V, _, hX, hF⟩ (by rw [show ((freeN bs 12 : Nat) : Int) = 12 from by have := hF.fr; omega]; exact kP) sP ?_
  rintro ⟨i, d1, cs, la⟩ ⟨g0, V1, R1, g1, g2⟩
  simp only at g0 g1 g2
  refine s_seq <| s_seq <| s_region0 fun ops => oM rfl <| oM rfl ?_
  refine oR (show Rd _ _ _ _ (.int .i64 (kk : Nat)) from by (rw [← hkk']; exact rd_bin rfl rfl rfl)) ?_
  refine oR (rd_bin rfl rfl rfl) <| o_nil <| n_K ?_
  refine s_cond rfl (fun c23 => ?_) (fun c23 => ?_)
  · simp only [decide_eq_true_eq, decide_eq_false_iff_not] at c23
    have hi : i < kk := (by omega)
    refine s_skip <| n_K <| s_seq <| s_block <| s_seq <| s_region0 fun ops => oM rfl ?_
    refine c_is rfl (room_fn (nb := 12) g1.len g1.rng g1.rooms) sP rfl aQ ?_
    refine oA rfl <| o_nil <| n_K <| s_seq <| s_region0 fun ops => oM rfl <| oM rfl ?_
    refine oR (show Rd _ _ _ _ (bv (byteI (i : Nat))) from by (unfold bv; rw [← byte_i64]; exact rd_convI rfl)) ?_
    refine o_bslice_k rfl rfl rfl rfl fun b32 => ?_
    refine o_bslice_k rfl rfl rfl rfl fun b33 => ?_
    refine c_ex rfl (app1_fn g1 (by omega) (by decide) (kind := 70) (x := byteI (i : Nat)) (b := b33) (a := b32) (right1 (by decide))) sP rfl fun v34 Y34 h34 => ?_
    obtain ⟨d', cs', la', e, pb, pj, R', rfl, rfl, hY, _, V', hX'⟩ := h34
    have hy := hY.fill g1 g2 (by decide)
    have hr := g2.room g1
    have hfr := g2.fr
    refine so_ap aQ ?_
    refine oM rfl <| oE rfl rfl <| oE rfl rfl ?_
    refine o_alloc rfl fun b7 => ?_
    refine o_store rfl rfl uD rfl rfl rfl ?_
    refine oA rfl <| o_nil <| n_K <| s_seq <| s_seq <| s_region0 fun ops => oM rfl <| oR (rd_bin rfl rfl rfl) <| o_nil <| n_K ?_
    refine s_cond rfl (fun c38 => ?_) (fun c38 => ?_)
    · skip
      have c38 : e ≠ 0 := (by simpa using c38)
      obtain ⟨h1, rfl, rfl, rfl, rfl⟩ := hy.resolve_left (fun h9 => c38 h9.2.1)
      refine s_seq ?_
      refine s_region [(2, 41), (6, 45)] rfl fun ops y => ?_
      refine oM rfl <| oR (rd_bin rfl rfl rfl) <| oM rfl ?_
      refine' o_and (j := 2) (k := 2) y rfl rfl rfl rfl rfl rfl rfl (fun hg41 => ?_) ?_
      rotate_left
      · try (simp at hg41; show _)
        refine o_g y rfl rfl ?_
        refine oM rfl ?_
        refine o_g y rfl rfl ?_
        refine oR (rd_bin rfl rfl rfl) ?_
        exact o_nil ⟨rfl, rfl, ⟨_, sP⟩⟩
      refine oM rfl ?_
      refine' o_and (j := 6) (k := 2) y rfl rfl rfl rfl rfl rfl rfl (fun hg45 => ?_) ?_
      rotate_left
      · try (simp at hg45; show _)
        refine o_g y rfl rfl ?_
        refine oM rfl ?_
        refine o_g y rfl rfl ?_
        refine oR (rd_bin rfl rfl rfl) ?_
        exact o_nil ⟨rfl, rfl, ⟨_, sP⟩⟩
      refine oA rfl <| o_nil <| n_K <| s_ret <| r_K <| r_blk <| r_K <| r_K <| r_blk <| r_K ?_
      exact leaf_r (rets1 Tryz.results4 (rv_tmp rfl)) (by have h7 : freeN cs' 12 = 0 := (by omega); have h8 : roomN cs' la' = 0 := (by rw [hr, if_pos (by omega)]; rfl); simp [h7, h8]) sP
    · skip
      have c38 : e = 0 := (by simpa using c38)
      obtain ⟨h1, _, rfl, hF'⟩ := hy.resolve_right (fun h9 => by rw [c38] at h9; exact absurd h9.2.1 (by decide))
      have hr' := hF'.room hX'
      have hfr' := hF'.fr
      refine s_skip <| n_K <| s_seq <| s_seq <| s_region0 fun ops => oM rfl <| oR (rd_bin rfl rfl rfl) <| o_nil <| n_K ?_
      refine s_cond rfl (fun c50 => ?_) (fun c50 => ?_)
      · simp only [decide_eq_true_eq, decide_eq_false_iff_not] at c50
        have hfT : ((freeN cs' 12 : Nat) : Int) = (freeN cs 12 : Nat) - 1 := (by rw [hr] at c50; split at c50 <;> omega)
        have hi6 : i % 6 = 0 := (by rw [hr] at c50; split at c50 <;> omega)
        have hr6 : roomN cs' la' = 5 := (by rw [hr', if_neg (by omega)]; omega)
        refine s_seq <| s_region0 fun ops => oM rfl ?_
        refine oR (rd_sub64 rfl rfl (by simp only; omega)) ?_
        refine oA rfl <| o_nil <| n_K <| s_region0 fun ops => oA rfl <| o_nil <| n_K <| s_seq ?_
        refine s_region [(5, 58), (11, 64)] rfl fun ops y => ?_
        refine oM rfl ?_
        refine c_is rfl (room_fn (nb := 12) hX'.len hX'.rng hX'.rooms) sP rfl aQ ?_
        refine oM rfl ?_
        refine oR (rd_sub64 rfl rfl (by omega)) ?_
        refine oR (rd_bin rfl rfl rfl) <| oM rfl ?_
        refine' o_or (j := 5) (k := 4) y rfl rfl rfl rfl rfl rfl rfl (fun hg58 => ?_) ?_
        rotate_left
        · try (simp at hg58; show _)
          refine o_g y rfl rfl ?_
          refine oM rfl ?_
          refine o_g y rfl rfl ?_
          refine c_is rfl (free_fn (nb := 12) hX'.len (by decide)) sP rfl aQ ?_
          refine o_g y rfl rfl ?_
          refine oM rfl ?_
          refine o_g y rfl rfl ?_
          refine oR (rd_bin rfl rfl rfl) ?_
          exact o_nil ⟨rfl, rfl, ⟨_, sP⟩⟩
        refine oM rfl ?_
        refine' o_or (j := 11) (k := 5) y rfl rfl rfl rfl rfl rfl rfl (fun hg64 => ?_) ?_
        rotate_left
        · try (simp at hg64; show _)
          refine o_g y rfl rfl ?_
          refine oF rfl ?_
          refine o_g y rfl rfl ?_
          refine oR (rd_ld rfl mM rfl) ?_
          refine o_g y rfl rfl ?_
          refine oM rfl ?_
          refine o_g y rfl rfl ?_
          refine oR (rd_sub64 rfl rfl (by omega)) ?_
          refine o_g y rfl rfl ?_
          refine oR (rd_bin rfl rfl rfl) ?_
          exact o_nil ⟨rfl, rfl, ⟨_, sP⟩⟩
        refine o_nil <| n_K ?_
        refine s_cond rfl (fun c70 => ?_) (fun c70 => ?_)
        · skip
          try (exfalso; (first | (simp [hr6, hfT] at c70; omega) | (simp [hr7, hfF, hr8] at c70; omega) | (simp [hr6, hfT, hi6] at c70; done) | (simp [hr7, hfF, hr8] at c70; done)); done)
          all_goals
            refine s_seq <| s_region0 fun ops => oA rfl <| o_nil <| n_K <| s_ret <| r_blk <| r_K <| r_K <| r_blk <| r_K ?_
            exact leaf_r (rets1 Tryz.results4 (rv_tmp rfl)) (by have h8 : roomN (openL V1 12).1 (openL V1 12).2 = roomN cs la := (by rw [hX2.roomE hN2, g1.roomE g2.ns, hl2]); simp [h8, hf2]) sP
        · skip
          refine s_skip <| n_blk <| n_K <| s_region0 fun ops => oM rfl ?_
          refine oR (rd_add64 rfl rfl (by omega)) ?_
          refine oA rfl <| o_nil <| n_K ?_
          first | exact ⟨(i + 1, d', cs', la'), ⟨by simp only; omega, V', R', hX', hF'⟩, (by simp only; omega), (by simp only; rw [hfT]; exact kP), kP, _, sP⟩ | exact ⟨(i + 1, d', cs', la'), ⟨by simp only; omega, V', R', hX', hF'⟩, (by simp only; omega), (by simp only; rw [hfF]; exact kP), kP, _, sP⟩
      · simp only [decide_eq_true_eq, decide_eq_false_iff_not] at c50
        have hi6 : i % 6 ≠ 0 := (fun h9 => by rw [hr, if_pos h9] at c50; exact c50 rfl)
        have hfF : ((freeN cs' 12 : Nat) : Int) = (freeN cs 12 : Nat) := (by omega)
        have hr7 : roomN cs' la' = roomN cs la - 1 := (by rw [hr', hr, if_neg hi6]; split <;> omega)
        have hr8 : roomN cs la = 6 - ((i % 6 : Nat) : Int) := (by rw [hr, if_neg hi6]; omega)
        refine s_skip <| n_K <| s_seq ?_
        refine s_region [(5, 58), (11, 64)] rfl fun ops y => ?_
        refine oM rfl ?_
        refine c_is rfl (room_fn (nb := 12) hX'.len hX'.rng hX'.rooms) sP rfl aQ ?_
        refine oM rfl ?_
        refine oR (rd_sub64 rfl rfl (by omega)) ?_
        refine oR (rd_bin rfl rfl rfl) <| oM rfl ?_
        refine' o_or (j := 5) (k := 4) y rfl rfl rfl rfl rfl rfl rfl (fun hg58 => ?_) ?_
        rotate_left
        · try (simp at hg58; show _)
          refine o_g y rfl rfl ?_
          refine oM rfl ?_
          refine o_g y rfl rfl ?_
          refine c_is rfl (free_fn (nb := 12) hX'.len (by decide)) sP rfl aQ ?_
          refine o_g y rfl rfl ?_
          refine oM rfl ?_
          refine o_g y rfl rfl ?_
          refine oR (rd_bin rfl rfl rfl) ?_
          exact o_nil ⟨rfl, rfl, ⟨_, sP⟩⟩
        refine oM rfl ?_
        refine' o_or (j := 11) (k := 5) y rfl rfl rfl rfl rfl rfl rfl (fun hg64 => ?_) ?_
        rotate_left
        · try (simp at hg64; show _)
          refine o_g y rfl rfl ?_
          refine oF rfl ?_
          refine o_g y rfl rfl ?_
          refine oR (rd_ld rfl mM rfl) ?_
          refine o_g y rfl rfl ?_
          refine oM rfl ?_
          refine o_g y rfl rfl ?_
          refine oR (rd_sub64 rfl rfl (by omega)) ?_
          refine o_g y rfl rfl ?_
          refine oR (rd_bin rfl rfl rfl) ?_
          exact o_nil ⟨rfl, rfl, ⟨_, sP⟩⟩
        refine o_nil <| n_K ?_
        refine s_cond rfl (fun c70 => ?_) (fun c70 => ?_)
        · skip
          try (exfalso; (first | (simp [hr6, hfT] at c70; omega) | (simp [hr7, hfF, hr8] at c70; omega) | (simp [hr6, hfT, hi6] at c70; done) | (simp [hr7, hfF, hr8] at c70; done)); done)
          all_goals
            refine s_seq <| s_region0 fun ops => oA rfl <| o_nil <| n_K <| s_ret <| r_blk <| r_K <| r_K <| r_blk <| r_K ?_
            exact leaf_r (rets1 Tryz.results4 (rv_tmp rfl)) (by have h8 : roomN (openL V1 12).1 (openL V1 12).2 = roomN cs la := (by rw [hX2.roomE hN2, g1.roomE g2.ns, hl2]); simp [h8, hf2]) sP
        · skip
          refine s_skip <| n_blk <| n_K <| s_region0 fun ops => oM rfl ?_
          refine oR (rd_add64 rfl rfl (by omega)) ?_
          refine oA rfl <| o_nil <| n_K ?_
          first | exact ⟨(i + 1, d', cs', la'), ⟨by simp only; omega, V', R', hX', hF'⟩, (by simp only; omega), (by simp only; rw [hfT]; exact kP), kP, _, sP⟩ | exact ⟨(i + 1, d', cs', la'), ⟨by simp only; omega, V', R', hX', hF'⟩, (by simp only; omega), (by simp only; rw [hfF]; exact kP), kP, _, sP⟩
  · simp only [decide_eq_true_eq, decide_eq_false_iff_not] at c23
    refine s_exit <| x_K <| x_K <| x_blk <| n_K <| s_seq <| s_region0 fun ops => oM rfl <| oN rfl <| oF rfl ?_
    refine oR (rd_ld rfl mM rfl) ?_
    refine oN rfl <| oF rfl ?_
    refine oR (rd_dc (d := d1) rfl pL) ?_
    refine c_ex rfl (again8_fn g1) sP rfl fun v78 Y78 h78 => ?_
    obtain ⟨lg2, bb2, d2, rfl, rfl, hdc, hX2, hN2, hf2, hl2⟩ := h78
    refine so_ap aQ ?_
    refine oA rfl <| o_nil <| n_K <| s_seq ?_
    refine s_region [(2, 81), (9, 88)] rfl fun ops y => ?_
    refine oM rfl <| oR (rd_neNil rfl rfl) <| oM rfl ?_
    refine' o_and (j := 2) (k := 5) y rfl rfl rfl rfl rfl rfl rfl (fun hg81 => ?_) ?_
    rotate_left
    · try (simp at hg81; show _)
      refine o_g y rfl rfl ?_
      refine oM rfl ?_
      refine o_g y rfl rfl ?_
      refine c_is rfl (room_fn (nb := 12) hX2.len hX2.rng hX2.rooms) sP rfl aQ ?_
      refine o_g y rfl rfl ?_
      refine oM rfl ?_
      refine o_g y rfl rfl ?_
      refine c_is rfl (room_fn (nb := 12) g1.len g1.rng g1.rooms) sP rfl aQ ?_
      refine o_g y rfl rfl ?_
      refine oR (rd_bin rfl rfl rfl) ?_
      exact o_nil ⟨rfl, rfl, ⟨_, sP⟩⟩
    refine oM rfl ?_
    refine' o_and (j := 9) (k := 5) y rfl rfl rfl rfl rfl rfl rfl (fun hg88 => ?_) ?_
    rotate_left
    · try (simp at hg88; show _)
      refine o_g y rfl rfl ?_
      refine oM rfl ?_
      refine o_g y rfl rfl ?_
      refine c_is rfl (free_fn (nb := 12) hX2.len (by decide)) sP rfl aQ ?_
      refine o_g y rfl rfl ?_
      refine oM rfl ?_
      refine o_g y rfl rfl ?_
      refine c_is rfl (free_fn (nb := 12) g1.len (by decide)) sP rfl aQ ?_
      refine o_g y rfl rfl ?_
      refine oR (rd_bin rfl rfl rfl) ?_
      exact o_nil ⟨rfl, rfl, ⟨_, sP⟩⟩
    refine oA rfl <| o_nil <| n_K <| s_ret ?_
    exact leaf_r (rets1 Tryz.results4 (rv_tmp rfl)) (by have h8 : roomN (openL V1 12).1 (openL V1 12).2 = roomN cs la := (by rw [hX2.roomE hN2, g1.roomE g2.ns, hl2]); simp [h8, hf2]) sP
end Go.Proofs.YtkfcpjohblddmaaGreat
end
section
/- The law LogFull. -/
namespace Go.Proofs.YtkfcpjohblddmaaGreat
open Go.K
set_option linter.unusedVariables false
set_option linter.unusedSimpArgs false
instance ent5 : Ent Tryz.prog 5 := ⟨fun _ _ => by kernel_rfl⟩
set_option maxRecDepth 20000
set_option maxHeartbeats 1000000
theorem new0n_fn {pp : Nat} {n : Int} (hn : okNew n [] = false) : Does Tryz.prog 21 [ptr pp, .int .i64 n, .slice none 0 0] [(pp, true, C [.bool false, .int .i64 (-1), .int .i64 0] tPw)]
    (fun v H => v = .tuple #[.pointer none, .int .i64 1] ∧ H = []) := by
  have h := new2_fn (pp := pp) (n := n) (s := .nil) (T := tI)
  rw [Sl.hp_nil] at h
  refine h.mono fun v H hh => ?_
  rcases hh with ⟨aC, aB, h1, h2, h3⟩ | ⟨h1, h2, _⟩
  · rw [show (Sl.nil : Sl Int).list = [] from rfl, hn] at h3; cases h3
  · exact ⟨h1, h2⟩
theorem laidN_fn {m : Int} (hm : ¬ (16 ≤ m ∧ m ≤ 40)) : Does Tryz.prog 9 [.int .i64 m] [] (Is (.pointer none) []) := by
  have hok : okNew m [] = false := by
    cases h : okNew m [] with
    | false => rfl
    | true => exact absurd (okNew_in h) hm
  refine fn_enter (n := 30) Tryz.func9 Tryz.ntmps9 rfl (Nat.le_of_ble_eq_true rfl) <| s_seq <| s_region0 fun ops => oA rfl <| o_nil <| n_K <| s_seq <| s_region0 fun ops => ?_
  refine c_ex rfl (newPower_fn) sP rfl fun v10 Y10 h10 => ?_
  obtain ⟨p10, rfl, rfl⟩ := h10
  refine so_ap aQ ?_
  refine oM rfl ?_
  refine c_ex rfl (new0n_fn hok) sP rfl fun v12 Y12 h12 => ?_
  obtain ⟨rfl, rfl⟩ := h12
  refine so_ap aQ ?_
  refine oM rfl <| oE rfl rfl <| oE rfl rfl <| oA rfl <| oA rfl <| o_nil <| n_K <| s_seq <| s_seq <| s_region0 fun ops => oM rfl <| oR (rd_eqNil rfl rfl) <| o_nil <| n_K ?_
  refine s_condT rfl ?_
  refine s_seq <| s_region0 fun ops => oA rfl <| o_nil <| n_K <| s_ret <| r_K ?_
  refine leaf_is (rets1 Tryz.results9 (rv_tmp rfl)) ?_ sP
  rfl
theorem LX.mono {n nb k k' : Nat} {q : Qt} {d : Dsk} {bs : List LB} {last : Int} {V : Nat → Blk} {R : Nat → List Pg} (h : LX n nb k q d bs last V R) (hk : k ≤ k') : LX n nb k' q d bs last V R :=
  ⟨h.num, h.len, DV.mono h.dv hk, h.acc, h.af, h.blk, h.lst, fun j hj => Nat.le_trans (h.top j hj) hk, h.dis⟩
/-- All blocks are full but one, of which so many records are there. -/
structure Refill (nb : Nat) (bs : List LB) (last : Int) (R : Nat → List Pg) (b m : Nat) : Prop where
  ns : NS bs nb R
  al : ∀ j < nb, j ≠ b → (bAt bs j).seq.toNat ≠ 0 ∧ (R j).length = 6
  st : (m = 0 ∧ (bAt bs b).seq.toNat = 0) ∨ (0 < m ∧ last = b ∧ (bAt bs b).seq.toNat ≠ 0 ∧ (R b).length = m)
section
variable {n nb k : Nat} {q : Qt} {i b m : Nat} {d : Dsk} {bs bs' : List LB} {last last' e : Int} {V : Nat → Blk} {R R' : Nat → List Pg} {p : Pg} {pb pj : Int}
theorem AppY.refill (h : AppY nb bs last R p e pb pj last' bs' R') (hX : LX n nb k q d bs last V R) (f : Refill nb bs last R b m) (hb : b < nb) :
    (m < 6 ∧ e = 0 ∧ pb = b ∧ Refill nb bs' last' R' b (m + 1)) ∨ (m = 6 ∧ e = 40) := by
  have hl := hX.len
  have hns := h.ns hl f.ns
  cases h with
  | @into l h1 h2 h3 h4 h5 =>
    have hlb : l = b := by
      by_cases e : l = b
      · exact e
      · have := (f.al l h2 e).2; omega
    subst hlb
    rcases f.st with ⟨_, h6⟩ | ⟨h6, _, _, h7⟩
    · exact absurd h6 h3
    · refine .inl ⟨by omega, rfl, rfl, hns, fun j hj hne => ?_, .inr ⟨by omega, h1, ?_, ?_⟩⟩
      · unfold upR
        rw [bAt_set (by omega), if_neg hne, if_neg hne]
        exact f.al j hj hne
      · rw [bAt_set (by omega), if_pos rfl]; exact h3
      · unfold upR
        rw [if_pos rfl, List.length_append]
        simp
        omega
  | none h1 h2 =>
    have hz := freeN_zero.1 (toU_free.1 h2)
    rcases f.st with ⟨_, h6⟩ | ⟨h6, h7, _, h8⟩
    · exact absurd h6 (hz b hb)
    · rcases h1.len hX f.ns with h3 | ⟨l, h3, h4⟩
      · omega
      · have : l = b := by omega
        subst this
        exact .inr ⟨by omega, rfl⟩
  | @fresh to h1 h2 h3 h4 h5 h6 h7 =>
    have htb : to = b := by
      by_cases e : to = b
      · exact e
      · exact absurd h4 (f.al to h3 e).1
    subst htb
    rcases f.st with ⟨h8, _⟩ | ⟨_, _, h8, _⟩
    · refine .inl ⟨by omega, rfl, rfl, hns, fun j hj hne => ?_, .inr ⟨by omega, rfl, ?_, ?_⟩⟩
      · unfold upR
        rw [bAt_set (by omega), if_neg hne, if_neg hne]
        exact f.al j hj hne
      · rw [bAt_set (by omega), if_pos rfl]; exact h6
      · unfold upR
        rw [if_pos rfl]
        simp
        omega
    · exact absurd h4 h8
theorem Fill.full (f : Fill nb bs last R i) (hi : i = 6 * nb) (h0 : 0 < nb) : ∀ j < nb, (bAt bs j).seq.toNat ≠ 0 ∧ (R j).length = 6 := fun j hj => by
  have hz := freeN_zero.1 (show freeN bs nb = 0 by have := f.fr; omega) j hj
  refine ⟨hz, ?_⟩
  by_cases e : (j : Int) = last
  · have := f.rl j e.symm; omega
  · exact f.al j hj hz e
theorem refill0 (hX : LX n nb k q d bs last V R) (hns : NS bs nb R) (hf : ∀ j < nb, (bAt bs j).seq.toNat ≠ 0 ∧ (R j).length = 6) (hb : b < nb) {w : Wd} : Refill nb (bs.set b (wiped w)) last' (upR R b []) b 0 := by
  have hl := hX.len
  refine ⟨drop_ns (by omega) hns, fun j hj hne => ?_, .inl ⟨rfl, by rw [bAt_set (by omega), if_pos rfl]; rfl⟩⟩
  unfold upR
  rw [bAt_set (by omega), if_neg hne, if_neg hne]
  exact hf j hj
end
theorem full8N_fn {n dr : Int} (hm : ¬ (16 ≤ n ∧ n ≤ 40)) : Does Tryz.prog 5 [.int .i64 n, .int .i64 dr] [] (fun v H => v = .bool true) := by
  refine fn_enter (n := 105) Tryz.func5 Tryz.ntmps5 rfl (Nat.le_of_ble_eq_true rfl) <| s_seq <| s_region0 fun ops => oA rfl <| o_nil <| n_K <| s_seq <| s_seq <| s_region0 fun ops => ?_
  refine c_is rfl (speaks8_fn) sP rfl aQ ?_
  refine oR (rd_not rfl) <| o_nil <| n_K ?_
  refine s_condF rfl ?_
  refine s_skip <| n_K <| s_seq <| s_region0 fun ops => oM rfl ?_
  refine c_is rfl (laidN_fn hm) sP rfl aQ ?_
  refine oA rfl <| o_nil <| n_K <| s_seq <| s_seq <| s_region0 fun ops => oM rfl <| oR (rd_eqNil rfl rfl) <| o_nil <| n_K ?_
  refine s_condT rfl ?_
  refine s_seq ?_
  refine s_region [(2, 26)] rfl fun ops y => ?_
  refine oM rfl <| oR (rd_bin rfl rfl rfl) <| oM rfl ?_
  refine' o_or (j := 2) (k := 2) y rfl rfl rfl rfl rfl rfl rfl (fun hg26 => ?_) ?_
  rotate_left
  · try (simp at hg26; show _)
    refine o_g y rfl rfl ?_
    refine oM rfl ?_
    refine o_g y rfl rfl ?_
    refine oR (rd_bin rfl rfl rfl) ?_
    exact o_nil ⟨rfl, rfl, ⟨_, sP⟩⟩
  refine oA rfl <| o_nil <| n_K <| s_ret <| r_K ?_
  exact leaf_r (rets1 Tryz.results5 (rv_tmp rfl)) (by simp; omega) sP
theorem full8Y_fn {M nb : Nat} {dr : Int} (hM : 16 ≤ M ∧ M ≤ 40) (hnb : nb + 6 = M) : Does Tryz.prog 5 [.int .i64 (M : Nat), .int .i64 dr] [] (fun v H => v = .bool true) := by
  obtain ⟨kk, hkk, hkl⟩ := and_ffff dr
  refine fn_enter (n := 105) Tryz.func5 Tryz.ntmps5 rfl (Nat.le_of_ble_eq_true rfl) <| s_seq <| s_region0 fun ops => oA rfl <| o_nil <| n_K <| s_seq <| s_seq <| s_region0 fun ops => ?_
  refine c_is rfl (speaks8_fn) sP rfl aQ ?_
  refine oR (rd_not rfl) <| o_nil <| n_K ?_
  refine s_condF rfl ?_
  refine s_skip <| n_K <| s_seq <| s_region0 fun ops => oM rfl ?_
  refine c_ex rfl (laidX_fn (m := M) (nb := nb) (q := q3) q3_ne hM hnb) sP rfl fun v21 Y21 h21 => ?_
  obtain ⟨lg, bb, d, bs, V, rfl, rfl, hX, h0, hF⟩ := h21
  refine so_ap aQ ?_
  refine oA rfl <| o_nil <| n_K <| s_seq <| s_seq <| s_region0 fun ops => oM rfl <| oR (rd_eqNil rfl rfl) <| o_nil <| n_K ?_
  refine s_condF rfl ?_
  refine s_skip <| n_K <| s_seq <| s_region0 fun ops => oM rfl <| oN rfl <| oF rfl ?_
  refine oR (rd_ld rfl mM rfl) ?_
  refine c_is rfl ((dk_len (d := d)).to (by rw [hX.ulen]) rfl) sP rfl aQ ?_
  refine oR (show Rd _ _ _ _ (.int .i64 ((6 * nb : Nat) : Int)) from by (rw [Int.natCast_mul]; exact rd_mul64 rfl rfl (by omega))) ?_
  refine oA rfl <| o_nil <| n_K <| s_seq <| s_seq <| s_region0 fun ops => oA rfl <| o_nil <| n_K <| s_block ?_
  refine s_loop2 [1, 5, 6] kQ (fun (st : Nat × Dsk × List LB × Int) => [(7, .int .i64 st.1)]) (fun (st : Nat × Dsk × List LB × Int) => (lg, true, C (lgC st.2.1.dk bb nb st.2.2.2) tLg) :: (bb, true, C (lbs st.2.2.1) tLB) :: (dkH st.2.1 ++ [])) (fun (st : Nat × Dsk × List LB × Int) => st.1 ≤ 6 * nb ∧ ∃ V R, LX M nb (2000 + 80 * st.1) q3 st.2.1 st.2.2.1 st.2.2.2 V R ∧ Fill nb st.2.2.1 st.2.2.2 R st.1) (fun (st : Nat × Dsk × List LB × Int) => 6 * nb - st.1) ((0, d, bs, -1)) ⟨Nat.zero_le _, V, _, hX, hF⟩ kP sP ?_
  rintro ⟨i, d1, cs, la⟩ ⟨g0, V1, R1, g1, g2⟩
  simp only at g0 g1 g2
  refine s_seq <| s_seq <| s_region0 fun ops => oM rfl <| oM rfl <| oR (rd_bin rfl rfl rfl) <| o_nil <| n_K ?_
  refine s_cond rfl (fun c38 => ?_) (fun c38 => ?_)
  · simp only [decide_eq_true_eq, decide_eq_false_iff_not] at c38
    have hi : i < 6 * nb := (by omega)
    refine s_skip <| n_K <| s_seq <| s_block <| s_seq <| s_region0 fun ops => oM rfl <| oM rfl ?_
    refine oR (show Rd _ _ _ _ (bv (byteI (i : Nat))) from by (unfold bv; rw [← byte_i64]; exact rd_convI rfl)) ?_
    refine o_bslice_k rfl rfl rfl rfl fun b45 => ?_
    refine o_bslice_k rfl rfl rfl rfl fun b46 => ?_
    refine c_ex rfl (app1_fn g1 (by omega) (by decide) (kind := 60) (x := byteI (i : Nat)) (b := b46) (a := b45) (right1 (by decide))) sP rfl fun v47 Y47 h47 => ?_
    obtain ⟨d', cs', la', e, pb, pj, R', rfl, rfl, hY, _, V', hX'⟩ := h47
    obtain ⟨_, rfl, rfl, hF'⟩ := (hY.fill g1 g2 (by omega)).resolve_right (fun h9 => by have := h9.1; omega)
    refine so_ap aQ ?_
    refine oM rfl <| oE rfl rfl <| oE rfl rfl ?_
    refine o_alloc rfl fun b8 => ?_
    refine o_store rfl rfl uD rfl rfl rfl ?_
    refine oA rfl <| o_nil <| n_K <| s_seq <| s_region0 fun ops => oM rfl <| oR (rd_bin rfl rfl rfl) <| o_nil <| n_K ?_
    refine s_cond rfl (fun c51 => ?_) (fun c51 => ?_)
    · skip
      try (exfalso; (simp at c51); done)
      all_goals
        refine s_seq <| s_region0 fun ops => oA rfl <| o_nil <| n_K <| s_ret <| r_blk <| r_K <| r_K <| r_blk <| r_K ?_
        exact leaf_r (rets1 Tryz.results5 (rv_tmp rfl)) (by simp) sP
    · skip
      refine s_skip <| n_blk <| n_K <| s_region0 fun ops => oM rfl ?_
      refine oR (rd_add64 rfl rfl (by omega)) ?_
      refine oA rfl <| o_nil <| n_K ?_
      exact ⟨(i + 1, d', cs', la'), ⟨by simp only; omega, V', R', hX', hF'⟩, (by simp only; omega), lZ⟩
  · simp only [decide_eq_true_eq, decide_eq_false_iff_not] at c38
    have hi : i = 6 * nb := (by omega)
    have hfull := g2.full hi (by omega)
    refine s_exit <| x_K <| x_K <| x_blk <| n_K <| s_seq <| s_seq <| s_region0 fun ops => oM rfl ?_
    refine c_ex rfl (appN_fn g1 (by omega) (by decide) (kind := 60) (right0 (by decide))) sP rfl fun v54 Y54 h54 => ?_
    obtain ⟨d2, cs2, la2, e2, pb2, pj2, R2, rfl, rfl, hY2, _, V2, hX2⟩ := h54
    obtain ⟨_, rfl, rfl, rfl, rfl⟩ := (hY2.fill g1 g2 (by omega)).resolve_left (fun h9 => by have := h9.1; omega)
    have hfr := g2.fr
    have hrm := g2.room g1
    rw [if_pos (by omega)] at hrm
    refine so_ap aQ ?_
    refine oM rfl <| oE rfl rfl <| oE rfl rfl ?_
    refine o_alloc rfl fun b10 => ?_
    refine o_store rfl rfl uD rfl rfl rfl ?_
    refine oA rfl <| o_nil <| n_K <| s_seq ?_
    refine s_region [(2, 59), (7, 64)] rfl fun ops y => ?_
    refine oM rfl <| oR (rd_bin rfl rfl rfl) <| oM rfl ?_
    refine' o_or (j := 2) (k := 3) y rfl rfl rfl rfl rfl rfl rfl (fun hg59 => ?_) ?_
    rotate_left
    · try (simp at hg59; show _)
      refine o_g y rfl rfl ?_
      refine oM rfl ?_
      refine o_g y rfl rfl ?_
      refine c_is rfl ((free_fn (nb := nb) hX2.len (by omega)).to (by rw [show freeN cs2 nb = 0 by omega]) rfl) sP rfl aQ ?_
      refine o_g y rfl rfl ?_
      refine oR (rd_bin rfl rfl rfl) ?_
      exact o_nil ⟨rfl, rfl, ⟨_, sP⟩⟩
    refine oM rfl ?_
    refine' o_or (j := 7) (k := 3) y rfl rfl rfl rfl rfl rfl rfl (fun hg64 => ?_) ?_
    rotate_left
    · try (simp at hg64; show _)
      refine o_g y rfl rfl ?_
      refine oM rfl ?_
      refine o_g y rfl rfl ?_
      refine c_is rfl ((room_fn (nb := nb) hX2.len hX2.rng hX2.rooms).to (by rw [hrm]) rfl) sP rfl aQ ?_
      refine o_g y rfl rfl ?_
      refine oR (rd_bin rfl rfl rfl) ?_
      exact o_nil ⟨rfl, rfl, ⟨_, sP⟩⟩
    refine o_nil <| n_K ?_
    refine s_cond rfl (fun c68 => ?_) (fun c68 => ?_)
    · skip
      try (exfalso; (simp at c68); done)
      all_goals
        refine s_seq <| s_region0 fun ops => oA rfl <| o_nil <| n_K <| s_ret <| r_K ?_
        exact leaf_r (rets1 Tryz.results5 (rv_tmp rfl)) (by simp) sP
    · skip
      refine s_skip <| n_K <| s_seq <| s_region0 fun ops => oM rfl ?_
      refine oR (show Rd _ _ _ _ (.int .i64 (kk : Nat)) from by (rw [← hkk]; exact rd_bin rfl rfl rfl)) ?_
      refine oM rfl <| oN rfl <| oF rfl ?_
      refine oR (rd_ld rfl mM rfl) ?_
      refine c_is rfl ((dk_len (d := d2)).to (by rw [hX2.ulen]) rfl) sP rfl aQ ?_
      refine oR (rd_remN (i := kk) (m := nb) rfl rfl (by omega)) ?_
      refine oA rfl <| o_nil <| n_K <| s_seq <| s_seq <| s_region0 fun ops => oM rfl <| oM rfl ?_
      refine c_ex rfl (drop_fn (d := d2) (bb := bb) (last := la2) (bs := cs2) hX2.dv (by omega) (by decide) hX2.acc hX2.num hX2.len (b := (kk % nb : Nat))) sP rfl fun v79 Y79 h79 => ?_
      obtain ⟨t3, c3, cs3, la3, e3, rfl, rfl, hD⟩ := h79
      have hbn : kk % nb < nb := Nat.mod_lt _ (by omega)
      obtain ⟨rfl, rfl, _, V3, hX3⟩ := hX2.drop hbn hD (hfull _ hbn).1
      have hR := refill0 (last' := la3) (w := (bAt cs2 (kk % nb)).wear + 1) hX2 g2.ns hfull hbn
      refine so_ap aQ ?_
      refine oR (rd_bin rfl rfl rfl) <| o_nil <| n_K ?_
      refine s_cond rfl (fun c80 => ?_) (fun c80 => ?_)
      · skip
        try (exfalso; (simp at c80); done)
        all_goals
          refine s_seq <| s_region0 fun ops => oA rfl <| o_nil <| n_K <| s_ret <| r_K ?_
          exact leaf_r (rets1 Tryz.results5 (rv_tmp rfl)) (by simp) sP
      · skip
        refine s_skip <| n_K <| s_seq <| s_seq <| s_region0 fun ops => oA rfl <| o_nil <| n_K <| s_block ?_
        refine s_loop2 [5, 12] kQ (fun (st : Nat × Dsk × List LB × Int) => [(13, .int .i64 st.1)]) (fun (st : Nat × Dsk × List LB × Int) => (lg, true, C (lgC st.2.1.dk bb nb st.2.2.2) tLg) :: (bb, true, C (lbs st.2.2.1) tLB) :: (dkH st.2.1 ++ [])) (fun (st : Nat × Dsk × List LB × Int) => st.1 ≤ 6 ∧ ∃ V R, LX M nb (40000 + 80 * st.1) q3 st.2.1 st.2.2.1 st.2.2.2 V R ∧ Refill nb st.2.2.1 st.2.2.2 R (kk % nb) st.1) (fun (st : Nat × Dsk × List LB × Int) => 6 - st.1) ((0, ⟨d2.dk, t3, c3⟩, cs2.set (kk % nb) (wiped ((bAt cs2 (kk % nb)).wear + 1)), la3)) ⟨Nat.zero_le _, V3, _, hX3.mono (by simp only; omega), hR⟩ kP sP ?_
        rintro ⟨m, d4, cs4, la4⟩ ⟨k0, V4, R4, k1, k2⟩
        simp only at k0 k1 k2
        refine s_seq <| s_seq <| s_region0 fun ops => oM rfl <| oR (rd_bin rfl rfl rfl) <| o_nil <| n_K ?_
        refine s_cond rfl (fun c82 => ?_) (fun c82 => ?_)
        · simp only [decide_eq_true_eq, decide_eq_false_iff_not] at c82
          have hm6 : m < 6 := (by omega)
          refine s_skip <| n_K <| s_seq <| s_block <| s_seq <| s_region0 fun ops => oM rfl ?_
          refine c_ex rfl (appN_fn k1 (by omega) (by decide) (kind := 61) (right0 (by decide))) sP rfl fun v87 Y87 h87 => ?_
          obtain ⟨d5, cs5, la5, e5, pb5, pj5, R5, rfl, rfl, hY5, _, V5, hX5⟩ := h87
          obtain ⟨_, rfl, rfl, hF5⟩ := (hY5.refill k1 k2 hbn).resolve_right (fun h9 => by have := h9.1; omega)
          refine so_ap aQ ?_
          refine oM rfl <| oE rfl rfl <| oE rfl rfl ?_
          refine o_alloc rfl fun b14 => ?_
          refine o_store rfl rfl uD rfl rfl rfl ?_
          refine oA rfl <| o_nil <| n_K <| s_seq ?_
          refine s_region [(2, 92)] rfl fun ops y => ?_
          refine oM rfl <| oR (rd_bin rfl rfl rfl) <| oM rfl ?_
          refine' o_or (j := 2) (k := 4) y rfl rfl rfl rfl rfl rfl rfl (fun hg92 => ?_) ?_
          rotate_left
          · try (simp at hg92; show _)
            refine o_g y rfl rfl ?_
            refine oF rfl ?_
            refine o_g y rfl rfl ?_
            refine oR (rd_ld rfl mM rfl) ?_
            refine o_g y rfl rfl ?_
            refine oM rfl ?_
            refine o_g y rfl rfl ?_
            refine oR (rd_bin rfl rfl rfl) ?_
            exact o_nil ⟨rfl, rfl, ⟨_, sP⟩⟩
          refine o_nil <| n_K ?_
          refine s_cond rfl (fun c97 => ?_) (fun c97 => ?_)
          · skip
            try (exfalso; (simp at c97); done)
            all_goals
              refine s_seq <| s_region0 fun ops => oA rfl <| o_nil <| n_K <| s_ret <| r_blk <| r_K <| r_K <| r_blk <| r_K ?_
              exact leaf_r (rets1 Tryz.results5 (rv_tmp rfl)) (by simp) sP
          · skip
            refine s_skip <| n_blk <| n_K <| s_region0 fun ops => oM rfl ?_
            refine oR (rd_add64 rfl rfl (by omega)) ?_
            refine oA rfl <| o_nil <| n_K ?_
            exact ⟨(m + 1, d5, cs5, la5), ⟨by simp only; omega, V5, R5, hX5, hF5⟩, (by simp only; omega), lZ⟩
        · simp only [decide_eq_true_eq, decide_eq_false_iff_not] at c82
          have hm6 : m = 6 := (by omega)
          refine s_exit <| x_K <| x_K <| x_blk <| n_K <| s_seq <| s_region0 fun ops => oM rfl ?_
          refine c_ex rfl (appN_fn k1 (by omega) (by decide) (kind := 62) (right0 (by decide))) sP rfl fun v100 Y100 h100 => ?_
          obtain ⟨d5, cs5, la5, e5, pb5, pj5, R5, rfl, rfl, hY5, _, V5, hX5⟩ := h100
          obtain ⟨_, rfl⟩ := (hY5.refill k1 k2 hbn).resolve_left (fun h9 => by have := h9.1; omega)
          refine so_ap aQ ?_
          refine oM rfl <| oE rfl rfl <| oE rfl rfl ?_
          refine o_alloc rfl fun b16 => ?_
          refine o_store rfl rfl uD rfl rfl rfl ?_
          refine oA rfl <| o_nil <| n_K <| s_seq <| s_region0 fun ops => oM rfl <| oR (rd_bin rfl rfl rfl) <| oA rfl <| o_nil <| n_K <| s_ret ?_
          exact leaf_r (rets1 Tryz.results5 (rv_tmp rfl)) (by simp) sP
theorem full8_fn {n dr : Int} : Does Tryz.prog 5 [.int .i64 n, .int .i64 dr] [] (fun v H => v = .bool true) := by
  by_cases hm : 16 ≤ n ∧ n ≤ 40
  · obtain ⟨M, rfl⟩ : ∃ M : Nat, n = M := ⟨n.toNat, by omega⟩
    exact full8Y_fn (M := M) (nb := M - 6) (by omega) (by omega)
  · exact full8N_fn hm
end Go.Proofs.YtkfcpjohblddmaaGreat
end
section
/- The law LogEmpty. -/
namespace Go.Proofs.YtkfcpjohblddmaaGreat
open Go.K
set_option linter.unusedVariables false
set_option linter.unusedSimpArgs false
instance fld48_2 : Fld Tryz.prog 48 2 2 := ⟨⟨_, _, 0, Tryz.underlying48, rfl, by kernel_rfl, rfl⟩⟩
instance ent3 : Ent Tryz.prog 3 := ⟨fun _ _ => by kernel_rfl⟩
set_option maxRecDepth 20000
set_option maxHeartbeats 1000000
theorem rdE {P : Program} {E : Env} {H : Hp} {op : Op} {v w : Value} (h : Rd P E H op v) (e : v = w) : Rd P E H op w := e ▸ h
section
variable {n nb k : Nat} {q : Qt} {i b m : Nat} {d : Dsk} {bs bs' : List LB} {last last' e : Int} {V : Nat → Blk} {R R' : Nat → List Pg} {p : Pg} {pb pj : Int}
/-- The only segment that there is. -/
theorem seg_one {s : Sl Seg} {L : Nat → Nat} (hp : (s.list.map segV).Perm (segX bs L nb)) (hl : s.list.length = 1) (hw : ∀ j < nb, (bAt bs j).wear = 2) : ∃ x, s.list[0]? = some x ∧ x.wear = 2 := by
  obtain ⟨x, hx⟩ : ∃ x, s.list = [x] := List.length_eq_one_iff.1 hl
  refine ⟨x, by rw [hx]; rfl, ?_⟩
  have hm : segV x ∈ segX bs L nb := hp.mem_iff.1 (List.mem_map.2 ⟨x, by rw [hx]; exact List.mem_singleton.2 rfl, rfl⟩)
  obtain ⟨j, hj, _, h2⟩ := segX_mem.1 hm
  have h3 : x.wear = (bAt bs j).wear := congrArg (fun y : SV => y.2.2.1) h2
  rw [h3, hw j hj]
end
theorem empty8_fn {n kd : Int} : Does Tryz.prog 3 [.int .i64 n, .int .i64 kd] [] (fun v H => v = .bool true) := by
  obtain ⟨kk, hkk, hkl⟩ := and_le n 63 (by decide)
  have hkk' : ibits .and .i64 n 63 = (kk : Int) := hkk
  refine fn_enter (n := 128) Tryz.func3 Tryz.ntmps3 rfl (Nat.le_of_ble_eq_true rfl) <| s_seq <| s_region0 fun ops => oA rfl <| o_nil <| n_K <| s_seq <| s_seq <| s_region0 fun ops => ?_
  refine c_is rfl (speaks8_fn) sP rfl aQ ?_
  refine oR (rd_not rfl) <| o_nil <| n_K ?_
  refine s_condF rfl ?_
  refine s_skip <| n_K <| s_seq <| s_region0 fun ops => ?_
  refine c_ex rfl (laidX_fn (m := 16) (nb := 10) (q := q3) q3_ne (by decide) rfl) sP rfl fun v17 Y17 h17 => ?_
  obtain ⟨lg, bb, d, bs, V, rfl, rfl, hX, h0, hF⟩ := h17
  refine so_ap aQ ?_
  refine oA rfl <| o_nil <| n_K <| s_seq <| s_seq <| s_region0 fun ops => oM rfl <| oR (rd_eqNil rfl rfl) <| o_nil <| n_K ?_
  refine s_condF rfl ?_
  refine s_skip <| n_K <| s_seq <| s_seq <| s_region0 fun ops => oA rfl <| o_nil <| n_K <| s_block ?_
  refine s_loop2 [0, 1, 5] kQ (fun (st : Nat × Dsk × List LB × Int) => [(6, .int .i64 st.1)]) (fun (st : Nat × Dsk × List LB × Int) => (lg, true, C (lgC st.2.1.dk bb 10 st.2.2.2) tLg) :: (bb, true, C (lbs st.2.2.1) tLB) :: (dkH st.2.1 ++ [])) (fun (st : Nat × Dsk × List LB × Int) => st.1 ≤ kk ∧ ∃ V R, LX 16 10 (2000 + 80 * st.1) q3 st.2.1 st.2.2.1 st.2.2.2 V R ∧ ∀ j < 10, (bAt st.2.2.1 j).wear = 1) (fun (st : Nat × Dsk × List LB × Int) => kk - st.1) ((0, d, bs, -1)) ⟨Nat.zero_le _, V, _, hX, fun j hj => by simp only; rw [h0 j hj]; rfl⟩ kP sP ?_
  rintro ⟨i, d1, cs, la⟩ ⟨g0, V1, R1, g1, g2⟩
  simp only at g0 g1 g2
  refine s_seq <| s_seq <| s_region0 fun ops => oM rfl <| oM rfl ?_
  refine oR (show Rd _ _ _ _ (.int .i64 (kk : Nat)) from by (rw [← hkk']; exact rd_bin rfl rfl rfl)) ?_
  refine oR (rd_bin rfl rfl rfl) <| o_nil <| n_K ?_
  refine s_cond rfl (fun c23 => ?_) (fun c23 => ?_)
  · simp only [decide_eq_true_eq, decide_eq_false_iff_not] at c23
    have hi : i < kk := (by omega)
    refine s_skip <| n_K <| s_seq <| s_block <| s_seq <| s_region0 fun ops => oM rfl <| oM rfl ?_
    refine oR (show Rd _ _ _ _ (bv (byteI kd)) from by (unfold bv; rw [← byte_i64]; exact rd_convI rfl)) ?_
    refine o_bslice_k rfl rfl rfl rfl fun b30 => ?_
    refine o_bslice_k rfl rfl rfl rfl fun b31 => ?_
    refine c_ex rfl (app1_fn g1 (by omega) (by decide) (kind := 40) (x := byteI kd) (b := b31) (a := b30) (right1 (by decide))) sP rfl fun v32 Y32 h32 => ?_
    obtain ⟨d', cs', la', e, pb, pj, R', rfl, rfl, hY, _, V', hX'⟩ := h32
    have hee := hY.err
    refine so_ap aQ ?_
    refine oM rfl <| oE rfl rfl <| oE rfl rfl ?_
    refine o_alloc rfl fun b7 => ?_
    refine o_store rfl rfl uD rfl rfl rfl ?_
    refine oA rfl <| o_nil <| n_K <| s_seq ?_
    refine s_region [(2, 37)] rfl fun ops y => ?_
    refine oM rfl <| oR (rd_bin rfl rfl rfl) <| oM rfl ?_
    refine' o_and (j := 2) (k := 2) y rfl rfl rfl rfl rfl rfl rfl (fun hg37 => ?_) ?_
    rotate_left
    · try (simp at hg37; show _)
      refine o_g y rfl rfl ?_
      refine oM rfl ?_
      refine o_g y rfl rfl ?_
      refine oR (rd_bin rfl rfl rfl) ?_
      exact o_nil ⟨rfl, rfl, ⟨_, sP⟩⟩
    refine o_nil <| n_K ?_
    refine s_cond rfl (fun c40 => ?_) (fun c40 => ?_)
    · skip
      try (exfalso; (rcases hee with rfl | rfl <;> simp at c40); done)
      all_goals
        refine s_seq <| s_region0 fun ops => oA rfl <| o_nil <| n_K <| s_ret <| r_blk <| r_K <| r_K <| r_blk <| r_K ?_
        exact leaf_r (rets1 Tryz.results3 (rv_tmp rfl)) (by simp; omega) sP
    · skip
      refine s_skip <| n_blk <| n_K <| s_region0 fun ops => oM rfl ?_
      refine oR (rd_add64 rfl rfl (by omega)) ?_
      refine oA rfl <| o_nil <| n_K ?_
      exact ⟨(i + 1, d', cs', la'), ⟨by simp only; omega, V', R', hX', fun j hj => by simp only; rw [hY.wear g1.len, g2 j hj]⟩, (by simp only; omega), lZ⟩
  · simp only [decide_eq_true_eq, decide_eq_false_iff_not] at c23
    refine s_exit <| x_K <| x_K <| x_blk <| n_K <| s_seq <| s_region0 fun ops => oM rfl <| oN rfl <| oF rfl ?_
    refine oR (rd_ld rfl mM rfl) ?_
    refine c_ex rfl (new8_fn (q := q3) (nb := 10) (d := d1) g1.dv (by omega) (by decide) g1.acc g1.num g1.af) sP rfl fun v46 Y46 h46 => ?_
    obtain ⟨lg2, bb2, t2, c2, cs2, V2, rfl, rfl, hN⟩ := h46
    obtain ⟨hX2, hw2⟩ := g1.anew hN
    have hf2 : freeN cs2 10 = 10 := freeN_all (fun j hj => by rw [hw2 j hj]; rfl)
    refine so_ap aQ ?_
    refine oM rfl <| oE rfl rfl <| oE rfl rfl <| oA rfl <| oA rfl <| o_nil <| n_K <| s_seq <| s_seq ?_
    refine s_draw [(2, 51), (6, 55), (16, 65), (22, 71)] [(6, [(0, false), (1, false), (2, false), (3, false), (4, false), (5, false)]), (16, [(6, false), (7, false), (9, false), (10, false), (11, false), (12, false), (8, true), (13, true), (14, false), (15, false)]), (17, [(16, false)]), (22, [(17, false), (18, true), (19, false), (20, false), (21, false)]), (23, [(22, false)]), (27, [(23, false), (24, true), (25, false), (26, false)])] (by kernel_rfl) rfl fun ops w0 H0 y => ?_
    refine p_all <| xM rfl <| xR (rd_eqNil rfl rfl) <| xM rfl ?_
    refine' x_or (j := 2) (k := 2) y rfl rfl rfl rfl rfl rfl rfl (fun hg51 => ?_) ?_
    rotate_left
    · try (simp at hg51; show _)
      refine x_g y rfl rfl ?_
      refine xM rfl ?_
      refine x_g y rfl rfl ?_
      refine xR (rd_bin rfl rfl rfl) ?_
      exact x_nil ⟨rfl, ⟨_, sP⟩⟩
    refine x_nil <| p_all <| xM rfl ?_
    refine' x_or (j := 6) (k := 8) y rfl rfl rfl rfl rfl rfl rfl (fun hg55 => ?_) ?_
    rotate_left
    · try (simp at hg55; show _)
      refine x_g y rfl rfl ?_
      refine xM rfl ?_
      refine x_g y rfl rfl ?_
      refine xM rfl ?_
      refine x_g y rfl rfl ?_
      refine xN rfl ?_
      refine x_g y rfl rfl ?_
      refine xF rfl ?_
      refine x_g y rfl rfl ?_
      refine xR (rd_ld rfl mM rfl) ?_
      refine x_g y rfl rfl ?_
      refine x_so ?_
      refine c_is rfl ((free_fn (nb := 10) hX2.len (by decide)).to (by rw [hf2]) rfl) sP rfl aQ ?_
      refine o_nil ⟨rfl, ⟨_, sP⟩, ?_⟩
      refine x_g y rfl rfl ?_
      refine x_so ?_
      refine c_is rfl ((dk_len (d := ⟨d1.dk, t2, c2⟩)).to (by rw [hX2.ulen]) rfl) sP rfl aQ ?_
      refine o_nil ⟨rfl, ⟨_, sP⟩, ?_⟩
      refine x_g y rfl rfl ?_
      refine xR (rd_bin rfl rfl rfl) ?_
      exact x_nil ⟨rfl, ⟨_, sP⟩⟩
    refine x_nil <| p_all <| xM rfl <| x_nil <| p_all ?_
    refine' x_or (j := 16) (k := 4) y rfl rfl rfl rfl rfl rfl rfl (fun hg65 => ?_) ?_
    rotate_left
    · try (simp at hg65; show _)
      refine x_g y rfl rfl ?_
      refine xM rfl ?_
      refine x_g y rfl rfl ?_
      refine x_so ?_
      refine c_ex rfl (segmentsX_fn hX2 (by omega)) sP rfl fun v67 Y67 h67 => ?_
      obtain ⟨s, l0, rfl, rfl, _, _, _, _, _, hsl⟩ := h67
      refine so_ap aQ ?_
      refine o_nil ⟨rfl, ⟨_, sP⟩, ?_⟩
      refine x_g y rfl rfl ?_
      refine xR (rdE (rd_lenS rfl) (show Value.int .i64 (s.list.length : Int) = .int .i64 0 from by rw [show s.list.length = 0 by omega]; rfl)) ?_
      refine x_g y rfl rfl ?_
      refine xR (rd_bin rfl rfl rfl) ?_
      exact x_nil ⟨rfl, ⟨_, sP⟩⟩
    refine x_nil <| p_all <| xM rfl <| x_nil <| p_all ?_
    refine' x_or (j := 22) (k := 3) y rfl rfl rfl rfl rfl rfl rfl (fun hg71 => ?_) ?_
    rotate_left
    · try (simp at hg71; show _)
      refine x_g y rfl rfl ?_
      refine xM rfl ?_
      refine x_g y rfl rfl ?_
      refine x_so ?_
      refine c_is rfl ((room_fn (nb := 10) hX2.len hX2.rng hX2.rooms).to (by rw [show roomN cs2 (-1) = 0 from rfl]) rfl) sP rfl aQ ?_
      refine o_nil ⟨rfl, ⟨_, sP⟩, ?_⟩
      refine x_g y rfl rfl ?_
      refine xR (rd_bin rfl rfl rfl) ?_
      exact x_nil ⟨rfl, ⟨_, sP⟩⟩
    refine x_nil <| p_end <| n_K ?_
    refine s_cond rfl (fun c75 => ?_) (fun c75 => ?_)
    · skip
      try (exfalso; (simp at c75 <;> omega); done)
      all_goals
        refine s_seq <| s_region0 fun ops => oA rfl <| o_nil <| n_K <| s_ret <| r_K ?_
        exact leaf_r (rets1 Tryz.results3 (rv_tmp rfl)) (by simp; omega) sP
    · skip
      refine s_skip <| n_K <| s_seq <| s_region0 fun ops => oM rfl ?_
      refine c_ex rfl (appN_fn hX2 (by omega) (by decide) (kind := 40) (right0 (by decide))) sP rfl fun v78 Y78 h78 => ?_
      obtain ⟨d3, cs3, la3, e3, pb3, pj3, R3, rfl, rfl, hY3, _, V3, hX3⟩ := h78
      have hF2 : Fill 10 cs2 (-1) (fun _ => []) 0 := ⟨fun j hj hs => by rw [hw2 j hj] at hs; exact absurd rfl hs, by omega, by simp, fun l hl => by omega, fun j hj hs => by rw [hw2 j hj] at hs; exact absurd rfl hs⟩
      obtain ⟨_, rfl, rfl, hF3⟩ := (hY3.fill hX2 hF2 (by decide)).resolve_right (fun h9 => by have := h9.1; omega)
      have hf3 : freeN cs3 10 = 9 := (by have := hF3.fr; omega)
      have hw3 : ∀ j < 10, (bAt cs3 j).wear = 2 := (fun j hj => by rw [hY3.wear hX2.len, hw2 j hj, wiped, g2 j hj]; rfl)
      refine so_ap aQ ?_
      refine oM rfl <| oE rfl rfl <| oE rfl rfl ?_
      refine o_alloc rfl fun b11 => ?_
      refine o_store rfl rfl uD rfl rfl rfl ?_
      refine oA rfl <| o_nil <| n_K <| s_seq <| s_region0 fun ops => oM rfl ?_
      refine c_ex rfl (segmentsX_fn hX3 (by omega)) sP rfl fun v82 Y82 h82 => ?_
      obtain ⟨s3, l3, rfl, rfl, _, _, hp3, _, _, hsl3⟩ := h82
      obtain ⟨x3, hx3, hxw3⟩ := seg_one hp3 (by omega) hw3
      refine so_ap aQ ?_
      refine oA rfl <| o_nil <| n_K <| s_seq <| s_region0 fun ops => oM rfl <| oN rfl <| oF rfl ?_
      refine oR (rd_ld rfl mM rfl) ?_
      refine oN rfl <| oF rfl ?_
      refine oR (rd_dc (d := d3) rfl pL) ?_
      refine c_ex rfl (again8_fn hX3) sP rfl fun v90 Y90 h90 => ?_
      obtain ⟨lg4, bb4, d4, rfl, rfl, hdc, hX4, hN4, hf4, hl4⟩ := h90
      have hw4 : ∀ j < 10, (bAt (openL V3 10).1 j).wear = 2 := (fun j hj => by rw [hX3.open_at hj, hw3 j hj])
      refine so_ap aQ ?_
      refine oA rfl <| o_nil <| n_K <| s_seq ?_
      refine s_region [(2, 93), (7, 98), (12, 103), (19, 110), (23, 114), (29, 120)] rfl fun ops y => ?_
      refine oM rfl <| oR (rd_bin rfl rfl rfl) <| oM rfl ?_
      refine' o_and (j := 2) (k := 3) y rfl rfl rfl rfl rfl rfl rfl (fun hg93 => ?_) ?_
      rotate_left
      · try (simp at hg93; show _)
        refine o_g y rfl rfl ?_
        refine oF rfl ?_
        refine o_g y rfl rfl ?_
        refine oR (rd_ld rfl mM rfl) ?_
        refine o_g y rfl rfl ?_
        refine oR (rd_bin rfl rfl rfl) ?_
        exact o_nil ⟨rfl, rfl, ⟨_, sP⟩⟩
      refine oM rfl ?_
      refine' o_and (j := 7) (k := 3) y rfl rfl rfl rfl rfl rfl rfl (fun hg98 => ?_) ?_
      rotate_left
      · try (simp at hg98; show _)
        refine o_g y rfl rfl ?_
        refine oM rfl ?_
        refine o_g y rfl rfl ?_
        refine oR (rd_lenS rfl) ?_
        refine o_g y rfl rfl ?_
        refine oR (rd_bin rfl rfl rfl) ?_
        exact o_nil ⟨rfl, rfl, ⟨_, sP⟩⟩
      refine oM rfl ?_
      refine' o_and (j := 12) (k := 5) y rfl rfl rfl rfl rfl rfl rfl (fun hg103 => ?_) ?_
      rotate_left
      · try (simp at hg103; show _)
        refine o_g y rfl rfl ?_
        refine oM rfl ?_
        refine o_g y rfl rfl ?_
        refine oR (rd_ixSl (s := s3) rfl rfl (by omega)) ?_
        refine o_g y rfl rfl ?_
        refine oF rfl ?_
        refine o_g y rfl rfl ?_
        refine oR (rd_ldSl (s := s3) (o := 2) (v := wv 2) rfl pL hx3 (by show some (wv x3.wear) = _; rw [hxw3]) rfl) ?_
        refine o_g y rfl rfl ?_
        refine oR (rd_bin rfl rfl rfl) ?_
        exact o_nil ⟨rfl, rfl, ⟨_, sP⟩⟩
      refine oM rfl ?_
      refine' o_and (j := 19) (k := 2) y rfl rfl rfl rfl rfl rfl rfl (fun hg110 => ?_) ?_
      rotate_left
      · try (simp at hg110; show _)
        refine o_g y rfl rfl ?_
        refine oM rfl ?_
        refine o_g y rfl rfl ?_
        refine oR (rd_neNil rfl rfl) ?_
        exact o_nil ⟨rfl, rfl, ⟨_, sP⟩⟩
      refine oM rfl ?_
      refine' o_and (j := 23) (k := 4) y rfl rfl rfl rfl rfl rfl rfl (fun hg114 => ?_) ?_
      rotate_left
      · try (simp at hg114; show _)
        refine o_g y rfl rfl ?_
        refine oM rfl ?_
        refine o_g y rfl rfl ?_
        refine c_ex rfl (segmentsX_fn hX4 (by omega)) sP rfl fun v116 Y116 h116 => ?_
        obtain ⟨s4, l4, rfl, rfl, _, _, hp4, _, _, hsl4⟩ := h116
        refine so_ap aQ ?_
        refine o_g y rfl rfl ?_
        refine oR (rdE (rd_lenS rfl) (show Value.int .i64 (s4.list.length : Int) = .int .i64 1 from by rw [show s4.list.length = 1 by omega]; rfl)) ?_
        refine o_g y rfl rfl ?_
        refine oR (rd_bin rfl rfl rfl) ?_
        exact o_nil ⟨rfl, rfl, ⟨_, sP⟩⟩
      refine oM rfl ?_
      refine' o_and (j := 29) (k := 6) y rfl rfl rfl rfl rfl rfl rfl (fun hg120 => ?_) ?_
      rotate_left
      · try (simp at hg120; show _)
        refine o_g y rfl rfl ?_
        refine oM rfl ?_
        refine o_g y rfl rfl ?_
        refine c_ex rfl (segmentsX_fn hX4 (by omega)) sP rfl fun v122 Y122 h122 => ?_
        obtain ⟨s5, l5, rfl, rfl, _, _, hp5, _, _, hsl5⟩ := h122
        obtain ⟨x5, hx5, hxw5⟩ := seg_one hp5 (by omega) hw4
        refine so_ap aQ ?_
        refine o_g y rfl rfl ?_
        refine oR (rd_ixSl (s := s5) rfl rfl (by omega)) ?_
        refine o_g y rfl rfl ?_
        refine oF rfl ?_
        refine o_g y rfl rfl ?_
        refine oR (rd_ldSl (s := s5) (o := 2) (v := wv 2) rfl pL hx5 (by show some (wv x5.wear) = _; rw [hxw5]) rfl) ?_
        refine o_g y rfl rfl ?_
        refine oR (rd_bin rfl rfl rfl) ?_
        exact o_nil ⟨rfl, rfl, ⟨_, sP⟩⟩
      refine oA rfl <| o_nil <| n_K <| s_ret ?_
      exact leaf_r (rets1 Tryz.results3 (rv_tmp rfl)) (by simp; omega) sP
end Go.Proofs.YtkfcpjohblddmaaGreat
end
