/-
  The thin layer, fourth part: guarded operations ('&&', '||'); regions that draw their order.
-/
import Derived.Test.YtdfidkhbldedlaaGreatK3
import Derived.StillTail
namespace Go.K
set_option linter.unusedVariables false
set_option linter.unusedSimpArgs false

section
variable {P : Program} {n : Nat} {E : Env} {H : Hp} {Q : Post} {ops : Array Oper} {rest : List Oper}

/-! ### What an operation leaves alone -/
def fresh (E : Env) : Option Tmp → Bool
  | some d => (fnd E d).isNone
  | none => true
theorem EnvOk.fresh {a : Act} (h : EnvOk E a) {d : Option Tmp} (hd : fresh E d = true) (v : Value) : EnvOk E (a.put d v) := by
  cases d with
  | none => exact h
  | some d =>
    intro i u hu
    have hne : d ≠ i := fun e => by subst e; simp [Go.K.fresh, hu] at hd
    have := h i u hu
    simp only [Act.put, Array.getD_eq_getD_getElem?] at *
    rw [Array.getElem?_setIfInBounds_ne hne]
    exact this

theorem oper_mono2 {o : Oper} {a : Act} {w : World} {K K' : Act → World → Prop} {q q' : Exit → Act → World → Prop}
    (hk : ∀ v w', K (a.put o.dst v) w' → K' (a.put o.dst v) w') (hd : ∀ d w', K ({ a with defers := d :: a.defers }.put o.dst undef) w' → K' ({ a with defers := d :: a.defers }.put o.dst undef) w')
    (hq : ∀ e a w, e ≠ .normal → q e a w → q' e a w) (h : o.wp P a w K q) : o.wp P a w K' q' := by
  unfold Oper.wp at *
  generalize (execOp a.eval o).run P w = r at *
  cases r with
  | ok x w2 =>
    cases x <;> simp only [Oper.upon] at h ⊢
    case value v => exact hk _ _ h
    case skip => exact hk _ _ h
    case defer d => exact hd _ _ h
    case enter f args =>
      refine Calls.mono h fun e w3 he => ?_
      cases e with
      | returned v => exact hk _ _ he
      | panicked c => exact hq _ _ _ (fun e => nomatch e) he
      | outgrown => exact (let ⟨a0, w0, h0⟩ := he; ⟨a0, w0, hq _ _ _ (fun e => nomatch e) h0⟩)
    case row row args => exact Rows.mono h fun v w3 he => hk _ _ he
  | halt x w2 => cases x <;> simp only [Oper.upon] at h ⊢ <;> first | exact hq _ _ _ (fun e => nomatch e) h | exact h

/-- Behind a run the slots that it doesn't write are as they were. -/
def OkAt (E : Env) (Q : Exit → Act → World → Prop) : Exit → Act → World → Prop
  | .normal, a, w => Q .normal a w ∧ EnvOk E a
  | e, a, w => Q e a w
theorem wpList_frame {E0 : Env} {q : Exit → Act → World → Prop} : ∀ (l : List Oper) (a : Act) (w : World), (l.all fun o => fresh E0 o.dst) = true → EnvOk E0 a → wpList P ops q l a w → wpList P ops (OkAt E0 q) l a w
  | [], a, w, _, h1, h => ⟨h, h1⟩
  | o :: l, a, w, hf, h1, h => by
    simp only [List.all_cons, Bool.and_eq_true] at hf
    have ih := wpList_frame (E0 := E0) (q := q) l
    have hq : ∀ e a w, q e a w → (e = .normal → EnvOk E0 a) → OkAt E0 q e a w := fun e a w hh hn => by cases e <;> first | exact ⟨hh, hn rfl⟩ | exact hh
    simp only [wpList] at h ⊢
    split
    · rename_i hw
      rw [if_pos hw] at h
      rcases h with h | ⟨h2, a0, w0, h3⟩
      · left
        unfold Oper.wp at *
        generalize (execOp a.eval o).run P w = r at *
        cases r with
        | ok x w2 =>
          cases x <;> simp only [Oper.upon] at h ⊢
          case value v => exact ih _ _ hf.2 (h1.fresh hf.1 v) h
          case skip => exact ih _ _ hf.2 (h1.fresh hf.1 undef) h
          case defer d =>
            refine ih _ _ hf.2 ?_ h
            have h1' : EnvOk E0 { a with defers := d :: a.defers } := h1
            exact h1'.fresh hf.1 undef
          case enter f args =>
            refine Calls.mono h fun e w3 he => ?_
            cases e with
            | returned v => exact ih _ _ hf.2 (h1.fresh hf.1 v) he
            | panicked c => exact he
            | outgrown => exact (let ⟨a0, w0, h0⟩ := he; ⟨a0, w0, h0⟩)
          case row row args => exact Rows.mono h fun v w3 he => ih _ _ hf.2 (h1.fresh hf.1 v) he
        | halt x w2 => cases x <;> simp only [Oper.upon] at h ⊢ <;> first | exact h | exact h
      · exact .inr ⟨h2, a0, w0, h3⟩
    · rename_i hw
      rw [if_neg hw] at h
      exact ih _ _ hf.2 (h1.fresh hf.1 undef) h

/-! ### '||', '&&': a run of guarded operations, and a pick -/
/-- All of them are passed over, where the guard 'j' says no. -/
def skB (Y : List (Nat × Nat)) (j : Nat) (want : Bool) : List Nat → List Oper → Bool
  | _, [] => true
  | S, o :: r =>
    (match o.guard with
     | some (i, b) => (i == j && b == want) || (match yl Y i with | some s => S.contains s | none => false)
     | none => false) && skB Y j want (match o.dst with | some d => d :: S | none => S) r

theorem wpList_append {q : Exit → Act → World → Prop} : ∀ (x y : List Oper) (a : Act) (w : World), wpList P ops (fun e a w => match e with | .normal => wpList P ops q y a w | e => q e a w) x a w → wpList P ops q (x ++ y) a w
  | [], _, _, _, h => h
  | o :: x, y, a, w, h => by
    have ih := wpList_append (q := q) x y
    simp only [List.cons_append, wpList] at h ⊢
    split
    · rename_i hw
      rw [if_pos hw] at h
      rcases h with h | ⟨h2, a0, w0, h3⟩
      · left
        unfold Oper.wp at *
        generalize (execOp a.eval o).run P w = r at *
        cases r with
        | ok x w2 =>
          cases x <;> simp only [Oper.upon] at h ⊢
          case value v => exact ih _ _ h
          case skip => exact ih _ _ h
          case defer d => exact ih _ _ h
          case enter f args =>
            refine Calls.mono h fun e w3 he => ?_
            cases e with
            | returned v => exact ih _ _ he
            | panicked c => exact he
            | outgrown => exact (let ⟨a0, w0, h0⟩ := he; ⟨a0, w0, h0⟩)
          case row row args => exact Rows.mono h fun v w3 he => ih _ _ he
        | halt x w2 => cases x <;> simp only [Oper.upon] at h ⊢ <;> first | exact h | exact h
      · exact .inr ⟨h2, a0, w0, h3⟩
    · rename_i hw
      rw [if_neg hw] at h
      exact ih _ _ h

def notBool (a : Act) (s : Nat) : Prop := ∀ b, a.tmps[s]? ≠ some (.bool b)
theorem notBool.put {a : Act} {s : Nat} (h : notBool a s) (d : Option Tmp) : notBool (a.put d undef) s := by
  intro b hb
  cases d with
  | none => exact h b hb
  | some d =>
    simp only [Act.put] at hb
    by_cases hs : d = s
    · subst hs
      rw [Array.getElem?_setIfInBounds] at hb
      simp at hb
      exact absurd hb.2 (by simp [undef])
    · rw [Array.getElem?_setIfInBounds_ne hs] at hb
      exact h b hb
theorem notBool.new {a : Act} (d : Nat) : notBool (a.put (some d) undef) d := by
  intro b hb
  simp only [Act.put] at hb
  rw [Array.getElem?_setIfInBounds] at hb
  simp at hb
  exact absurd hb.2 (by simp [undef])
theorem slot_of {a : Act} {d : Nat} {b : Bool} (h : a.tmps.getD d undef = .bool b) : a.tmps[d]? = some (.bool b) := by
  rw [Array.getD_eq_getD_getElem?] at h
  rcases Nat.lt_or_ge d a.tmps.size with hs | hs
  · rw [Array.getElem?_eq_getElem hs] at h ⊢; simpa using h
  · rw [Array.getElem?_eq_none hs] at h; cases h

/-- Passed over, all of them. -/
theorem wpList_skips {q : Exit → Act → World → Prop} {Y : List (Nat × Nat)} (y : Yok ops Y) {j dj : Nat} (hj : yl Y j = some dj) {want : Bool} :
    ∀ (l : List Oper) (S : List Nat) (a : Act) (w : World), skB Y j want S l = true → (∀ s ∈ S, notBool a s) → EnvOk E a → (l.all fun o => fresh E o.dst) = true → fnd E dj = some (.bool (!want)) →
      (∀ a', EnvOk E a' → a'.tmps.size = a.tmps.size → a'.defers = a.defers → q .normal a' w) → wpList P ops q l a w
  | [], _, a, w, _, _, h1, _, _, hk => hk a h1 rfl rfl
  | o :: l, S, a, w, hs, hS, h1, hf, hd, hk => by
    simp only [skB, Bool.and_eq_true] at hs
    simp only [List.all_cons, Bool.and_eq_true] at hf
    have hw : Region.wanted o (yielded ops a.tmps) = false := by
      cases hg : o.guard with
      | none => rw [hg] at hs; simp at hs
      | some ib =>
        obtain ⟨i, b⟩ := ib
        rw [hg] at hs
        simp only [Bool.or_eq_true, Bool.and_eq_true, beq_iff_eq] at hs
        rcases hs.1 with ⟨rfl, rfl⟩ | h2
        · have hy := y i dj (yl_mem hj)
          have := slot_of (h1 dj _ hd)
          cases b <;> simp [Region.wanted, hg, yielded, hy, this]
        · cases hy : yl Y i with
          | none => rw [hy] at h2; cases h2
          | some s =>
            rw [hy] at h2
            have hm := hS s (by simpa using h2)
            have hyy := y i s (yl_mem hy)
            unfold Region.wanted
            simp only [hg, yielded, hyy, Option.bind_some]
            cases ht : a.tmps[s]? with
            | none => simp
            | some v => cases v <;> simp; rename_i bb; exact absurd ht (hm bb)
    simp only [wpList]
    rw [if_neg (by rw [hw]; exact Bool.false_ne_true)]
    refine wpList_skips y hj l _ _ w hs.2 ?_ (h1.fresh hf.1 undef) hf.2 hd (fun a' h2 h3 h4 => hk a' h2 (by rw [h3]; cases o.dst <;> simp [Act.put]) (by rw [h4]; cases o.dst <;> simp [Act.put]))
    intro s hs'
    cases hdst : o.dst with
    | none => rw [hdst] at hs'; exact hS s hs'
    | some d =>
      rw [hdst] at hs'
      cases hs' with
      | head => exact notBool.new _
      | tail _ hm => exact (hS s hm).put _

/-- A run that ends with a bool in the slot 'db', memory being what it was. -/
def Bool1 (db : Nat) (u : Bool) (H : Hp) : Post := fun e E' H' => e = .normal ∧ fnd E' db = some (.bool u) ∧ ∃ F, Split H' H F

/-- A pick's own guard, if it has one, says yes. -/
def gOk (E : Env) (Y : List (Nat × Nat)) : Option (Nat × Bool) → Bool
  | none => true
  | some (j, b) => match yl Y j with
    | some d => (match fnd E d with | some (.bool b') => b' == b | _ => false)
    | none => false
theorem gOk_wanted {Y : List (Nat × Nat)} (y : Yok ops Y) {g : Option (Nat × Bool)} (hg : gOk E Y g = true) {a : Act} (h1 : EnvOk E a) {d : Option Tmp} {op : Op} {ty : TypeId} {pos : String} {af : Array Edge} :
    Region.wanted ⟨d, op, ty, pos, af, g⟩ (yielded ops a.tmps) = true := by
  cases g with
  | none => rfl
  | some jb =>
    obtain ⟨j, b⟩ := jb
    simp only [gOk] at hg
    cases hy : yl Y j with
    | none => simp [hy] at hg
    | some dj =>
      simp only [hy] at hg
      cases hf : fnd E dj with
      | none => simp [hf] at hg
      | some v =>
        cases v <;> simp only [hf] at hg <;> try (cases hg; done)
        rename_i b'
        have hyy := y j dj (yl_mem hy)
        have := slot_of (h1 dj _ hf)
        simp at hg
        simp [Region.wanted, yielded, hyy, this, hg]

theorem not_eq_of {t w : Bool} (h : ¬ t = w) : t = !w := by revert h; cases t <;> cases w <;> simp

theorem o_short {k : Nat} {l : List Oper} {t u want : Bool} {j dj db d : Nat} {x y : Operand} {ty : TypeId} {pos : String} {af : Array Edge} {gd : Option (Nat × Bool)} {Y : List (Nat × Nat)} (yk : Yok ops Y) (hj : yl Y j = some dj)
    (hc : fnd E dj = some (.bool t)) (hl : l = l.take k ++ ⟨some d, .pick (.tmp dj) x y, ty, pos, af, gd⟩ :: rest) (hgd : gOk E Y gd = true) (hd : Nat.blt d n = true)
    (hsk : skB Y j want [] (l.take k) = true) (hfr : ((l.take k).all fun o => fresh E o.dst) = true)
    (hb : t = want → SO P n ops (l.take k) ((dj, .bool want) :: E) H (Bool1 db u H)) {r : Bool}
    (hx : t = want → r = u ∧ (want = true → x = .tmp db) ∧ (want = false → y = .tmp db)) (hy : t = !want → (want = true → y = .const (.bool r)) ∧ (want = false → x = .const (.bool r)))
    (kk : SO P n ops rest ((d, .bool r) :: E) H Q) : SO P n ops l E H Q := by
  intro a w h1 h2 h3 h4
  rw [hl]
  apply wpList_append
  have fin : ∀ (a' : Act) (w' : World), EnvOk E a' → a'.tmps.size = n → a'.defers = [] → Trk w w' H H → (∀ z, (t = want → z = .tmp db → a'.eval z = .bool u)) →
      wpList P ops (Up n w H Q) (⟨some d, .pick (.tmp dj) x y, ty, pos, af, gd⟩ :: rest) a' w' := by
    intro a' w' k1 k2 k3 k4 k5
    simp only [wpList]
    rw [if_pos (gOk_wanted yk hgd k1)]
    left
    have hcv : a'.eval (.tmp dj) = .bool t := k1 dj _ hc
    have hrun : (execOp a'.eval ⟨some d, .pick (.tmp dj) x y, ty, pos, af, gd⟩).run P w' = .ok (.value (.bool r)) w' := by
      have : (if t then a'.eval x else a'.eval y) = .bool r := by
        by_cases ht : t = want
        · obtain ⟨rfl, hx1, hx2⟩ := hx ht
          subst ht
          cases t
          · simp; exact k5 y rfl (hx2 rfl)
          · simp; exact k5 x rfl (hx1 rfl)
        · have ht' : t = !want := not_eq_of ht
          obtain ⟨hy1, hy2⟩ := hy ht'
          subst ht'
          cases want
          · simp [hy2 rfl, Act.eval]
          · simp [hy1 rfl, Act.eval]
      simp only [execOp, hcv, asBool, Sem.run_bind, Sem.run_pure, Result.andThen_ok]
      rw [this]
    unfold Oper.wp
    rw [hrun]
    have hlt : d < a'.tmps.size := by rw [k2]; exact Nat.le_of_ble_eq_true hd
    exact wpList_up k4 (kk _ w' (k1.put hlt) (by simp [Act.put, k2]) k3 k4.ok)
  by_cases ht : t = want
  · have h1' : EnvOk ((dj, .bool want) :: E) a := by
      intro i v hv
      unfold fnd at hv
      cases hbq : Nat.beq dj i with
      | true =>
        have : dj = i := Nat.eq_of_beq_eq_true hbq
        subst this
        simp [hbq] at hv
        subst hv; subst ht
        exact h1 dj _ hc
      | false => simp [hbq] at hv; exact h1 i v hv
    have hrun := wpList_frame (E0 := E) _ a w hfr h1 (hb ht a w h1' h2 h3 h4)
    refine wpList_mono ?_ _ a w hrun
    intro e a' w' he
    cases e with
    | normal =>
      obtain ⟨⟨E', H', k1, k2, k3, k4, _, k5, F, k6⟩, k7⟩ := he
      exact fin a' w' k7 k2 k3 (k4.split k6) (fun z _ hz => by subst hz; exact k1 db _ k5)
    | _ => obtain ⟨E', H', k1, k2, k3, k4, k5, _⟩ := he; cases k5
  · have ht' : t = !want := not_eq_of ht
    refine wpList_skips yk hj _ [] a w hsk (fun s hs => by cases hs) h1 hfr (by rw [hc, ht']) (fun a' k1 k2 k3 => ?_)
    exact fin a' w k1 (k2.trans h2) (k3.trans h3) (Trk.refl h4) (fun z h _ => absurd h ht)

theorem o_or {k : Nat} {l : List Oper} {t u : Bool} {j dj db d : Nat} {ty : TypeId} {pos : String} {af : Array Edge} {gd : Option (Nat × Bool)} {Y : List (Nat × Nat)} (yk : Yok ops Y) (hj : yl Y j = some dj)
    (hc : fnd E dj = some (.bool t)) (hl : l = l.take k ++ ⟨some d, .pick (.tmp dj) (.const (.bool true)) (.tmp db), ty, pos, af, gd⟩ :: rest) (hgd : gOk E Y gd = true) (hd : Nat.blt d n = true)
    (hsk : skB Y j false [] (l.take k) = true) (hfr : ((l.take k).all fun o => fresh E o.dst) = true)
    (hb : t = false → SO P n ops (l.take k) ((dj, .bool false) :: E) H (Bool1 db u H))
    (kk : SO P n ops rest ((d, .bool (t || u)) :: E) H Q) : SO P n ops l E H Q :=
  o_short (want := false) yk hj hc hl hgd hd hsk hfr hb (fun h => ⟨by simp [h], (fun e => nomatch e), fun _ => rfl⟩) (fun h => ⟨(fun e => nomatch e), fun _ => by rw [h]; rfl⟩) kk
theorem o_and {k : Nat} {l : List Oper} {t u : Bool} {j dj db d : Nat} {ty : TypeId} {pos : String} {af : Array Edge} {gd : Option (Nat × Bool)} {Y : List (Nat × Nat)} (yk : Yok ops Y) (hj : yl Y j = some dj)
    (hc : fnd E dj = some (.bool t)) (hl : l = l.take k ++ ⟨some d, .pick (.tmp dj) (.tmp db) (.const (.bool false)), ty, pos, af, gd⟩ :: rest) (hgd : gOk E Y gd = true) (hd : Nat.blt d n = true)
    (hsk : skB Y j true [] (l.take k) = true) (hfr : ((l.take k).all fun o => fresh E o.dst) = true)
    (hb : t = true → SO P n ops (l.take k) ((dj, .bool true) :: E) H (Bool1 db u H))
    (kk : SO P n ops rest ((d, .bool (t && u)) :: E) H Q) : SO P n ops l E H Q :=
  o_short (want := true) yk hj hc hl hgd hd hsk hfr hb (fun h => ⟨by simp [h], fun _ => rfl, (fun e => nomatch e)⟩) (fun h => ⟨fun _ => by rw [h]; rfl, (fun e => nomatch e)⟩) kk
end
end Go.K
