/-
  The thin layer, fifth part: regions that draw their order, in phases: in each phase whatever reads only is taken first.
-/
import Derived.Test.YtdfidkhbldedlaaGreatK4
namespace Go.K
set_option linter.unusedVariables false
set_option linter.unusedSimpArgs false

section
variable {P : Program} {n : Nat} {E : Env} {H : Hp} {Q : Post} {ops : Array Oper}

def lst (m n : Nat) : Array Bool := (Array.range m).map fun i => decide (i < n)
theorem lst_size (m n : Nat) : (lst m n).size = m := by simp [lst]
theorem lst_getD (m n i : Nat) (d : Bool) : (lst m n).getD i d = if i < m then decide (i < n) else d := by
  simp only [lst, Array.getD_eq_getD_getElem?, Array.getElem?_map]
  split
  · rename_i h; simp [h]
  · rename_i h; rw [Array.getElem?_eq_none (by simpa using h)]; rfl

/-- Whatever stands from k on waits, on some way, for all that stands ahead of it. -/
def barB (ops : Array Oper) (k : Nat) : Bool :=
  decide (k = ops.size) || (decide (k < ops.size) && Region.sinkB .any ops k && (List.range ops.size).all fun t => decide (t ≤ k) || (List.range t).any fun s => decide (k ≤ s) && Region.waitsFor .any ops t s)
def closedB (ops : Array Oper) : Bool := (List.range ops.size).all fun j => match ops[j]? with | some o => o.after.all fun e => !Region.binds .any e || decide (e.on < j) | none => true

theorem lst_inv {ops : Array Oper} {n k : Nat} (hc : closedB ops = true) (hn : n ≤ k) : HeadInv .any ops k (lst ops.size n) := by
  refine ⟨lst_size _ _, fun j oj hj hl e he hb => ?_, fun t ht hts => ?_⟩
  · have hjs : j < ops.size := (Array.getElem?_eq_some_iff.1 hj).1
    have h1 := List.all_eq_true.1 hc j (List.mem_range.2 hjs)
    simp only [hj] at h1
    have h2 := Array.all_eq_true_iff_forall_mem.1 h1 e he
    simp only [hb, Bool.not_true, Bool.false_or, decide_eq_true_eq] at h2
    rw [lst_getD] at hl ⊢
    rw [if_pos hjs] at hl
    rw [if_pos (by omega)]
    simp at hl ⊢; omega
  · rw [lst_getD, if_pos hts]; simp; omega

theorem bar_waits {k : Nat} {listed : Array Bool} (hB : barB ops k = true) (inv : HeadInv .any ops k listed) {i : Nat} (hi : i < k) (hun : listed.getD i true = false) :
    ∀ t, k ≤ t → t ∉ Region.ready .any ops listed := by
  unfold barB at hB
  simp only [Bool.or_eq_true, Bool.and_eq_true, decide_eq_true_eq] at hB
  rcases hB with hB | ⟨⟨hk, hs⟩, ht⟩
  · intro t htk hr
    obtain ⟨_, ot, hot, _⟩ := mem_ready.1 hr
    have := (Array.getElem?_eq_some_iff.1 hot).1
    omega
  · -- the first of them
    have h0 : ∀ (d i : Nat), k - i = d → i < k → listed.getD i true = false → k ∉ Region.ready .any ops listed := by
      intro d
      induction d using Nat.strongRecOn with
      | _ d ih =>
        intro i hd hi hun hr
        obtain ⟨_, ok, hok, hall⟩ := mem_ready.1 hr
        have h1 := List.all_eq_true.1 hs i (List.mem_range.2 hi)
        obtain ⟨j, hj, hj2⟩ := List.any_eq_true.1 h1
        simp only [Bool.and_eq_true, decide_eq_true_eq] at hj2
        obtain ⟨oj, hoj, e, he, hb, hon⟩ := Region.waitsFor_spec hj2.2
        have hjle : j ≤ k := by have := List.mem_range.1 hj; omega
        by_cases hjk : j = k
        · subst hjk
          have : oj = ok := Option.some.inj (hoj.symm.trans hok)
          subst this
          have h2 := hall e he hb
          rw [hon, getD_both hun] at h2
          cases h2
        · cases hl : listed.getD j false with
          | true =>
            have h2 := inv.closed j oj hoj hl e he hb
            rw [hon, getD_both hun] at h2
            cases h2
          | false =>
            have hjs : j < listed.size := by rw [inv.size]; omega
            exact ih (k - j) (by omega) j rfl (by omega) (getD_in hjs hl) hr
    intro t htk hr
    by_cases htk2 : t = k
    · subst htk2; exact h0 _ i rfl hi hun hr
    · obtain ⟨_, ot, hot, hall⟩ := mem_ready.1 hr
      have hts := (Array.getElem?_eq_some_iff.1 hot).1
      have h1 := List.all_eq_true.1 ht t (List.mem_range.2 hts)
      simp only [Bool.or_eq_true, decide_eq_true_eq] at h1
      rcases h1 with h1 | h1
      · omega
      · obtain ⟨s, hsr, hs2⟩ := List.any_eq_true.1 h1
        simp only [Bool.and_eq_true, decide_eq_true_eq] at hs2
        obtain ⟨o', ho', e, he, hb, hon⟩ := Region.waitsFor_spec hs2.2
        have : o' = ot := Option.some.inj (ho'.symm.trans hot)
        subst this
        have h2 := hall e he hb
        have hst := List.mem_range.1 hsr
        rw [hon, getD_both (inv.tail s hs2.1 (by omega))] at h2
        cases h2

/-- Whatever order is picked, T holding behind each, till L. -/
def anyT (P : Program) (ops : Array Oper) (q : Exit → Act → World → Prop) (T : World → Prop) (k : Nat) (L : Array Bool → Act → World → Prop) : Nat → Array Bool → Act → World → Prop
  | 0, listed, a, w => L listed a w
  | f + 1, listed, a, w =>
    Region.ready .any ops listed ≠ [] ∧ ∀ i ∈ Region.ready .any ops listed, i < k ∧ wpOp P ops q i (fun a' w' => T w' ∧ anyT P ops q T k L f (listed.setIfInBounds i true) a' w') a w

section
variable {q : Exit → Act → World → Prop} {T : World → Prop} {k : Nat} {L : Array Bool → Act → World → Prop}

theorem wpAny_of_T {g : Nat} (hL : ∀ listed a w, L listed a w → wpAny P .any ops q g listed a w) :
    ∀ (f : Nat) (listed : Array Bool) (a : Act) (w : World), anyT P ops q T k L f listed a w → wpAny P .any ops q (f + g) listed a w
  | 0, listed, a, w, h => by rw [Nat.zero_add]; exact hL _ _ _ h
  | f + 1, listed, a, w, h => by
    rw [show f + 1 + g = (f + g) + 1 by omega]
    exact ⟨fun h0 => absurd h0 h.1, fun i hi => wpOp_mono (fun a' w' h' => wpAny_of_T hL f _ a' w' h'.2) (h.2 i hi).2⟩

theorem anyT_first {i : Nat} {oi : Oper} {v : Value} (hi : ops[i]? = some oi) (hsel : ∀ (j : Nat) (o : Oper) cs b, ops[j]? = some o → o.op ≠ .select cs b)
    (hQ : ∀ c a w, q (.panic c) (a.put oi.dst v) w → q (.panic c) a w) (hB : barB ops k = true) (hik : i < k)
    (hdone : ∀ listed a w, L listed a w → ∀ j ∈ Region.ready .any ops listed, k ≤ j) :
    ∀ (f : Nat) (listed : Array Bool) (a : Act) (w : World), HeadInv .any ops k listed →
      (∀ j oj, ops[j]? = some oj → j ≠ i → listed.getD j true = false → (∀ e ∈ oj.after, Region.binds .any e = true → e.on ≠ i) → oi.apart ops oj = true) →
      i ∈ Region.ready .any ops listed → YieldsIf P ops T oi v a → T w →
      anyT P ops q T k L f (listed.setIfInBounds i true) (a.put oi.dst v) w → anyT P ops q T k L (f + 1) listed a w := by
  intro f
  induction f with
  | zero =>
    intro listed a w inv _ hr hy hT H
    have hun := (mem_ready.1 hr).1
    refine ⟨fun h => (by rw [h] at hr; cases hr), fun j hj => ?_⟩
    have hjk : j < k := by
      rcases Nat.lt_or_ge j k with h | h
      · exact h
      · exact absurd hj (bar_waits hB inv hik hun j h)
    refine ⟨hjk, ?_⟩
    by_cases hji : j = i
    · subst hji; exact hy.wpOp hi hT ⟨hT, H⟩
    · have := hdone _ _ _ H j (ready_mono hj hji)
      omega
  | succ f ih =>
    intro listed a w inv hfree hr hy hT H
    have hun := (mem_ready.1 hr).1
    refine ⟨fun h => (by rw [h] at hr; cases hr), fun j hj => ?_⟩
    have hjk : j < k := by
      rcases Nat.lt_or_ge j k with h | h
      · exact h
      · exact absurd hj (bar_waits hB inv hik hun j h)
    refine ⟨hjk, ?_⟩
    by_cases hji : j = i
    · subst hji; exact hy.wpOp hi hT ⟨hT, H⟩
    · have h1 := (H.2 j (ready_mono hj hji)).2
      obtain ⟨hjun, oj, hoj, hall⟩ := mem_ready.1 hj
      have hnot : ∀ e ∈ oj.after, Region.binds .any e = true → e.on ≠ i := fun e he hb heq => by
        have h1 := hall e he hb
        rw [heq, getD_both hun] at h1
        cases h1
      have h2 := wpOp_putIf hoj (hfree j oj hoj hji hjun hnot) (fun cs b => hsel i oi cs b hi) (fun cs b => hsel j oj cs b hoj) hQ hy h1
      have hfree' : ∀ m om, ops[m]? = some om → m ≠ i → (listed.setIfInBounds j true).getD m true = false →
          (∀ e ∈ om.after, Region.binds .any e = true → e.on ≠ i) → oi.apart ops om = true := fun m om hm hmi hun hno => by
        refine hfree m om hm hmi ?_ hno
        by_cases hjm : j = m
        · subst hjm; exact hjun
        · rw [getD_set_ne true hjm] at hun; exact hun
      refine wpOp_mono (fun a' w' h3 => ⟨h3.2.1, ih (listed.setIfInBounds j true) a' w' (inv.set hj hjk) hfree' (ready_mono hr (Ne.symm hji)) h3.1 h3.2.1 ?_⟩) h2
      rw [Array.setIfInBounds_comm _ _ hji]
      exact h3.2.2

/-- A phase's operations in the order in which they are taken; true: it does more than read. -/
def wpX (P : Program) (ops : Array Oper) (T : World → Prop) (q : Exit → Act → World → Prop) (K : Act → World → Prop) : List (Oper × Bool) → Act → World → Prop
  | [], a, w => K a w
  | (o, false) :: r, a, w => ∃ v, YieldsIf P ops T o v a ∧ wpX P ops T q K r (a.put o.dst v) w
  | (o, true) :: r, a, w => if Region.wanted o (yielded ops a.tmps) then o.wp P a w (fun a' w' => T w' ∧ wpX P ops T q K r a' w') q else wpX P ops T q K r (a.put o.dst undef) w

def schedB (ops : Array Oper) (k : Nat) : List (Nat × Bool) → Array Bool → Bool
  | [], listed => listed == lst ops.size k && (Region.ready .any ops listed).all fun j => decide (k ≤ j)
  | (i, false) :: r, listed => decide (i < k) && (Region.ready .any ops listed).contains i && Region.free .any ops listed i && schedB ops k r (listed.setIfInBounds i true)
  | (i, true) :: r, listed => decide (i < k) && decide (Region.ready .any ops listed = [i]) && schedB ops k r (listed.setIfInBounds i true)

/-- The operations of a phase, out of the region's. -/
def pickOps (l : List Oper) : List (Nat × Bool) → Option (List (Oper × Bool))
  | [] => some []
  | (i, x) :: r => match l[i]? with | some o => (match pickOps l r with | some t => some ((o, x) :: t) | none => none) | none => none

theorem phase_run (hs : Region.noSelect ops = true) (hB : barB ops k = true) (hQ : ∀ c a w, ¬ q (.panic c) a w) {K : Act → World → Prop} :
    ∀ (ord : List (Nat × Bool)) (l : List (Oper × Bool)) (listed : Array Bool) (a : Act) (w : World), HeadInv .any ops k listed → pickOps ops.toList ord = some l → schedB ops k ord listed = true → T w → wpX P ops T q K l a w →
      anyT P ops q T k (fun listed' a' w' => listed' = lst ops.size k ∧ (Region.ready .any ops listed').all (fun j => decide (k ≤ j)) = true ∧ K a' w') ord.length listed a w
  | [], l, listed, a, w, inv, hp, hc, hT, h => by
    simp only [pickOps, Option.some.injEq] at hp
    subst hp
    simp only [schedB, Bool.and_eq_true, beq_iff_eq] at hc
    exact ⟨hc.1, hc.2, h⟩
  | (i, x) :: ord, l, listed, a, w, inv, hp, hc, hT, h => by
    simp only [pickOps] at hp
    cases ho : ops.toList[i]? with
    | none => rw [ho] at hp; cases hp
    | some o =>
      rw [ho] at hp
      cases hp2 : pickOps ops.toList ord with
      | none => simp [hp2] at hp
      | some t =>
        simp only [hp2, Option.some.injEq] at hp
        subst hp
        have ho' : ops[i]? = some o := by simpa using ho
        cases x with
        | false =>
          simp only [schedB, Bool.and_eq_true, decide_eq_true_eq] at hc
          obtain ⟨⟨⟨h1, h2⟩, h3⟩, h4⟩ := hc
          obtain ⟨v, hy, hw⟩ := h
          have hr : i ∈ Region.ready .any ops listed := by simpa using h2
          refine anyT_first ho' (Region.noSelect_spec hs) (fun c a w hh => absurd hh (hQ c _ w)) hB h1 (fun listed a w hh j hj => ?_) _ listed a w inv (Region.free_spec ho' h3) hr hy hT ?_
          · have := List.all_eq_true.1 hh.2.1 j hj
            simpa using this
          · exact phase_run hs hB hQ ord t _ _ _ (inv.set hr h1) hp2 h4 hT hw
        | true =>
          simp only [schedB, Bool.and_eq_true, decide_eq_true_eq] at hc
          obtain ⟨⟨h1, h2⟩, h4⟩ := hc
          have hr : i ∈ Region.ready .any ops listed := by rw [h2]; exact .head _
          refine ⟨fun h0 => (by rw [h0] at hr; cases hr), fun j hj => ?_⟩
          have hji : j = i := by rw [h2] at hj; simpa using hj
          subst hji
          refine ⟨h1, ?_⟩
          unfold wpOp
          simp only [ho']
          simp only [wpX] at h
          split
          · rename_i hw
            rw [if_pos hw] at h
            refine .inl (Oper.wp_mono (fun a' w' hh => ⟨hh.1, phase_run hs hB hQ ord t _ _ _ (inv.set hr h1) hp2 h4 hh.1 hh.2⟩) h)
          · rename_i hw
            rw [if_neg hw] at h
            exact ⟨hT, phase_run hs hB hQ ord t _ _ _ (inv.set hr h1) hp2 h4 hT h⟩

/-- The phases: where each ends, in which order its operations are taken. -/
abbrev Phases := List (Nat × List (Nat × Bool))
def phasesB (ops : Array Oper) : Nat → Phases → Bool
  | s, [] => s == ops.size && (Region.ready .any ops (lst ops.size s)).isEmpty
  | s, (k, ord) :: r => decide (s ≤ k) && decide (s + ord.length = k) && barB ops k && schedB ops k ord (lst ops.size s) && phasesB ops k r
def pickPh (l : List Oper) : Phases → Option (List (List (Oper × Bool)))
  | [] => some []
  | (_, ord) :: r => match pickOps l ord with | some t => (match pickPh l r with | some u => some (t :: u) | none => none) | none => none

def wpPh (P : Program) (ops : Array Oper) (q : Exit → Act → World → Prop) : List (List (Oper × Bool)) → Act → World → Prop
  | [], a, w => q .normal a w
  | l :: r, a, w => ∃ T : World → Prop, T w ∧ wpX P ops T q (wpPh P ops q r) l a w

theorem phases_run (hs : Region.noSelect ops = true) (hcl : closedB ops = true) (hQ : ∀ c a w, ¬ q (.panic c) a w) :
    ∀ (ph : Phases) (l : List (List (Oper × Bool))) (s : Nat) (a : Act) (w : World), phasesB ops s ph = true → pickPh ops.toList ph = some l → wpPh P ops q l a w → wpAny P .any ops q (ops.size - s) (lst ops.size s) a w
  | [], l, s, a, w, hc, hp, h => by
    simp only [pickPh, Option.some.injEq] at hp
    subst hp
    simp only [phasesB, Bool.and_eq_true, beq_iff_eq, List.isEmpty_iff] at hc
    obtain ⟨rfl, h2⟩ := hc
    rw [Nat.sub_self]
    exact ⟨h2, h⟩
  | (k, ord) :: ph, l, s, a, w, hc, hp, h => by
    simp only [pickPh] at hp
    cases h1 : pickOps ops.toList ord with
    | none => simp [h1] at hp
    | some t =>
      cases h2 : pickPh ops.toList ph with
      | none => simp [h1, h2] at hp
      | some u =>
        simp only [h1, h2, Option.some.injEq] at hp
        subst hp
        simp only [phasesB, Bool.and_eq_true, decide_eq_true_eq] at hc
        obtain ⟨⟨⟨⟨hsk, hlen⟩, hB⟩, hsch⟩, hrest⟩ := hc
        obtain ⟨T, hT, hx⟩ := h
        have hks : k ≤ ops.size := by
          unfold barB at hB
          simp only [Bool.or_eq_true, Bool.and_eq_true, decide_eq_true_eq] at hB
          rcases hB with hB | hB
          · omega
          · omega
        have hrun := phase_run hs hB hQ ord t (lst ops.size s) a w (lst_inv hcl hsk) h1 hsch hT hx
        have hany := wpAny_of_T (g := ops.size - k) (fun listed a' w' hh => by
          obtain ⟨e, _, hK⟩ := hh
          subst e
          exact phases_run hs hcl hQ ph u k a' w' hrest h2 hK) _ _ _ _ hrun
        rw [show ops.size - s = ord.length + (ops.size - k) by omega]
        exact hany
end

/-! ### The same, of what is known -/
/-- Behind the region: the normal end alone. -/
def UpN (n : Nat) (w : World) (H : Hp) (Q : Post) : Exit → Act → World → Prop
  | .normal, a, w' => Up n w H Q .normal a w'
  | _, _, _ => False

def SP (P : Program) (n : Nat) (ops : Array Oper) (w0 : World) (H0 : Hp) (Q : Post) (l : List (List (Oper × Bool))) (E : Env) (H : Hp) : Prop :=
  ∀ a w, EnvOk E a → a.tmps.size = n → a.defers = [] → Trk w0 w H0 H → wpPh P ops (UpN n w0 H0 Q) l a w
def UpK (n : Nat) (w0 : World) (H0 : Hp) (K : Env → Hp → Prop) : Act → World → Prop :=
  fun a w => ∃ E H, EnvOk E a ∧ a.tmps.size = n ∧ a.defers = [] ∧ Trk w0 w H0 H ∧ K E H
/-- What is left of a phase; K: what is to be shown at its end. -/
def SX (P : Program) (n : Nat) (ops : Array Oper) (w0 : World) (H0 : Hp) (Q : Post) (Hs : Hp) (l : List (Oper × Bool)) (K : Env → Hp → Prop) (E : Env) (H : Hp) : Prop :=
  ∀ a w, EnvOk E a → a.tmps.size = n → a.defers = [] → Trk w0 w H0 H → HpOk Hs w → wpX P ops (HpOk Hs) (UpN n w0 H0 Q) (UpK n w0 H0 K) l a w

theorem wpX_mono {T : World → Prop} {q : Exit → Act → World → Prop} {K K' : Act → World → Prop} (hk : ∀ a w, K a w → K' a w) : ∀ (l : List (Oper × Bool)) (a : Act) (w : World), wpX P ops T q K l a w → wpX P ops T q K' l a w
  | [], a, w, h => hk _ _ h
  | (o, false) :: r, a, w, ⟨v, hy, h⟩ => ⟨v, hy, wpX_mono hk r _ _ h⟩
  | (o, true) :: r, a, w, h => by
    simp only [wpX] at h ⊢
    split
    · rename_i hw; rw [if_pos hw] at h; exact Oper.wp_mono (fun a w ⟨h1, h2⟩ => ⟨h1, wpX_mono hk r a w h2⟩) h
    · rename_i hw; rw [if_neg hw] at h; exact wpX_mono hk r _ _ h
theorem wpX_append {T : World → Prop} {q : Exit → Act → World → Prop} {K : Act → World → Prop} : ∀ (x y : List (Oper × Bool)) (a : Act) (w : World), wpX P ops T q (wpX P ops T q K y) x a w → wpX P ops T q K (x ++ y) a w
  | [], y, a, w, h => h
  | (o, false) :: r, y, a, w, ⟨v, hy, h⟩ => ⟨v, hy, wpX_append r y _ _ h⟩
  | (o, true) :: r, y, a, w, h => by
    simp only [wpX, List.cons_append] at h ⊢
    split
    · rename_i hw; rw [if_pos hw] at h; exact Oper.wp_mono (fun a w ⟨h1, h2⟩ => ⟨h1, wpX_append r y a w h2⟩) h
    · rename_i hw; rw [if_neg hw] at h; exact wpX_append r y _ _ h
/-- T holds at the end, too. -/
theorem wpX_T {T : World → Prop} {q : Exit → Act → World → Prop} {K : Act → World → Prop} {E0 : Env} : ∀ (l : List (Oper × Bool)) (a : Act) (w : World), (l.all fun o => fresh E0 o.1.dst) = true → EnvOk E0 a → T w → wpX P ops T q K l a w → wpX P ops T q (fun a w => K a w ∧ T w ∧ EnvOk E0 a) l a w
  | [], a, w, hf, he, hT, h => ⟨h, hT, he⟩
  | (o, false) :: r, a, w, hf, he, hT, ⟨v, hy, h⟩ => by
    simp only [List.all_cons, Bool.and_eq_true] at hf
    exact ⟨v, hy, wpX_T r _ _ hf.2 (he.fresh hf.1 v) hT h⟩
  | (o, true) :: r, a, w, hf, he, hT, h => by
    simp only [List.all_cons, Bool.and_eq_true] at hf
    simp only [wpX] at h ⊢
    split
    · rename_i hw; rw [if_pos hw] at h
      refine oper_mono2 (fun v w' ⟨h1, h2⟩ => ⟨h1, wpX_T r _ _ hf.2 (he.fresh hf.1 v) h1 h2⟩) (fun d w' ⟨h1, h2⟩ => ⟨h1, wpX_T r _ _ hf.2 ?_ h1 h2⟩) (fun _ _ _ _ hq => hq) h
      have he' : EnvOk E0 { a with defers := d :: a.defers } := he
      exact he'.fresh hf.1 undef
    · rename_i hw; rw [if_neg hw] at h; exact wpX_T r _ _ hf.2 (he.fresh hf.1 undef) hT h

class Wide (P : Program) : Prop where eq : P.follows .mixedOrders = true

theorem s_draw {id : Nat} {l : List Oper} (Y : List (Nat × Nat)) (ph : Phases) {pl : List (List (Oper × Bool))} [hw : Wide P]
    (hc : (yokB l Y && Region.noSelect l.toArray && closedB l.toArray && phasesB l.toArray 0 ph) = true) (hp : pickPh l ph = some pl)
    (h : ∀ ops w0 H0, Yok ops Y → SP P n ops w0 H0 Q pl E H) : SC P n (.region id l.toArray true) E H Q := by
  intro a w h1 h2 h3 h4
  simp only [Bool.and_eq_true] at hc
  obtain ⟨⟨⟨c1, c2⟩, c3⟩, c4⟩ := hc
  refine wp_region_any hw.eq ?_
  have hy : Yok l.toArray Y := by
    intro j d hm
    have := List.all_eq_true.1 c1 (j, d) hm
    simpa using this
  have hrun := h l.toArray w H hy a { w with drawn := w.drawn + 1 } h1 h2 h3 (trk_drawn h4 _)
  have := phases_run (P := P) (q := UpN n w H Q) c2 c3 (fun c a w hh => hh) ph pl 0 a _ c4 (by simpa using hp) hrun
  have hz : lst l.toArray.size 0 = Array.replicate l.toArray.size false := by
    apply Array.ext
    · simp [lst]
    · intro i h1 h2; simp [lst]
  rw [Nat.sub_zero, hz] at this
  refine wpAny_post ?_ _ _ _ _ this
  intro e a w hh
  cases e <;> first | exact hh | exact hh.elim
where
  wpAny_post {q q' : Exit → Act → World → Prop} {ops : Array Oper} (hq : ∀ e a w, q e a w → q' e a w) : ∀ (f : Nat) (listed : Array Bool) (a : Act) (w : World), wpAny P .any ops q f listed a w → wpAny P .any ops q' f listed a w
    | 0, listed, a, w, h => ⟨h.1, hq _ _ _ h.2⟩
    | f + 1, listed, a, w, h => ⟨fun h0 => hq _ _ _ (h.1 h0), fun i hi => by
        have := h.2 i hi
        unfold wpOp at *
        split
        · rename_i ho; simp only [ho] at this; exact wpAny_post hq f _ _ _ this
        · rename_i o ho
          simp only [ho] at this
          split
          · rename_i hw
            rw [if_pos hw] at this
            refine this.imp (fun hh => ?_) (fun ⟨h1, a0, w0, h2⟩ => ⟨h1, a0, w0, hq _ _ _ h2⟩)
            exact oper_mono2 (fun v w' hk => wpAny_post hq f _ _ _ hk) (fun d w' hk => wpAny_post hq f _ _ _ hk) (fun e a w _ => hq e a w) hh
          · rename_i hw
            rw [if_neg hw] at this
            exact wpAny_post hq f _ _ _ this⟩

section
variable {w0 : World} {H0 Hs : Hp} {l : List (Oper × Bool)} {r : List (List (Oper × Bool))} {K : Env → Hp → Prop}

theorem p_end (h : Q .normal E H) : SP P n ops w0 H0 Q [] E H := fun a w h1 h2 h3 h4 => ⟨E, H, h1, h2, h3, h4, h⟩
theorem p_ph (Hs : Hp) {F : Hp} (hs : Split H Hs F) (h : SX P n ops w0 H0 Q Hs l (fun E H => SP P n ops w0 H0 Q r E H) E H) : SP P n ops w0 H0 Q (l :: r) E H :=
  fun a w h1 h2 h3 h4 =>
    have hok : HpOk Hs w := (h4.ok.perm hs.perm).left
    ⟨HpOk Hs, hok, wpX_mono (fun a' w' ⟨E', H', k1, k2, k3, k4, k5⟩ => k5 a' w' k1 k2 k3 k4) l a w (h a w h1 h2 h3 h4 hok)⟩
/-- all of memory as it is -/
theorem p_all (h : SX P n ops w0 H0 Q H l (fun E H => SP P n ops w0 H0 Q r E H) E H) : SP P n ops w0 H0 Q (l :: r) E H :=
  fun a w h1 h2 h3 h4 => ⟨HpOk H, h4.ok, wpX_mono (fun a' w' ⟨E', H', k1, k2, k3, k4, k5⟩ => k5 a' w' k1 k2 k3 k4) l a w (h a w h1 h2 h3 h4 h4.ok)⟩
/-- all of memory but a block -/
theorem p_drop {x : Blk} {Hs : Hp} (hp : Pick x H Hs) (h : SX P n ops w0 H0 Q Hs l (fun E H => SP P n ops w0 H0 Q r E H) E H) : SP P n ops w0 H0 Q (l :: r) E H := p_ph Hs (F := [x]) (split_rest hp) h
where
  split_rest {x : Blk} : ∀ {H F : Hp}, Pick x H F → Split H F [x]
    | _, _, .here (H := H) => split_tail x H
    | _, _, .there (y := y) hp => .cons .here (split_rest hp)
  split_tail (x : Blk) : ∀ (H : Hp), Split (x :: H) H [x]
    | [] => .nil
    | y :: H => .cons (.there .here) (split_tail x H)
theorem p_none (h : SX P n ops w0 H0 Q [] l (fun E H => SP P n ops w0 H0 Q r E H) E H) : SP P n ops w0 H0 Q (l :: r) E H := p_ph [] .nil h
theorem x_nil (h : K E H) : SX P n ops w0 H0 Q Hs [] K E H := fun a w h1 h2 h3 h4 _ => ⟨E, H, h1, h2, h3, h4, h⟩

theorem x_rd {d : Nat} {op : Op} {ty : TypeId} {pos : String} {af : Array Edge} {v : Value} (hr : Rd P E Hs op v) (hd : Nat.blt d n = true)
    (kk : SX P n ops w0 H0 Q Hs l K ((d, v) :: E) H) : SX P n ops w0 H0 Q Hs ((⟨some d, op, ty, pos, af, none⟩, false) :: l) K E H := by
  intro a w h1 h2 h3 h4 h5
  have hlt : d < a.tmps.size := by rw [h2]; exact Nat.le_of_ble_eq_true hd
  exact ⟨v, .inl ⟨rfl, fun w' hw' => hr a w' (some d) ty pos af none h1 hw'⟩, kk _ w (h1.put hlt) (by simp [Act.put, h2]) h3 h4 h5⟩
theorem x_rdn {op : Op} {ty : TypeId} {pos : String} {af : Array Edge} {v : Value} (hr : Rd P E Hs op v)
    (kk : SX P n ops w0 H0 Q Hs l K E H) : SX P n ops w0 H0 Q Hs ((⟨none, op, ty, pos, af, none⟩, false) :: l) K E H := by
  intro a w h1 h2 h3 h4 h5
  exact ⟨v, .inl ⟨rfl, fun w' hw' => hr a w' none ty pos af none h1 hw'⟩, kk _ w h1 h2 h3 h4 h5⟩

theorem wanted_of {d : Option Tmp} {op : Op} {ty : TypeId} {pos : String} {af : Array Edge} {j dj : Nat} {b b' : Bool} {Y : List (Nat × Nat)} {a : Act} (y : Yok ops Y) (hj : yl Y j = some dj) (h1 : EnvOk E a) (hb : fnd E dj = some (.bool b')) :
    Region.wanted ⟨d, op, ty, pos, af, some (j, b)⟩ (yielded ops a.tmps) = (b' == b) := by
  have hy := y j dj (yl_mem hj)
  have := slot_of (h1 dj _ hb)
  simp [Region.wanted, yielded, hy, this]

theorem x_g {d : Option Tmp} {op : Op} {ty : TypeId} {pos : String} {af : Array Edge} {j dj : Nat} {b x : Bool} {Y : List (Nat × Nat)} (y : Yok ops Y) (hj : yl Y j = some dj) (hb : fnd E dj = some (.bool b))
    (kk : SX P n ops w0 H0 Q Hs ((⟨d, op, ty, pos, af, none⟩, x) :: l) K E H) : SX P n ops w0 H0 Q Hs ((⟨d, op, ty, pos, af, some (j, b)⟩, x) :: l) K E H := by
  intro a w h1 h2 h3 h4 h5
  have hk := kk a w h1 h2 h3 h4 h5
  have hw : Region.wanted ⟨d, op, ty, pos, af, some (j, b)⟩ (yielded ops a.tmps) = true := by rw [wanted_of y hj h1 hb]; simp
  cases x with
  | false =>
    obtain ⟨v, hy, hk⟩ := hk
    refine ⟨v, ?_, hk⟩
    rcases hy with ⟨_, hy⟩ | ⟨hy, _⟩
    · exact .inl ⟨hw, hy⟩
    · cases hy
  | true =>
    simp only [wpX] at hk ⊢
    rw [if_pos hw]
    rw [if_pos (show Region.wanted ⟨d, op, ty, pos, af, none⟩ (yielded ops a.tmps) = true from rfl)] at hk
    exact hk
theorem x_gn {d : Option Tmp} {op : Op} {ty : TypeId} {pos : String} {af : Array Edge} {j dj : Nat} {b b' x : Bool} {Y : List (Nat × Nat)} (y : Yok ops Y) (hj : yl Y j = some dj) (hb : fnd E dj = some (.bool b')) (hne : b' = !b) (hd : fresh E d = true)
    (kk : SX P n ops w0 H0 Q Hs l K E H) : SX P n ops w0 H0 Q Hs ((⟨d, op, ty, pos, af, some (j, b)⟩, x) :: l) K E H := by
  intro a w h1 h2 h3 h4 h5
  have hk := kk (a.put d undef) w (h1.fresh hd undef) (by cases d <;> simp [Act.put, h2]) (by cases d <;> simpa [Act.put] using h3) h4 h5
  have hw : Region.wanted ⟨d, op, ty, pos, af, some (j, b)⟩ (yielded ops a.tmps) = false := by rw [wanted_of y hj h1 hb, hne]; cases b <;> rfl
  cases x with
  | false => exact ⟨undef, .inr ⟨hw, rfl⟩, hk⟩
  | true =>
    simp only [wpX]
    rw [if_neg (by rw [hw]; exact Bool.false_ne_true)]
    exact hk

/-- An operation that does more than read: by its own law. -/
theorem x_so {o : Oper} (h : SO P n ops [o] E H (fun e E' H' => e = .normal ∧ (∃ F, Split H' Hs F) ∧ SX P n ops w0 H0 Q Hs l K E' H')) : SX P n ops w0 H0 Q Hs ((o, true) :: l) K E H := by
  intro a w h1 h2 h3 h4 h5
  have hk := h a w h1 h2 h3 h4.ok
  simp only [wpList] at hk
  simp only [wpX]
  have fin : ∀ a' w', Up n w H (fun e E' H' => e = .normal ∧ (∃ F, Split H' Hs F) ∧ SX P n ops w0 H0 Q Hs l K E' H') .normal a' w' → HpOk Hs w' ∧ wpX P ops (HpOk Hs) (UpN n w0 H0 Q) (UpK n w0 H0 K) l a' w' := by
    rintro a' w' ⟨E', H', k1, k2, k3, k4, _, ⟨F, k5⟩, k6⟩
    have hok : HpOk Hs w' := (k4.ok.perm k5.perm).left
    exact ⟨hok, k6 a' w' k1 k2 k3 (h4.trans k4) hok⟩
  split
  · rename_i hw
    rw [if_pos hw] at hk
    rcases hk with hk | ⟨_, a0, w1, E', H', _, _, _, _, hh, _⟩
    · refine oper_mono2 (fun v w' hh => fin _ _ hh) (fun d w' hh => fin _ _ hh) ?_ hk
      rintro e a' w' hne ⟨E', H', _, _, _, k4, k5, k6, k7⟩
      exact absurd k5 hne
    · cases hh
  · rename_i hw
    rw [if_neg hw] at hk
    exact (fin _ _ hk).2

/-- Passed over, all of them. -/
theorem wpX_skips {T : World → Prop} {q : Exit → Act → World → Prop} {K : Act → World → Prop} {Y : List (Nat × Nat)} (y : Yok ops Y) {j dj : Nat} (hj : yl Y j = some dj) {want : Bool} :
    ∀ (l : List (Oper × Bool)) (S : List Nat) (a : Act) (w : World), skB Y j want S (l.map (·.1)) = true → (∀ s ∈ S, notBool a s) → EnvOk E a → (l.all fun o => fresh E o.1.dst) = true → fnd E dj = some (.bool (!want)) →
      (∀ a', EnvOk E a' → a'.tmps.size = a.tmps.size → a'.defers = a.defers → K a' w) → wpX P ops T q K l a w
  | [], _, a, w, _, _, h1, _, _, hk => hk a h1 rfl rfl
  | (o, x) :: l, S, a, w, hs, hS, h1, hf, hd, hk => by
    simp only [List.map_cons, skB, Bool.and_eq_true] at hs
    simp only [List.all_cons, Bool.and_eq_true] at hf
    have hw : Region.wanted o (yielded ops a.tmps) = false := by
      cases hg : o.guard with
      | none => rw [hg] at hs; simp at hs
      | some ib =>
        obtain ⟨i, b⟩ := ib
        rw [hg] at hs
        simp only [Bool.or_eq_true, Bool.and_eq_true, beq_iff_eq] at hs
        rcases hs.1 with ⟨rfl, rfl⟩ | h2
        · have hy := y i dj (yl_mem hj)
          have := slot_of (h1 dj _ hd)
          cases b <;> simp [Region.wanted, hg, yielded, hy, this]
        · cases hy : yl Y i with
          | none => rw [hy] at h2; cases h2
          | some s =>
            rw [hy] at h2
            have hm := hS s (by simpa using h2)
            have hyy := y i s (yl_mem hy)
            unfold Region.wanted
            simp only [hg, yielded, hyy, Option.bind_some]
            cases ht : a.tmps[s]? with
            | none => simp
            | some v => cases v <;> simp; rename_i bb; exact absurd ht (hm bb)
    have hrest := wpX_skips (T := T) (q := q) (K := K) y hj l (match o.dst with | some d => d :: S | none => S) (a.put o.dst undef) w hs.2 (by
      intro s hs'
      cases hdst : o.dst with
      | none => rw [hdst] at hs'; exact hS s hs'
      | some d =>
        rw [hdst] at hs'
        cases hs' with
        | head => exact notBool.new _
        | tail _ hm => exact (hS s hm).put _) (h1.fresh hf.1 undef) hf.2 hd (fun a' h2 h3 h4 => hk a' h2 (by rw [h3]; cases o.dst <;> simp [Act.put]) (by rw [h4]; cases o.dst <;> simp [Act.put]))
    cases x with
    | false => exact ⟨undef, .inr ⟨hw, rfl⟩, hrest⟩
    | true =>
      simp only [wpX]
      rw [if_neg (by rw [hw]; exact Bool.false_ne_true)]
      exact hrest

theorem x_short {k : Nat} {rest : List (Oper × Bool)} {t u want : Bool} {j dj db d : Nat} {x y : Operand} {ty : TypeId} {pos : String} {af : Array Edge} {gd : Option (Nat × Bool)} {Y : List (Nat × Nat)} (yk : Yok ops Y) (hj : yl Y j = some dj)
    (hc : fnd E dj = some (.bool t)) (hl : l = l.take k ++ (⟨some d, .pick (.tmp dj) x y, ty, pos, af, gd⟩, false) :: rest) (hgd : gOk E Y gd = true) (hd : Nat.blt d n = true)
    (hsk : skB Y j want [] ((l.take k).map (·.1)) = true) (hfr : ((l.take k).all fun o => fresh E o.1.dst) = true)
    (hb : t = want → SX P n ops w0 H0 Q Hs (l.take k) (fun E' H' => fnd E' db = some (.bool u) ∧ ∃ F, Split H' H F) ((dj, .bool want) :: E) H) {r : Bool}
    (hx : t = want → r = u ∧ (want = true → x = .tmp db) ∧ (want = false → y = .tmp db)) (hy : t = !want → (want = true → y = .const (.bool r)) ∧ (want = false → x = .const (.bool r)))
    (kk : SX P n ops w0 H0 Q Hs rest K ((d, .bool r) :: E) H) : SX P n ops w0 H0 Q Hs l K E H := by
  intro a w h1 h2 h3 h4 h5
  rw [hl]
  apply wpX_append
  have fin : ∀ (a' : Act) (w' : World), EnvOk E a' → a'.tmps.size = n → a'.defers = [] → Trk w0 w' H0 H → HpOk Hs w' → (∀ z, (t = want → z = .tmp db → a'.eval z = .bool u)) →
      wpX P ops (HpOk Hs) (UpN n w0 H0 Q) (UpK n w0 H0 K) ((⟨some d, .pick (.tmp dj) x y, ty, pos, af, gd⟩, false) :: rest) a' w' := by
    intro a' w' k1 k2 k3 k4 k4' k5
    have hcv : a'.eval (.tmp dj) = .bool t := k1 dj _ hc
    have hrun : ∀ w2, (execOp a'.eval ⟨some d, .pick (.tmp dj) x y, ty, pos, af, gd⟩).run P w2 = .ok (.value (.bool r)) w2 := by
      intro w2
      have : (if t then a'.eval x else a'.eval y) = .bool r := by
        by_cases ht : t = want
        · obtain ⟨rfl, hx1, hx2⟩ := hx ht
          subst ht
          cases t
          · simp; exact k5 y rfl (hx2 rfl)
          · simp; exact k5 x rfl (hx1 rfl)
        · have ht' : t = !want := not_eq_of ht
          obtain ⟨hy1, hy2⟩ := hy ht'
          subst ht'
          cases want
          · simp [hy2 rfl, Act.eval]
          · simp [hy1 rfl, Act.eval]
      simp only [execOp, hcv, asBool, Sem.run_bind, Sem.run_pure, Result.andThen_ok]
      rw [this]
    have hlt : d < a'.tmps.size := by rw [k2]; exact Nat.le_of_ble_eq_true hd
    exact ⟨.bool r, .inl ⟨gOk_wanted yk hgd k1, fun w2 _ => hrun w2⟩, kk _ w' (k1.put hlt) (by simp [Act.put, k2]) k3 k4 k4'⟩
  by_cases ht : t = want
  · have h1' : EnvOk ((dj, .bool want) :: E) a := by
      intro i v hv
      unfold fnd at hv
      cases hbq : Nat.beq dj i with
      | true =>
        have : dj = i := Nat.eq_of_beq_eq_true hbq
        subst this
        simp [hbq] at hv
        subst hv; subst ht
        exact h1 dj _ hc
      | false => simp [hbq] at hv; exact h1 i v hv
    have hrun := wpX_T (E0 := E) _ a w hfr h1 h5 (hb ht a w h1' h2 h3 h4 h5)
    refine wpX_mono ?_ _ a w hrun
    rintro a' w' ⟨⟨E', H', k1, k2, k3, k4, k5, F, k6⟩, k7, k8⟩
    exact fin a' w' k8 k2 k3 (k4.split k6) k7 (fun z _ hz => by subst hz; exact k1 db _ k5)
  · have ht' : t = !want := not_eq_of ht
    refine wpX_skips yk hj _ [] a w hsk (fun s hs => by cases hs) h1 hfr (by rw [hc, ht']) (fun a' k1 k2 k3 => ?_)
    exact fin a' w k1 (k2.trans h2) (k3.trans h3) h4 h5 (fun z h _ => absurd h ht)

theorem x_or {k : Nat} {rest : List (Oper × Bool)} {t u : Bool} {j dj db d : Nat} {ty : TypeId} {pos : String} {af : Array Edge} {gd : Option (Nat × Bool)} {Y : List (Nat × Nat)} (yk : Yok ops Y) (hj : yl Y j = some dj)
    (hc : fnd E dj = some (.bool t)) (hl : l = l.take k ++ (⟨some d, .pick (.tmp dj) (.const (.bool true)) (.tmp db), ty, pos, af, gd⟩, false) :: rest) (hgd : gOk E Y gd = true) (hd : Nat.blt d n = true)
    (hsk : skB Y j false [] ((l.take k).map (·.1)) = true) (hfr : ((l.take k).all fun o => fresh E o.1.dst) = true)
    (hb : t = false → SX P n ops w0 H0 Q Hs (l.take k) (fun E' H' => fnd E' db = some (.bool u) ∧ ∃ F, Split H' H F) ((dj, .bool false) :: E) H)
    (kk : SX P n ops w0 H0 Q Hs rest K ((d, .bool (t || u)) :: E) H) : SX P n ops w0 H0 Q Hs l K E H :=
  x_short (want := false) yk hj hc hl hgd hd hsk hfr hb (fun h => ⟨by simp [h], (fun e => nomatch e), fun _ => rfl⟩) (fun h => ⟨(fun e => nomatch e), fun _ => by rw [h]; rfl⟩) kk
theorem x_and {k : Nat} {rest : List (Oper × Bool)} {t u : Bool} {j dj db d : Nat} {ty : TypeId} {pos : String} {af : Array Edge} {gd : Option (Nat × Bool)} {Y : List (Nat × Nat)} (yk : Yok ops Y) (hj : yl Y j = some dj)
    (hc : fnd E dj = some (.bool t)) (hl : l = l.take k ++ (⟨some d, .pick (.tmp dj) (.tmp db) (.const (.bool false)), ty, pos, af, gd⟩, false) :: rest) (hgd : gOk E Y gd = true) (hd : Nat.blt d n = true)
    (hsk : skB Y j true [] ((l.take k).map (·.1)) = true) (hfr : ((l.take k).all fun o => fresh E o.1.dst) = true)
    (hb : t = true → SX P n ops w0 H0 Q Hs (l.take k) (fun E' H' => fnd E' db = some (.bool u) ∧ ∃ F, Split H' H F) ((dj, .bool true) :: E) H)
    (kk : SX P n ops w0 H0 Q Hs rest K ((d, .bool (t && u)) :: E) H) : SX P n ops w0 H0 Q Hs l K E H :=
  x_short (want := true) yk hj hc hl hgd hd hsk hfr hb (fun h => ⟨by simp [h], fun _ => rfl, (fun e => nomatch e)⟩) (fun h => ⟨fun _ => by rw [h]; rfl, (fun e => nomatch e)⟩) kk
end
end
end Go.K
