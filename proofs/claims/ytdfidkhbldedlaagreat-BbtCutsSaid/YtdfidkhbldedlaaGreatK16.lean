/-
  The thin layer, sixteenth part: regions that draw their order, by sets: some operations read no memory, and are taken first; the others in phases, of whatever operations; what a phase leans on may be single cells.
-/
import Derived.Test.YtdfidkhbldedlaaGreatK15
namespace Go.K
set_option linter.unusedVariables false
set_option linter.unusedSimpArgs false

section
variable {P : Program} {n : Nat} {E : Env} {H : Hp} {Q : Post} {ops : Array Oper} {q : Exit → Act → World → Prop}

/-- What is listed stays within L1, and has all that it waits for. -/
structure Inv (ops : Array Oper) (L1 listed : Array Bool) : Prop where
  size : listed.size = ops.size
  closed : ∀ j oj, ops[j]? = some oj → listed.getD j false = true → ∀ e ∈ oj.after, Region.binds .any e = true → listed.getD e.on false = true
  tail : ∀ t, L1.getD t true = false → listed.getD t true = false
theorem getD_setL {l : Array Bool} {i j : Nat} (d : Bool) (h : i ≠ j) : (l.setIfInBounds i true).getD j d = l.getD j d := getD_set_ne d h
theorem Inv.set {L1 listed : Array Bool} {i : Nat} (inv : Inv ops L1 listed) (hi : i ∈ Region.ready .any ops listed) (hin : L1.getD i true = true) : Inv ops L1 (listed.setIfInBounds i true) := by
  obtain ⟨_, oi, hoi, hall⟩ := mem_ready.1 hi
  have hlt : i < listed.size := by rw [inv.size]; exact (Array.getElem?_eq_some_iff.1 hoi).1
  refine ⟨by simp [inv.size], fun j oj hj hl e he hb => ?_, fun t ht => ?_⟩
  · have key : listed.getD e.on false = true := by
      by_cases hij : i = j
      · subst hij
        have : oi = oj := Option.some.inj (hoi.symm.trans hj)
        subst this
        exact hall e he hb
      · rw [getD_set_ne false hij] at hl
        exact inv.closed j oj hj hl e he hb
    by_cases hie : i = e.on
    · rw [← hie]
      simp only [Array.getD_eq_getD_getElem?, Array.getElem?_setIfInBounds, if_true, hlt]
      rfl
    · rw [getD_set_ne false hie]; exact key
  · have hit : i ≠ t := fun e => by rw [e, ht] at hin; cases hin
    rw [getD_set_ne true hit]
    exact inv.tail t ht

def chainB (ops : Array Oper) (L0 L1 : Array Bool) (t : Nat) : Nat → Nat → Bool
  | 0, s => Region.waitsFor .any ops t s
  | f + 1, s => Region.waitsFor .any ops t s || (List.range ops.size).any fun j => !L0.getD j true && L1.getD j false && Region.waitsFor .any ops j s && chainB ops L0 L1 t f j
/-- Whatever isn't in L1 waits till all of L1 is there. -/
def blockB (ops : Array Oper) (L0 L1 : Array Bool) : Bool :=
  (List.range ops.size).all fun t => L1.getD t true || ((List.range ops.size).any fun t' => !L1.getD t' true && Region.waitsFor .any ops t t') || (List.range ops.size).all fun s => L0.getD s true || !L1.getD s true || chainB ops L0 L1 t 5 s
theorem chain_waits {L0 L1 listed : Array Bool} {t : Nat} (inv : Inv ops L1 listed) (ht : t ∈ Region.ready .any ops listed) : ∀ (f s : Nat), chainB ops L0 L1 t f s = true → listed.getD s true = false → False := by
  have direct : ∀ s, Region.waitsFor .any ops t s = true → listed.getD s true = false → False := fun s hw hs => by
    obtain ⟨o, ho, e, he, hb, hon⟩ := Region.waitsFor_spec hw
    obtain ⟨_, ot, hot, hall⟩ := mem_ready.1 ht
    have : o = ot := Option.some.inj (ho.symm.trans hot)
    subst this
    have := hall e he hb
    rw [hon, getD_both hs] at this
    cases this
  intro f
  induction f with
  | zero => intro s h hs; exact direct s h hs
  | succ f ih =>
    intro s h hs
    simp only [chainB, Bool.or_eq_true] at h
    rcases h with h | h
    · exact direct s h hs
    · obtain ⟨j, hj, hj2⟩ := List.any_eq_true.1 h
      simp only [Bool.and_eq_true] at hj2
      obtain ⟨⟨⟨h1, h2⟩, h3⟩, h4⟩ := hj2
      have hju : listed.getD j true = false := by
        obtain ⟨oj, hoj, e, he, hb, hon⟩ := Region.waitsFor_spec h3
        cases hl : listed.getD j false with
        | true =>
          have := inv.closed j oj hoj hl e he hb
          rw [hon, getD_both hs] at this
          cases this
        | false =>
          have : j < listed.size := by rw [inv.size]; exact List.mem_range.1 hj
          exact getD_in this hl
      exact ih j h4 hju
theorem block_waits {L0 L1 listed : Array Bool} (hB : blockB ops L0 L1 = true) (h0 : ∀ i, listed.getD i true = false → L0.getD i true = false) (inv : Inv ops L1 listed) {i : Nat} (hi : L1.getD i true = true) (hun : listed.getD i true = false) :
    ∀ t, L1.getD t true = false → t ∉ Region.ready .any ops listed := by
  intro t ht hr
  obtain ⟨_, ot, hot, hall⟩ := mem_ready.1 hr
  have hts := (Array.getElem?_eq_some_iff.1 hot).1
  have h1 := List.all_eq_true.1 hB t (List.mem_range.2 hts)
  rw [ht, Bool.false_or, Bool.or_eq_true] at h1
  rcases h1 with h1 | h1
  · obtain ⟨t', ht', h2⟩ := List.any_eq_true.1 h1
    simp only [Bool.and_eq_true, Bool.not_eq_true'] at h2
    obtain ⟨o', ho', e, he, hb, hon⟩ := Region.waitsFor_spec h2.2
    have : o' = ot := Option.some.inj (ho'.symm.trans hot)
    subst this
    have h3 := hall e he hb
    rw [hon, getD_both (inv.tail t' h2.1)] at h3
    cases h3
  · have his : i < ops.size := by
      rcases Nat.lt_or_ge i listed.size with h | h
      · rw [inv.size] at h; exact h
      · simp only [Array.getD_eq_getD_getElem?, Array.getElem?_eq_none h] at hun; cases hun
    have h2 := List.all_eq_true.1 h1 i (List.mem_range.2 his)
    rw [h0 i hun, hi, Bool.not_true, Bool.false_or, Bool.false_or] at h2
    exact chain_waits inv hr 5 i h2 hun

/-- Whatever order is picked within L1, T holding behind each, till L. -/
def anyM (P : Program) (ops : Array Oper) (q : Exit → Act → World → Prop) (T : World → Prop) (L1 : Array Bool) (L : Array Bool → Act → World → Prop) : Nat → Array Bool → Act → World → Prop
  | 0, listed, a, w => L listed a w
  | f + 1, listed, a, w =>
    Region.ready .any ops listed ≠ [] ∧ ∀ i ∈ Region.ready .any ops listed, L1.getD i true = true ∧ wpOp P ops q i (fun a' w' => T w' ∧ anyM P ops q T L1 L f (listed.setIfInBounds i true) a' w') a w
variable {T : World → Prop} {L1 : Array Bool} {L : Array Bool → Act → World → Prop}
theorem wpAny_of_M {g : Nat} (hL : ∀ listed a w, L listed a w → wpAny P .any ops q g listed a w) :
    ∀ (f : Nat) (listed : Array Bool) (a : Act) (w : World), anyM P ops q T L1 L f listed a w → wpAny P .any ops q (f + g) listed a w
  | 0, listed, a, w, h => by rw [Nat.zero_add]; exact hL _ _ _ h
  | f + 1, listed, a, w, h => by
    rw [show f + 1 + g = (f + g) + 1 by omega]
    exact ⟨fun h0 => absurd h0 h.1, fun i hi => wpOp_mono (fun a' w' h' => wpAny_of_M hL f _ a' w' h'.2) (h.2 i hi).2⟩
theorem anyM_first {L0 : Array Bool} {i : Nat} {oi : Oper} {v : Value} (hi : ops[i]? = some oi) (hsel : ∀ (j : Nat) (o : Oper) cs b, ops[j]? = some o → o.op ≠ .select cs b)
    (hQ : ∀ c a w, q (.panic c) (a.put oi.dst v) w → q (.panic c) a w) (hB : blockB ops L0 L1 = true) (hik : L1.getD i true = true)
    (hdone : ∀ listed a w, L listed a w → ∀ j ∈ Region.ready .any ops listed, L1.getD j true = false) :
    ∀ (f : Nat) (listed : Array Bool) (a : Act) (w : World), Inv ops L1 listed → (∀ i, listed.getD i true = false → L0.getD i true = false) →
      (∀ j oj, ops[j]? = some oj → j ≠ i → listed.getD j true = false → (∀ e ∈ oj.after, Region.binds .any e = true → e.on ≠ i) → oi.apart ops oj = true) →
      i ∈ Region.ready .any ops listed → YieldsIf P ops T oi v a → T w →
      anyM P ops q T L1 L f (listed.setIfInBounds i true) (a.put oi.dst v) w → anyM P ops q T L1 L (f + 1) listed a w := by
  intro f
  induction f with
  | zero =>
    intro listed a w inv h0 _ hr hy hT H
    have hun := (mem_ready.1 hr).1
    refine ⟨fun h => (by rw [h] at hr; cases hr), fun j hj => ?_⟩
    have hjk : L1.getD j true = true := by
      cases hc : L1.getD j true with
      | true => rfl
      | false => exact absurd hj (block_waits hB h0 inv hik hun j hc)
    refine ⟨hjk, ?_⟩
    by_cases hji : j = i
    · subst hji; exact hy.wpOp hi hT ⟨hT, H⟩
    · have := hdone _ _ _ H j (ready_mono hj hji)
      rw [hjk] at this; cases this
  | succ f ih =>
    intro listed a w inv h0 hfree hr hy hT H
    have hun := (mem_ready.1 hr).1
    refine ⟨fun h => (by rw [h] at hr; cases hr), fun j hj => ?_⟩
    have hjk : L1.getD j true = true := by
      cases hc : L1.getD j true with
      | true => rfl
      | false => exact absurd hj (block_waits hB h0 inv hik hun j hc)
    refine ⟨hjk, ?_⟩
    by_cases hji : j = i
    · subst hji; exact hy.wpOp hi hT ⟨hT, H⟩
    · have h1 := (H.2 j (ready_mono hj hji)).2
      obtain ⟨hjun, oj, hoj, hall⟩ := mem_ready.1 hj
      have hnot : ∀ e ∈ oj.after, Region.binds .any e = true → e.on ≠ i := fun e he hb heq => by
        have h1 := hall e he hb
        rw [heq, getD_both hun] at h1
        cases h1
      have h2 := wpOp_putIf hoj (hfree j oj hoj hji hjun hnot) (fun cs b => hsel i oi cs b hi) (fun cs b => hsel j oj cs b hoj) hQ hy h1
      have hfree' : ∀ m om, ops[m]? = some om → m ≠ i → (listed.setIfInBounds j true).getD m true = false →
          (∀ e ∈ om.after, Region.binds .any e = true → e.on ≠ i) → oi.apart ops om = true := fun m om hm hmi hun hno => by
        refine hfree m om hm hmi ?_ hno
        by_cases hjm : j = m
        · subst hjm; exact hjun
        · rw [getD_set_ne true hjm] at hun; exact hun
      have h0' : ∀ i, (listed.setIfInBounds j true).getD i true = false → L0.getD i true = false := fun m hm => by
        refine h0 m ?_
        by_cases hjm : j = m
        · subst hjm; exact hjun
        · rw [getD_set_ne true hjm] at hm; exact hm
      refine wpOp_mono (fun a' w' h3 => ⟨h3.2.1, ih (listed.setIfInBounds j true) a' w' (inv.set hj hjk) h0' hfree' (ready_mono hr (Ne.symm hji)) h3.1 h3.2.1 ?_⟩) h2
      rw [Array.setIfInBounds_comm _ _ hji]
      exact h3.2.2
theorem unlisted_set {L0 listed : Array Bool} {i : Nat} (h0 : ∀ j, listed.getD j true = false → L0.getD j true = false) : ∀ j, (listed.setIfInBounds i true).getD j true = false → L0.getD j true = false := fun j hj => by
  refine h0 j ?_
  by_cases hij : i = j
  · subst hij
    have : (listed.setIfInBounds i true).getD i true = true := by
      simp only [Array.getD_eq_getD_getElem?, Array.getElem?_setIfInBounds, if_true]
      split <;> rfl
    rw [this] at hj
    cases hj
  · rw [getD_set_ne true hij] at hj; exact hj
/-- A phase's order: each is ready when its turn comes; what reads only is apart from all others that are left. -/
def schM (ops : Array Oper) (L1 : Array Bool) : List (Nat × Bool) → Array Bool → Bool
  | [], listed => listed == L1 && (Region.ready .any ops listed).all fun j => !L1.getD j true
  | (i, false) :: r, listed => L1.getD i true && (Region.ready .any ops listed).contains i && Region.free .any ops listed i && schM ops L1 r (listed.setIfInBounds i true)
  | (i, true) :: r, listed => L1.getD i true && decide (Region.ready .any ops listed = [i]) && schM ops L1 r (listed.setIfInBounds i true)
theorem phase_M {L0 : Array Bool} (hs : Region.noSelect ops = true) (hB : blockB ops L0 L1 = true) (hQ : ∀ c a w, ¬ q (.panic c) a w) {K : Act → World → Prop} :
    ∀ (ord : List (Nat × Bool)) (l : List (Oper × Bool)) (listed : Array Bool) (a : Act) (w : World), Inv ops L1 listed → (∀ i, listed.getD i true = false → L0.getD i true = false) → pickOps ops.toList ord = some l → schM ops L1 ord listed = true → T w → wpX P ops T q K l a w →
      anyM P ops q T L1 (fun listed' a' w' => listed' = L1 ∧ (Region.ready .any ops listed').all (fun j => !L1.getD j true) = true ∧ K a' w') ord.length listed a w
  | [], l, listed, a, w, inv, h0, hp, hc, hT, h => by
    simp only [pickOps, Option.some.injEq] at hp
    subst hp
    simp only [schM, Bool.and_eq_true, beq_iff_eq] at hc
    exact ⟨hc.1, hc.2, h⟩
  | (i, x) :: ord, l, listed, a, w, inv, h0, hp, hc, hT, h => by
    simp only [pickOps] at hp
    cases ho : ops.toList[i]? with
    | none => rw [ho] at hp; cases hp
    | some o =>
      rw [ho] at hp
      cases hp2 : pickOps ops.toList ord with
      | none => simp [hp2] at hp
      | some t =>
        simp only [hp2, Option.some.injEq] at hp
        subst hp
        have ho' : ops[i]? = some o := by simpa using ho
        cases x with
        | false =>
          simp only [schM, Bool.and_eq_true] at hc
          obtain ⟨⟨⟨h1, h2⟩, h3⟩, h4⟩ := hc
          obtain ⟨v, hy, hw⟩ := h
          have hr : i ∈ Region.ready .any ops listed := by simpa using h2
          refine anyM_first ho' (Region.noSelect_spec hs) (fun c a w hh => absurd hh (hQ c _ w)) hB h1 (fun listed a w hh j hj => ?_) _ listed a w inv h0 (Region.free_spec ho' h3) hr hy hT ?_
          · have := List.all_eq_true.1 hh.2.1 j hj
            simpa using this
          · exact phase_M hs hB hQ ord t _ _ _ (inv.set hr h1) (unlisted_set h0) hp2 h4 hT hw
        | true =>
          simp only [schM, Bool.and_eq_true, decide_eq_true_eq] at hc
          obtain ⟨⟨h1, h2⟩, h4⟩ := hc
          have hr : i ∈ Region.ready .any ops listed := by rw [h2]; exact .head _
          refine ⟨fun h0 => (by rw [h0] at hr; cases hr), fun j hj => ?_⟩
          have hji : j = i := by rw [h2] at hj; simpa using hj
          subst hji
          refine ⟨h1, ?_⟩
          unfold wpOp
          simp only [ho']
          simp only [wpX] at h
          split
          · rename_i hw
            rw [if_pos hw] at h
            refine .inl (Oper.wp_mono (fun a' w' hh => ⟨hh.1, phase_M hs hB hQ ord t _ _ _ (inv.set hr h1) (unlisted_set h0) hp2 h4 hh.1 hh.2⟩) h)
          · rename_i hw
            rw [if_neg hw] at h
            exact ⟨hT, phase_M hs hB hQ ord t _ _ _ (inv.set hr h1) (unlisted_set h0) hp2 h4 hT h⟩
/-- One run behind another. -/
theorem anyM_seq {T' : World → Prop} {L1' : Array Bool} {L' : Array Bool → Act → World → Prop} (hk : ∀ i, L1.getD i true = true → L1'.getD i true = true) (hT : ∀ w, T w → T' w) {g : Nat} (hL : ∀ listed a w, L listed a w → anyM P ops q T' L1' L' g listed a w) :
    ∀ (f : Nat) (listed : Array Bool) (a : Act) (w : World), anyM P ops q T L1 L f listed a w → anyM P ops q T' L1' L' (f + g) listed a w
  | 0, listed, a, w, h => by rw [Nat.zero_add]; exact hL _ _ _ h
  | f + 1, listed, a, w, h => by
    rw [show f + 1 + g = (f + g) + 1 by omega]
    exact ⟨h.1, fun i hi => ⟨hk i (h.2 i hi).1, wpOp_mono (fun a' w' h' => ⟨hT _ h'.1, anyM_seq hk hT hL f _ a' w' h'.2⟩) (h.2 i hi).2⟩⟩
def Fin (ops : Array Oper) (q : Exit → Act → World → Prop) : Array Bool → Act → World → Prop := fun listed a w => Region.ready .any ops listed = [] ∧ q .normal a w
abbrev PhM := List (List (Nat × Bool))
def setAll : List (Nat × Bool) → Array Bool → Array Bool
  | [], l => l
  | (i, _) :: r, l => setAll r (l.setIfInBounds i true)
def invB (ops : Array Oper) (L1 listed : Array Bool) : Bool :=
  (listed.size == ops.size) && ((List.range ops.size).all fun j => !listed.getD j false || (match ops[j]? with | some o => o.after.all fun e => !Region.binds .any e || listed.getD e.on false | none => true)) && (L1.size == ops.size) && (List.range ops.size).all fun t => L1.getD t true || !listed.getD t true
def phasesM (ops : Array Oper) : Array Bool → PhM → Bool
  | listed, [] => (Region.ready .any ops listed).isEmpty
  | listed, ord :: r => let L1 := setAll ord listed
    invB ops L1 listed && blockB ops listed L1 && schM ops L1 ord listed && phasesM ops L1 r
def pickM (l : List Oper) : PhM → Option (List (List (Oper × Bool)))
  | [] => some []
  | ord :: r => match pickOps l ord with | some t => (match pickM l r with | some u => some (t :: u) | none => none) | none => none
theorem invB_ok {L1 listed : Array Bool} (h : invB ops L1 listed = true) : Inv ops L1 listed := by
  simp only [invB, Bool.and_eq_true, beq_iff_eq] at h
  obtain ⟨⟨⟨h1, h2⟩, h3⟩, h4⟩ := h
  refine ⟨h1, fun j oj hj hl e he hb => ?_, fun t ht => ?_⟩
  · have hjs := (Array.getElem?_eq_some_iff.1 hj).1
    have := List.all_eq_true.1 h2 j (List.mem_range.2 hjs)
    rw [hl, Bool.not_true, Bool.false_or, hj] at this
    have := Array.all_eq_true_iff_forall_mem.1 this e he
    rw [hb, Bool.not_true, Bool.false_or] at this
    exact this
  · rcases Nat.lt_or_ge t ops.size with hts | hts
    · have := List.all_eq_true.1 h4 t (List.mem_range.2 hts)
      rw [ht, Bool.false_or] at this
      simpa using this
    · simp only [Array.getD_eq_getD_getElem?, Array.getElem?_eq_none (show L1.size ≤ t by omega)] at ht
      cases ht
def sumLen : PhM → Nat
  | [] => 0
  | o :: r => o.length + sumLen r
theorem all_true {i : Nat} (m : Nat) : (Array.replicate m true).getD i true = true := by
  simp only [Array.getD_eq_getD_getElem?, Array.getElem?_replicate]
  split <;> rfl
theorem phasesM_run (hs : Region.noSelect ops = true) (hQ : ∀ c a w, ¬ q (.panic c) a w) :
    ∀ (ph : PhM) (l : List (List (Oper × Bool))) (listed : Array Bool) (a : Act) (w : World), phasesM ops listed ph = true → pickM ops.toList ph = some l → wpPh P ops q l a w → anyM P ops q (fun _ => True) (Array.replicate ops.size true) (Fin ops q) (sumLen ph) listed a w
  | [], l, listed, a, w, hc, hp, h => by
    simp only [pickM, Option.some.injEq] at hp
    subst hp
    simp only [phasesM, List.isEmpty_iff] at hc
    exact ⟨hc, h⟩
  | ord :: ph, l, listed, a, w, hc, hp, h => by
    simp only [pickM] at hp
    cases h1 : pickOps ops.toList ord with
    | none => simp [h1] at hp
    | some t =>
      cases h2 : pickM ops.toList ph with
      | none => simp [h1, h2] at hp
      | some u =>
        simp only [h1, h2, Option.some.injEq] at hp
        subst hp
        simp only [phasesM, Bool.and_eq_true] at hc
        obtain ⟨⟨⟨hinv, hB⟩, hsch⟩, hrest⟩ := hc
        obtain ⟨T, hT, hx⟩ := h
        have hrun := phase_M (P := P) hs hB hQ ord t listed a w (invB_ok hinv) (fun i hi => hi) h1 hsch hT hx
        exact anyM_seq (g := sumLen ph) (L' := Fin ops q) (fun i _ => all_true _) (fun _ _ => trivial) (fun listed a' w' hh => by
          obtain ⟨e, _, hK⟩ := hh
          subst e
          exact phasesM_run hs hQ ph u _ a' w' hrest h2 hK) _ _ _ _ hrun

/-- The ones that read no memory, listed. -/
def preL (ops : Array Oper) : List Nat → Array Bool → Option (Array Bool)
  | [], listed => some listed
  | i :: r, listed => if (Region.ready .any ops listed).contains i && Region.free .any ops listed i then preL ops r (listed.setIfInBounds i true) else none
def pre0 (l : List Nat) : List (Nat × Bool) := l.map fun i => (i, false)
theorem inv_all {listed : Array Bool} (h1 : listed.size = ops.size) (h2 : ∀ j oj, ops[j]? = some oj → listed.getD j false = true → ∀ e ∈ oj.after, Region.binds .any e = true → listed.getD e.on false = true) : Inv ops (Array.replicate ops.size true) listed :=
  ⟨h1, h2, fun t ht => by rw [all_true] at ht; cases ht⟩
theorem pre_M (hs : Region.noSelect ops = true) (hQ : ∀ c a w, ¬ q (.panic c) a w) {K : Act → World → Prop} {g : Nat} {L2 : Array Bool} (hK : ∀ a w, K a w → anyM P ops q (fun _ => True) (Array.replicate ops.size true) (Fin ops q) g L2 a w) :
    ∀ (pre : List Nat) (l : List (Oper × Bool)) (listed : Array Bool) (a : Act) (w : World), Inv ops (Array.replicate ops.size true) listed → pickOps ops.toList (pre0 pre) = some l → preL ops pre listed = some L2 → wpX P ops (fun _ => True) q K l a w →
      anyM P ops q (fun _ => True) (Array.replicate ops.size true) (Fin ops q) (pre.length + g) listed a w
  | [], l, listed, a, w, inv, hp, hc, h => by
    simp only [pre0, List.map_nil, pickOps, Option.some.injEq] at hp
    subst hp
    simp only [preL, Option.some.injEq] at hc
    subst hc
    rw [List.length_nil, Nat.zero_add]
    exact hK _ _ h
  | i :: pre, l, listed, a, w, inv, hp, hc, h => by
    simp only [pre0, List.map_cons, pickOps] at hp
    cases ho : ops.toList[i]? with
    | none => rw [ho] at hp; cases hp
    | some o =>
      rw [ho] at hp
      cases hp2 : pickOps ops.toList (pre.map fun i => (i, false)) with
      | none => simp [hp2] at hp
      | some t =>
        simp only [hp2, Option.some.injEq] at hp
        subst hp
        have ho' : ops[i]? = some o := by simpa using ho
        simp only [preL] at hc
        split at hc
        · rename_i hcc
          simp only [Bool.and_eq_true] at hcc
          obtain ⟨v, hy, hw⟩ := h
          have hr : i ∈ Region.ready .any ops listed := by simpa using hcc.1
          rw [List.length_cons, show pre.length + 1 + g = (pre.length + g) + 1 by omega]
          have hB : blockB ops listed (Array.replicate ops.size true) = true := List.all_eq_true.2 fun t _ => by rw [all_true]; rfl
          refine anyM_first ho' (Region.noSelect_spec hs) (fun c a w hh => absurd hh (hQ c _ w)) hB (all_true _) (fun listed a w hh j hj => by rw [hh.1] at hj; cases hj) _ listed a w inv (fun i hi => hi) (Region.free_spec ho' hcc.2) hr hy trivial ?_
          exact pre_M hs hQ hK pre t _ _ _ (inv.set hr (all_true _)) hp2 hc hw
        · cases hc
end

section
variable {P : Program} {n : Nat} {E : Env} {H : Hp} {Q : Post} {ops : Array Oper}
def SPre (P : Program) (n : Nat) (ops : Array Oper) (w0 : World) (H0 : Hp) (Q : Post) (pp : List (Oper × Bool)) (l : List (List (Oper × Bool))) (E : Env) (H : Hp) : Prop :=
  SX P n ops w0 H0 Q [] pp (fun E H => SP P n ops w0 H0 Q l E H) E H
theorem wpX_T0 {T T' : World → Prop} (hT : ∀ w, T w) {q : Exit → Act → World → Prop} {K : Act → World → Prop} : ∀ (l : List (Oper × Bool)) (a : Act) (w : World), (l.all fun o => !o.2) = true → wpX P ops T q K l a w → wpX P ops T' q K l a w
  | [], a, w, _, h => h
  | (o, false) :: r, a, w, hl, ⟨v, hy, h⟩ => by
    simp only [List.all_cons, Bool.and_eq_true] at hl
    exact ⟨v, hy.imp (fun ⟨h1, h2⟩ => ⟨h1, fun w' _ => h2 w' (hT w')⟩) id, wpX_T0 hT r _ _ hl.2 h⟩
  | (o, true) :: r, a, w, hl, h => by simp at hl
theorem pick_pre : ∀ {l : List Oper} {pre : List Nat} {pp : List (Oper × Bool)}, pickOps l (pre0 pre) = some pp → (pp.all fun o => !o.2) = true
  | l, [], pp, h => by simp only [pre0, List.map_nil, pickOps, Option.some.injEq] at h; subst h; rfl
  | l, i :: pre, pp, h => by
    simp only [pre0, List.map_cons, pickOps] at h
    cases ho : l[i]? with
    | none => rw [ho] at h; cases h
    | some o =>
      rw [ho] at h
      cases hp2 : pickOps l (pre.map fun i => (i, false)) with
      | none => simp [hp2] at h
      | some t =>
        simp only [hp2, Option.some.injEq] at h
        subst h
        have := pick_pre (l := l) (pre := pre) hp2
        simp only [List.all_cons, Bool.and_eq_true, this, and_true]
        rfl
def preOk (ops : Array Oper) (pre : List Nat) (ph : PhM) : Bool :=
  decide (pre.length + sumLen ph = ops.size) && match preL ops pre (Array.replicate ops.size false) with | none => false | some L2 => phasesM ops L2 ph
theorem s_drawM {id : Nat} {l : List Oper} (Y : List (Nat × Nat)) (pre : List Nat) (ph : PhM) {pp : List (Oper × Bool)} {pl : List (List (Oper × Bool))} [hw : Wide P]
    (hc : (yokB l Y && Region.noSelect l.toArray && preOk l.toArray pre ph) = true) (hpp : pickOps l (pre0 pre) = some pp) (hp : pickM l ph = some pl)
    (h : ∀ ops w0 H0, Yok ops Y → SPre P n ops w0 H0 Q pp pl E H) : SC P n (.region id l.toArray true) E H Q := by
  intro a w h1 h2 h3 h4
  simp only [Bool.and_eq_true] at hc
  obtain ⟨⟨c1, c2⟩, c4⟩ := hc
  refine wp_region_any hw.eq ?_
  have hy : Yok l.toArray Y := by
    intro j d hm
    have := List.all_eq_true.1 c1 (j, d) hm
    simpa using this
  have hnil : ∀ w' : World, HpOk [] w' := fun w' => ⟨List.Pairwise.nil, fun x hx => by cases hx⟩
  have hrun := h l.toArray w H hy a { w with drawn := w.drawn + 1 } h1 h2 h3 (trk_drawn h4 _) (hnil _)
  simp only [preOk, Bool.and_eq_true, decide_eq_true_eq] at c4
  obtain ⟨d0, c4⟩ := c4
  cases hL : preL l.toArray pre (Array.replicate l.toArray.size false) with
  | none => rw [hL] at c4; cases c4
  | some L2 =>
    rw [hL] at c4
    simp only at c4
    have inv0 : Inv l.toArray (Array.replicate l.toArray.size true) (Array.replicate l.toArray.size false) := inv_all (by simp) (fun j oj hj hl => by
      simp only [Array.getD_eq_getD_getElem?, Array.getElem?_replicate] at hl
      split at hl <;> cases hl)
    have hpre := pre_M (P := P) (q := UpN n w H Q) (g := sumLen ph) (L2 := L2) c2 (fun c a w hh => hh) (K := UpK n w H (fun E' H' => SP P n l.toArray w H Q pl E' H')) (fun a' w' hK => by
      obtain ⟨E', H', k1, k2, k3, k4, k5⟩ := hK
      exact phasesM_run c2 (fun c a w hh => hh) ph pl L2 a' w' c4 (by simpa using hp) (k5 a' w' k1 k2 k3 k4)) pre pp _ a _ inv0 (by simpa using hpp) hL (wpX_T0 hnil pp a _ (pick_pre hpp) hrun)
    rw [d0] at hpre
    have hany := wpAny_of_M (g := 0) (fun listed a w hh => ⟨hh.1, hh.2⟩) _ _ _ _ hpre
    rw [Nat.add_zero] at hany
    refine s_draw.wpAny_post ?_ _ _ _ _ hany
    intro e a w hh
    cases e <;> first | exact hh | exact hh.elim

/-! ### a phase that leans on blocks, and on single cells -/
/-- A cell: block, place, what it holds. -/
abbrev Cl := Nat × Nat × Value
def HoldOk (Hs : Hp) (cl : List Cl) (w : World) : Prop := HpOk Hs w ∧ ∀ x ∈ cl, w.cell? ⟨x.1, x.2.1, none⟩ = some x.2.2
def SXc (P : Program) (n : Nat) (ops : Array Oper) (w0 : World) (H0 : Hp) (Q : Post) (Hs : Hp) (cl : List Cl) (l : List (Oper × Bool)) (K : Env → Hp → Prop) (E : Env) (H : Hp) : Prop :=
  ∀ a w, EnvOk E a → a.tmps.size = n → a.defers = [] → Trk w0 w H0 H → HoldOk Hs cl w → wpX P ops (HoldOk Hs cl) (UpN n w0 H0 Q) (UpK n w0 H0 K) l a w
variable {w0 : World} {H0 Hs : Hp} {cl : List Cl} {l : List (Oper × Bool)} {r : List (List (Oper × Bool))} {K : Env → Hp → Prop}
/-- The cells are there. -/
def HasCl (H : Hp) (cl : List Cl) : Prop := ∀ x ∈ cl, ∃ r cs T fr, (x.1, r, CF cs T fr) ∈ H ∧ nth cs x.2.1 = some x.2.2
theorem hasCl_nil : HasCl H [] := fun x hx => by cases hx
theorem hasCl_cons {b o : Nat} {v : Value} {r : Bool} {cs : List Value} {T : TypeId} {fr : Nat × Nat} (hm : (b, r, CF cs T fr) ∈ H) (hv : nth cs o = some v) (h : HasCl H cl) : HasCl H ((b, o, v) :: cl) := fun x hx => by
  cases hx with
  | head => exact ⟨r, cs, T, fr, hm, hv⟩
  | tail _ hx => exact h x hx
theorem hold_of {w : World} {F : Hp} (h : HpOk H w) (hs : Split H Hs F) (hc : HasCl H cl) : HoldOk Hs cl w :=
  ⟨(h.perm hs.perm).left, fun x hx => by
    obtain ⟨r, cs, T, fr, hm, hv⟩ := hc x hx
    rw [cell_C (h.here _ hm)]; exact hv⟩
theorem pc_ph (Hs : Hp) (cl : List Cl) {F : Hp} (hs : Split H Hs F) (hc : HasCl H cl) (h : SXc P n ops w0 H0 Q Hs cl l (fun E H => SP P n ops w0 H0 Q r E H) E H) : SP P n ops w0 H0 Q (l :: r) E H :=
  fun a w h1 h2 h3 h4 =>
    have hok := hold_of h4.ok hs hc
    ⟨HoldOk Hs cl, hok, wpX_mono (fun a' w' ⟨E', H', k1, k2, k3, k4, k5⟩ => k5 a' w' k1 k2 k3 k4) l a w (h a w h1 h2 h3 h4 hok)⟩
theorem xc_nil (h : K E H) : SXc P n ops w0 H0 Q Hs cl [] K E H := fun a w h1 h2 h3 h4 _ => ⟨E, H, h1, h2, h3, h4, h⟩
theorem xc_rd {d : Nat} {op : Op} {ty : TypeId} {pos : String} {af : Array Edge} {v : Value} (hr : Rd P E Hs op v) (hd : Nat.blt d n = true)
    (kk : SXc P n ops w0 H0 Q Hs cl l K ((d, v) :: E) H) : SXc P n ops w0 H0 Q Hs cl ((⟨some d, op, ty, pos, af, none⟩, false) :: l) K E H := by
  intro a w h1 h2 h3 h4 h5
  have hlt : d < a.tmps.size := by rw [h2]; exact Nat.le_of_ble_eq_true hd
  exact ⟨v, .inl ⟨rfl, fun w' hw' => hr a w' (some d) ty pos af none h1 hw'.1⟩, kk _ w (h1.put hlt) (by simp [Act.put, h2]) h3 h4 h5⟩
/-- a load of a cell that is known -/
theorem xc_ld {d : Nat} {t : TypeId} {x : Operand} {ty : TypeId} {pos : String} {af : Array Edge} {b o : Nat} {v : Value} [ht : Agg P t false] (hx : ev E x = some (.pointer (some ⟨b, o, none⟩))) (hm : (b, o, v) ∈ cl) (hd : Nat.blt d n = true)
    (kk : SXc P n ops w0 H0 Q Hs cl l K ((d, v) :: E) H) : SXc P n ops w0 H0 Q Hs cl ((⟨some d, .load t x, ty, pos, af, none⟩, false) :: l) K E H := by
  intro a w h1 h2 h3 h4 h5
  have hlt : d < a.tmps.size := by rw [h2]; exact Nat.le_of_ble_eq_true hd
  refine ⟨v, .inl ⟨rfl, fun w' hw' => ?_⟩, kk _ w (h1.put hlt) (by simp [Act.put, h2]) h3 h4 h5⟩
  have := hw'.2 _ hm
  simp only at this
  simp [execOp, ev_ok h1 hx, Instr.loadAt, Instr.sureAddr, loadVar, run_isAgg, this]
theorem xc_so {o : Oper} (h : SO P n ops [o] E H (fun e E' H' => e = .normal ∧ (∃ F, Split H' Hs F) ∧ HasCl H' cl ∧ SXc P n ops w0 H0 Q Hs cl l K E' H')) : SXc P n ops w0 H0 Q Hs cl ((o, true) :: l) K E H := by
  intro a w h1 h2 h3 h4 h5
  have hk := h a w h1 h2 h3 h4.ok
  simp only [wpList] at hk
  simp only [wpX]
  have fin : ∀ a' w', Up n w H (fun e E' H' => e = .normal ∧ (∃ F, Split H' Hs F) ∧ HasCl H' cl ∧ SXc P n ops w0 H0 Q Hs cl l K E' H') .normal a' w' → HoldOk Hs cl w' ∧ wpX P ops (HoldOk Hs cl) (UpN n w0 H0 Q) (UpK n w0 H0 K) l a' w' := by
    rintro a' w' ⟨E', H', k1, k2, k3, k4, _, ⟨F, k5⟩, k6, k7⟩
    have hok := hold_of k4.ok k5 k6
    exact ⟨hok, k7 a' w' k1 k2 k3 (h4.trans k4) hok⟩
  split
  · rename_i hw
    rw [if_pos hw] at hk
    rcases hk with hk | ⟨_, a0, w1, E', H', _, _, _, _, hh, _⟩
    · refine oper_mono2 (fun v w' hh => fin _ _ hh) (fun d w' hh => fin _ _ hh) ?_ hk
      rintro e a' w' hne ⟨E', H', _, _, _, k4, k5, k6, k7⟩
      exact absurd k5 hne
    · cases hh
  · rename_i hw
    rw [if_neg hw] at hk
    exact (fin _ _ hk).2
end
end Go.K
