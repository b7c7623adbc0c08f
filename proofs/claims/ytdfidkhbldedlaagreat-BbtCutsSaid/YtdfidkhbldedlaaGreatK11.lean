/-
  The thin layer, eleventh part: regions that draw between two real orders (two operations that do more than read are both ready).
-/
import Derived.Test.YtdfidkhbldedlaaGreatK5
namespace Go.K
set_option linter.unusedVariables false
set_option linter.unusedSimpArgs false

/-- A phase's orders: one; or, behind a beginning, two ways on. -/
inductive OT (α : Type) where
  | one (l : List (α × Bool)) : OT α
  | fork (pre : List (α × Bool)) (i : α) (t : OT α) (j : α) (u : OT α) : OT α
def OT.len {α : Type} : OT α → Nat
  | .one l => l.length
  | .fork pre _ t _ _ => pre.length + (t.len + 1)

def preB (ops : Array Oper) (k : Nat) : List (Nat × Bool) → Array Bool → Option (Array Bool)
  | [], listed => some listed
  | (i, false) :: r, listed => if (decide (i < k) && (Region.ready .any ops listed).contains i && Region.free .any ops listed i) = true then preB ops k r (listed.setIfInBounds i true) else none
  | (i, true) :: r, listed => if (decide (i < k) && decide (Region.ready .any ops listed = [i])) = true then preB ops k r (listed.setIfInBounds i true) else none
def treeB (ops : Array Oper) (k : Nat) : OT Nat → Array Bool → Bool
  | .one ord, listed => schedB ops k ord listed
  | .fork pre i t j u, listed => match preB ops k pre listed with
    | some l2 => decide (i < k) && decide (j < k) && decide (Region.ready .any ops l2 = [i, j]) && decide (t.len = u.len) && treeB ops k t (l2.setIfInBounds i true) && treeB ops k u (l2.setIfInBounds j true)
    | none => false
def pickT (l : List Oper) : OT Nat → Option (OT Oper)
  | .one ord => match pickOps l ord with | some r => some (.one r) | none => none
  | .fork pre i t j u => match pickOps l pre, l[i]?, pickT l t, l[j]?, pickT l u with
    | some p, some a, some b, some c, some d => some (.fork p a b c d)
    | _, _, _, _, _ => none
def wpT (P : Program) (ops : Array Oper) (T : World → Prop) (q : Exit → Act → World → Prop) (K : Act → World → Prop) : OT Oper → Act → World → Prop
  | .one l, a, w => wpX P ops T q K l a w
  | .fork pre o t p u, a, w => wpX P ops T q (fun a w => T w ∧ wpX P ops T q (wpT P ops T q K t) [(o, true)] a w ∧ wpX P ops T q (wpT P ops T q K u) [(p, true)] a w) pre a w

section
variable {P : Program} {ops : Array Oper} {q : Exit → Act → World → Prop} {T : World → Prop} {k : Nat}

theorem run_pre (hs : Region.noSelect ops = true) (hB : barB ops k = true) (hQ : ∀ c a w, ¬ q (.panic c) a w) {K1 : Act → World → Prop} {L : Array Bool → Act → World → Prop} {n : Nat} {l2 : Array Bool}
    (hdone : ∀ listed a w, L listed a w → ∀ j ∈ Region.ready .any ops listed, k ≤ j) (hend : ∀ a w, HeadInv .any ops k l2 → T w → K1 a w → anyT P ops q T k L n l2 a w) :
    ∀ (pre : List (Nat × Bool)) (l : List (Oper × Bool)) (listed : Array Bool) (a : Act) (w : World), HeadInv .any ops k listed → pickOps ops.toList pre = some l → preB ops k pre listed = some l2 → T w → wpX P ops T q K1 l a w →
      anyT P ops q T k L (pre.length + n) listed a w
  | [], l, listed, a, w, inv, hp, hc, hT, h => by
    simp only [pickOps, Option.some.injEq] at hp
    simp only [preB, Option.some.injEq] at hc
    subst hp; subst hc
    simpa using hend a w inv hT h
  | (i, x) :: pre, l, listed, a, w, inv, hp, hc, hT, h => by
    rw [show ((i, x) :: pre).length + n = (pre.length + n) + 1 by simp; omega]
    simp only [pickOps] at hp
    cases ho : ops.toList[i]? with
    | none => rw [ho] at hp; cases hp
    | some o =>
      rw [ho] at hp
      cases hp2 : pickOps ops.toList pre with
      | none => simp [hp2] at hp
      | some t =>
        simp only [hp2, Option.some.injEq] at hp
        subst hp
        have ho' : ops[i]? = some o := by simpa using ho
        cases x with
        | false =>
          simp only [preB] at hc
          split at hc
          · rename_i hcc
            simp only [Bool.and_eq_true, decide_eq_true_eq] at hcc
            obtain ⟨⟨h1, h2⟩, h3⟩ := hcc
            obtain ⟨v, hy, hw⟩ := h
            have hr : i ∈ Region.ready .any ops listed := by simpa using h2
            exact anyT_first ho' (Region.noSelect_spec hs) (fun c a w hh => absurd hh (hQ c _ w)) hB h1 hdone _ listed a w inv (Region.free_spec ho' h3) hr hy hT
              (run_pre hs hB hQ hdone hend pre t _ _ _ (inv.set hr h1) hp2 hc hT hw)
          · cases hc
        | true =>
          simp only [preB] at hc
          split at hc
          · rename_i hcc
            simp only [Bool.and_eq_true, decide_eq_true_eq] at hcc
            obtain ⟨h1, h2⟩ := hcc
            have hr : i ∈ Region.ready .any ops listed := by rw [h2]; exact .head _
            refine ⟨fun h0 => (by rw [h0] at hr; cases hr), fun j hj => ?_⟩
            have hji : j = i := by rw [h2] at hj; simpa using hj
            subst hji
            refine ⟨h1, ?_⟩
            unfold wpOp
            simp only [ho']
            simp only [wpX] at h
            split
            · rename_i hw
              rw [if_pos hw] at h
              refine .inl (Oper.wp_mono (fun a' w' hh => ⟨hh.1, run_pre hs hB hQ hdone hend pre t _ _ _ (inv.set hr h1) hp2 hc hh.1 hh.2⟩) h)
            · rename_i hw
              rw [if_neg hw] at h
              exact ⟨hT, run_pre hs hB hQ hdone hend pre t _ _ _ (inv.set hr h1) hp2 hc hT h⟩
          · cases hc

theorem tree_run (hs : Region.noSelect ops = true) (hB : barB ops k = true) (hQ : ∀ c a w, ¬ q (.panic c) a w) {K : Act → World → Prop} :
    ∀ (tr : OT Nat) (to : OT Oper) (listed : Array Bool) (a : Act) (w : World), HeadInv .any ops k listed → pickT ops.toList tr = some to → treeB ops k tr listed = true → T w → wpT P ops T q K to a w →
      anyT P ops q T k (fun listed' a' w' => listed' = lst ops.size k ∧ (Region.ready .any ops listed').all (fun j => decide (k ≤ j)) = true ∧ K a' w') tr.len listed a w := by
  intro tr
  induction tr with
  | one ord =>
    intro to listed a w inv hp hc hT h
    simp only [pickT] at hp
    cases h1 : pickOps ops.toList ord with
    | none => simp [h1] at hp
    | some r =>
      simp only [h1, Option.some.injEq] at hp
      subst hp
      exact phase_run hs hB hQ ord r listed a w inv h1 hc hT h
  | fork pre i t j u iht ihu =>
    intro to listed a w inv hp hc hT h
    simp only [pickT] at hp
    cases h1 : pickOps ops.toList pre with
    | none => simp [h1] at hp
    | some p =>
      cases h2 : ops.toList[i]? with
      | none => simp [h1, h2] at hp
      | some oi =>
        cases h3 : pickT ops.toList t with
        | none => simp [h1, h2, h3] at hp
        | some tt =>
          cases h4 : ops.toList[j]? with
          | none => simp [h1, h2, h3, h4] at hp
          | some oj =>
            cases h5 : pickT ops.toList u with
            | none => simp [h1, h2, h3, h4, h5] at hp
            | some uu =>
              simp only [h1, h2, h3, h4, h5, Option.some.injEq] at hp
              subst hp
              simp only [treeB] at hc
              cases h6 : preB ops k pre listed with
              | none => simp [h6] at hc
              | some l2 =>
                simp only [h6, Bool.and_eq_true, decide_eq_true_eq] at hc
                obtain ⟨⟨⟨⟨⟨c1, c2⟩, c3⟩, c4⟩, c5⟩, c6⟩ := hc
                have ho2 : ops[i]? = some oi := by simpa using h2
                have ho4 : ops[j]? = some oj := by simpa using h4
                refine run_pre (l2 := l2) hs hB hQ (fun listed a w hh j hj => ?_) (fun a w inv2 hT2 hk => ?_) pre p listed a w inv h1 h6 hT h
                · have := List.all_eq_true.1 hh.2.1 j hj
                  simpa using this
                · obtain ⟨_, k1, k2⟩ := hk
                  have hri : i ∈ Region.ready .any ops l2 := by rw [c3]; simp
                  have hrj : j ∈ Region.ready .any ops l2 := by rw [c3]; simp
                  refine ⟨fun h0 => (by rw [h0] at hri; cases hri), fun x hx => ?_⟩
                  rw [c3] at hx
                  simp only [List.mem_cons, List.not_mem_nil, or_false] at hx
                  rcases hx with rfl | rfl
                  · refine ⟨c1, ?_⟩
                    unfold wpOp
                    simp only [ho2]
                    simp only [wpX] at k1
                    split
                    · rename_i hw
                      rw [if_pos hw] at k1
                      exact .inl (Oper.wp_mono (fun a' w' hh => ⟨hh.1, iht tt _ _ _ (inv2.set hri c1) h3 c5 hh.1 hh.2⟩) k1)
                    · rename_i hw
                      rw [if_neg hw] at k1
                      exact ⟨hT2, iht tt _ _ _ (inv2.set hri c1) h3 c5 hT2 k1⟩
                  · refine ⟨c2, ?_⟩
                    unfold wpOp
                    simp only [ho4]
                    simp only [wpX] at k2
                    split
                    · rename_i hw
                      rw [if_pos hw] at k2
                      exact .inl (Oper.wp_mono (fun a' w' hh => ⟨hh.1, by rw [c4]; exact ihu uu _ _ _ (inv2.set hrj c2) h5 c6 hh.1 hh.2⟩) k2)
                    · rename_i hw
                      rw [if_neg hw] at k2
                      exact ⟨hT2, by rw [c4]; exact ihu uu _ _ _ (inv2.set hrj c2) h5 c6 hT2 k2⟩

abbrev PhasesT := List (Nat × OT Nat)
def phasesTB (ops : Array Oper) : Nat → PhasesT → Bool
  | s, [] => s == ops.size && (Region.ready .any ops (lst ops.size s)).isEmpty
  | s, (k, t) :: r => decide (s ≤ k) && decide (s + t.len = k) && barB ops k && treeB ops k t (lst ops.size s) && phasesTB ops k r
def pickPhT (l : List Oper) : PhasesT → Option (List (OT Oper))
  | [] => some []
  | (_, t) :: r => match pickT l t with | some t => (match pickPhT l r with | some u => some (t :: u) | none => none) | none => none
def wpPhT (P : Program) (ops : Array Oper) (q : Exit → Act → World → Prop) : List (OT Oper) → Act → World → Prop
  | [], a, w => q .normal a w
  | t :: r, a, w => ∃ T : World → Prop, T w ∧ wpT P ops T q (wpPhT P ops q r) t a w

theorem phasesT_run (hs : Region.noSelect ops = true) (hcl : closedB ops = true) (hQ : ∀ c a w, ¬ q (.panic c) a w) :
    ∀ (ph : PhasesT) (l : List (OT Oper)) (s : Nat) (a : Act) (w : World), phasesTB ops s ph = true → pickPhT ops.toList ph = some l → wpPhT P ops q l a w → wpAny P .any ops q (ops.size - s) (lst ops.size s) a w
  | [], l, s, a, w, hc, hp, h => by
    simp only [pickPhT, Option.some.injEq] at hp
    subst hp
    simp only [phasesTB, Bool.and_eq_true, beq_iff_eq, List.isEmpty_iff] at hc
    obtain ⟨rfl, h2⟩ := hc
    rw [Nat.sub_self]
    exact ⟨h2, h⟩
  | (k, tr) :: ph, l, s, a, w, hc, hp, h => by
    simp only [pickPhT] at hp
    cases h1 : pickT ops.toList tr with
    | none => simp [h1] at hp
    | some t =>
      cases h2 : pickPhT ops.toList ph with
      | none => simp [h1, h2] at hp
      | some u =>
        simp only [h1, h2, Option.some.injEq] at hp
        subst hp
        simp only [phasesTB, Bool.and_eq_true, decide_eq_true_eq] at hc
        obtain ⟨⟨⟨⟨hsk, hlen⟩, hB⟩, hsch⟩, hrest⟩ := hc
        obtain ⟨T, hT, hx⟩ := h
        have hks : k ≤ ops.size := by
          unfold barB at hB
          simp only [Bool.or_eq_true, Bool.and_eq_true, decide_eq_true_eq] at hB
          rcases hB with hB | hB
          · omega
          · omega
        have hrun := tree_run hs hB hQ tr t (lst ops.size s) a w (lst_inv hcl hsk) h1 hsch hT hx
        have hany := wpAny_of_T (g := ops.size - k) (fun listed a' w' hh => by
          obtain ⟨e, _, hK⟩ := hh
          subst e
          exact phasesT_run hs hcl hQ ph u k a' w' hrest h2 hK) _ _ _ _ hrun
        rw [show ops.size - s = tr.len + (ops.size - k) by omega]
        exact hany
end

section
variable {P : Program} {n : Nat} {E : Env} {H : Hp} {Q : Post} {ops : Array Oper}
def SPT (P : Program) (n : Nat) (ops : Array Oper) (w0 : World) (H0 : Hp) (Q : Post) (l : List (OT Oper)) (E : Env) (H : Hp) : Prop :=
  ∀ a w, EnvOk E a → a.tmps.size = n → a.defers = [] → Trk w0 w H0 H → wpPhT P ops (UpN n w0 H0 Q) l a w
def SXT (P : Program) (n : Nat) (ops : Array Oper) (w0 : World) (H0 : Hp) (Q : Post) (Hs : Hp) (t : OT Oper) (K : Env → Hp → Prop) (E : Env) (H : Hp) : Prop :=
  ∀ a w, EnvOk E a → a.tmps.size = n → a.defers = [] → Trk w0 w H0 H → HpOk Hs w → wpT P ops (HpOk Hs) (UpN n w0 H0 Q) (UpK n w0 H0 K) t a w

theorem wpT_mono {T : World → Prop} {q : Exit → Act → World → Prop} {K K' : Act → World → Prop} (hk : ∀ a w, K a w → K' a w) : ∀ (t : OT Oper) (a : Act) (w : World), wpT P ops T q K t a w → wpT P ops T q K' t a w := by
  intro t
  induction t with
  | one l => intro a w h; exact wpX_mono hk l a w h
  | fork pre o t p u iht ihu =>
    intro a w h
    exact wpX_mono (fun a w ⟨h1, h2, h3⟩ => ⟨h1, wpX_mono iht _ _ _ h2, wpX_mono ihu _ _ _ h3⟩) pre a w h

theorem s_drawT {id : Nat} {l : List Oper} (Y : List (Nat × Nat)) (ph : PhasesT) {pl : List (OT Oper)} [hw : Wide P]
    (hc : (yokB l Y && Region.noSelect l.toArray && closedB l.toArray && phasesTB l.toArray 0 ph) = true) (hp : pickPhT l ph = some pl)
    (h : ∀ ops w0 H0, Yok ops Y → SPT P n ops w0 H0 Q pl E H) : SC P n (.region id l.toArray true) E H Q := by
  intro a w h1 h2 h3 h4
  simp only [Bool.and_eq_true] at hc
  obtain ⟨⟨⟨c1, c2⟩, c3⟩, c4⟩ := hc
  refine wp_region_any hw.eq ?_
  have hy : Yok l.toArray Y := by
    intro j d hm
    have := List.all_eq_true.1 c1 (j, d) hm
    simpa using this
  have hrun := h l.toArray w H hy a { w with drawn := w.drawn + 1 } h1 h2 h3 (trk_drawn h4 _)
  have := phasesT_run (P := P) (q := UpN n w H Q) c2 c3 (fun c a w hh => hh) ph pl 0 a _ c4 (by simpa using hp) hrun
  have hz : lst l.toArray.size 0 = Array.replicate l.toArray.size false := by
    apply Array.ext
    · simp [lst]
    · intro i h1 h2; simp [lst]
  rw [Nat.sub_zero, hz] at this
  refine s_draw.wpAny_post ?_ _ _ _ _ this
  intro e a w hh
  cases e <;> first | exact hh | exact hh.elim

variable {w0 : World} {H0 Hs : Hp} {K : Env → Hp → Prop} {r : List (OT Oper)}
theorem pt_end (h : Q .normal E H) : SPT P n ops w0 H0 Q [] E H := fun a w h1 h2 h3 h4 => ⟨E, H, h1, h2, h3, h4, h⟩
theorem pt_ph {t : OT Oper} (Hs : Hp) {F : Hp} (hs : Split H Hs F) (h : SXT P n ops w0 H0 Q Hs t (fun E H => SPT P n ops w0 H0 Q r E H) E H) : SPT P n ops w0 H0 Q (t :: r) E H :=
  fun a w h1 h2 h3 h4 =>
    have hok : HpOk Hs w := (h4.ok.perm hs.perm).left
    ⟨HpOk Hs, hok, wpT_mono (fun a' w' ⟨E', H', k1, k2, k3, k4, k5⟩ => k5 a' w' k1 k2 k3 k4) t a w (h a w h1 h2 h3 h4 hok)⟩
theorem pt_all {t : OT Oper} (h : SXT P n ops w0 H0 Q H t (fun E H => SPT P n ops w0 H0 Q r E H) E H) : SPT P n ops w0 H0 Q (t :: r) E H :=
  fun a w h1 h2 h3 h4 => ⟨HpOk H, h4.ok, wpT_mono (fun a' w' ⟨E', H', k1, k2, k3, k4, k5⟩ => k5 a' w' k1 k2 k3 k4) t a w (h a w h1 h2 h3 h4 h4.ok)⟩
theorem pt_none {t : OT Oper} (h : SXT P n ops w0 H0 Q [] t (fun E H => SPT P n ops w0 H0 Q r E H) E H) : SPT P n ops w0 H0 Q (t :: r) E H := pt_ph [] .nil h
theorem t_one {l : List (Oper × Bool)} (h : SX P n ops w0 H0 Q Hs l K E H) : SXT P n ops w0 H0 Q Hs (.one l) K E H := h
theorem t_fork {pre : List (Oper × Bool)} {o p : Oper} {t u : OT Oper}
    (h : SX P n ops w0 H0 Q Hs pre (fun E' H' => (∃ F, Split H' Hs F) ∧ SX P n ops w0 H0 Q Hs [(o, true)] (fun E H => SXT P n ops w0 H0 Q Hs t K E H) E' H' ∧ SX P n ops w0 H0 Q Hs [(p, true)] (fun E H => SXT P n ops w0 H0 Q Hs u K E H) E' H') E H)
    (hf : (fresh [] o.dst && fresh [] p.dst) = true) : SXT P n ops w0 H0 Q Hs (.fork pre o t p u) K E H := by
  intro a w h1 h2 h3 h4 h5
  simp only [Bool.and_eq_true] at hf
  have he : ∀ a : Act, EnvOk [] a := fun a i v hv => by cases hv
  refine wpX_mono (fun a' w' hk => ?_) pre a w (h a w h1 h2 h3 h4 h5)
  obtain ⟨E', H', k1, k2, k3, k4, ⟨F, k5⟩, k6, k7⟩ := hk
  have hok : HpOk Hs w' := (k4.ok.perm k5.perm).left
  refine ⟨hok, ?_, ?_⟩
  · refine wpX_mono (fun a2 w2 hk => ?_) _ _ _ (wpX_T (E0 := []) [(o, true)] a' w' (by simpa using hf.1) (he _) hok (k6 a' w' k1 k2 k3 k4 hok))
    obtain ⟨⟨E2, H2, m1, m2, m3, m4, m5⟩, m6, _⟩ := hk
    exact m5 a2 w2 m1 m2 m3 m4 m6
  · refine wpX_mono (fun a2 w2 hk => ?_) _ _ _ (wpX_T (E0 := []) [(p, true)] a' w' (by simpa using hf.2) (he _) hok (k7 a' w' k1 k2 k3 k4 hok))
    obtain ⟨⟨E2, H2, m1, m2, m3, m4, m5⟩, m6, _⟩ := hk
    exact m5 a2 w2 m1 m2 m3 m4 m6
end
end Go.K
