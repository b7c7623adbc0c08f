/-
  A thin layer over the kit's walk: a function's contract over the blocks that it needs, with all else as it was; the rules of the code's structure.
-/
import Derived.Tactics
import Derived.OrdersHeld
import Derived.Laws.Cells
import Derived.RowKit3
import Derived.NoCompiler
import Derived.KernelRfl
import Derived.Deep.LoopGhost
namespace Go.K
set_option linter.unusedVariables false
set_option linter.unusedSimpArgs false

/-! ### What is known of the frame: slots and values -/
abbrev Env := List (Nat × Value)
def fnd : Env → Nat → Option Value
  | [], _ => none
  | (k, v) :: E, i => bif Nat.beq k i then some v else fnd E i
def EnvOk (E : Env) (a : Act) : Prop := ∀ i v, fnd E i = some v → a.tmps.getD i undef = v

theorem EnvOk.put {E : Env} {a : Act} {d : Nat} {v : Value} (h : EnvOk E a) (hd : d < a.tmps.size) : EnvOk ((d, v) :: E) (a.put (some d) v) := by
  intro i u hu
  unfold fnd at hu
  simp only [Act.put]
  cases hb : Nat.beq d i with
  | true =>
    have : d = i := Nat.eq_of_beq_eq_true hb
    subst this
    simp [hb] at hu
    subst hu
    simp [Array.getD, hd]
  | false =>
    have hne : d ≠ i := fun e => by subst e; simp at hb
    simp [hb] at hu
    have := h i u hu
    simp only [Array.getD_eq_getD_getElem?] at *
    rw [Array.getElem?_setIfInBounds_ne hne]
    exact this

theorem EnvOk.skip {E : Env} {a : Act} {v : Value} (h : EnvOk E a) : EnvOk E (a.put none v) := h

/-! ### What is known of memory: blocks -/
/-- A block's number; whether it may be written; what it is. -/
abbrev Blk := Nat × Bool × Obj
abbrev Hp := List Blk
/-- A row of cells that no string shares. -/
def CF (cs : List Value) (T : TypeId) (fr : Nat × Nat) : Obj := .cells cs.toArray T fr
abbrev C (cs : List Value) (T : TypeId) : Obj := CF cs T (0, 0)

/-- Two entries of one block are both such as nobody writes to. -/
def Far (x y : Blk) : Prop := x.1 = y.1 → x.2.1 = false ∧ y.2.1 = false
theorem Far.symm {x y : Blk} (h : Far x y) : Far y x := fun e => ⟨(h e.symm).2, (h e.symm).1⟩
structure HpOk (H : Hp) (w : World) : Prop where
  far : H.Pairwise Far
  here : ∀ x ∈ H, w.heap[x.1]? = some x.2.2

theorem HpOk.lt {H : Hp} {w : World} (h : HpOk H w) {x : Blk} (hx : x ∈ H) : x.1 < w.heap.size := by
  have := h.here x hx
  exact (Array.getElem?_eq_some_iff.1 this).1

def Dom (H : Hp) (b : Nat) : Prop := ∃ x ∈ H, x.1 = b
def RwDom (H : Hp) (b : Nat) : Prop := ∃ x ∈ H, x.1 = b ∧ x.2.1 = true

theorem RwDom.dom {H : Hp} {b : Nat} (h : RwDom H b) : Dom H b := let ⟨x, hx, hb, _⟩ := h; ⟨x, hx, hb⟩

/-- The world w' has come of w: H was known, H' is; nothing else has turned. -/
structure Trk (w w' : World) (H H' : Hp) : Prop where
  ok : HpOk H' w'
  os : w'.os = w.os
  tape : w'.tape = w.tape
  out : w'.output = w.output
  fz : ∀ a, w'.frozen? a = w.frozen? a
  size : w.heap.size ≤ w'.heap.size
  same : ∀ b, b < w.heap.size → ¬ RwDom H b → w'.heap[b]? = w.heap[b]?
  dom : ∀ b, Dom H' b → Dom H b ∨ w.heap.size ≤ b
  rw : ∀ b, RwDom H' b → RwDom H b ∨ w.heap.size ≤ b

theorem Trk.refl {w : World} {H : Hp} (h : HpOk H w) : Trk w w H H :=
  ⟨h, rfl, rfl, rfl, fun _ => rfl, Nat.le_refl _, fun _ _ _ => rfl, fun _ h => .inl h, fun _ h => .inl h⟩

theorem Trk.trans {w0 w1 w2 : World} {H0 H1 H2 : Hp} (h : Trk w0 w1 H0 H1) (k : Trk w1 w2 H1 H2) : Trk w0 w2 H0 H2 where
  ok := k.ok
  os := k.os.trans h.os
  tape := k.tape.trans h.tape
  out := k.out.trans h.out
  fz := fun a => (k.fz a).trans (h.fz a)
  size := Nat.le_trans h.size k.size
  same := fun b hb hn => by
    have h1 := h.same b hb hn
    have h2 := k.same b (Nat.lt_of_lt_of_le hb h.size) (fun hr => by
      rcases h.rw b hr with h3 | h3
      · exact hn h3
      · omega)
    rw [h2, h1]
  dom := fun b hb => by
    rcases k.dom b hb with h1 | h1
    · exact h.dom b h1
    · exact .inr (Nat.le_trans h.size h1)
  rw := fun b hb => by
    rcases k.rw b hb with h1 | h1
    · exact h.rw b h1
    · exact .inr (Nat.le_trans h.size h1)

/-- 'F' is what is left of 'H' when 'L' is taken out (and some may be dropped). -/
inductive Pick : Blk → Hp → Hp → Prop
  | here {x : Blk} {H : Hp} : Pick x (x :: H) H
  | there {x y : Blk} {H F : Hp} : Pick x H F → Pick x (y :: H) (y :: F)
inductive Split : Hp → Hp → Hp → Prop
  | nil {H : Hp} : Split H [] H
  | cons {x : Blk} {H G F : Hp} {L : Hp} : Pick x H G → Split G L F → Split H (x :: L) F

theorem Pick.perm {x : Blk} {H F : Hp} (h : Pick x H F) : H.Perm (x :: F) := by
  induction h with
  | here => exact List.Perm.refl _
  | there _ ih => exact (List.Perm.cons _ ih).trans (List.Perm.swap _ _ _)
theorem Split.perm {H L F : Hp} (h : Split H L F) : H.Perm (L ++ F) := by
  induction h with
  | nil => exact List.Perm.refl _
  | @cons x H G F L hp _ ih => exact hp.perm.trans (List.Perm.cons x ih)

theorem HpOk.perm {H K : Hp} {w : World} (h : HpOk H w) (hp : H.Perm K) : HpOk K w :=
  ⟨(hp.pairwise_iff (fun h => Far.symm h)).1 h.far, fun x hx => h.here x (hp.mem_iff.2 hx)⟩
theorem HpOk.left {L F : Hp} {w : World} (h : HpOk (L ++ F) w) : HpOk L w :=
  ⟨(List.pairwise_append.1 h.far).1, fun x hx => h.here x (List.mem_append_left _ hx)⟩
theorem HpOk.right {L F : Hp} {w : World} (h : HpOk (L ++ F) w) : HpOk F w :=
  ⟨(List.pairwise_append.1 h.far).2.1, fun x hx => h.here x (List.mem_append_right _ hx)⟩

/-- THE FRAME: what is beside stays. -/
theorem Trk.frame {w w' : World} {H H' F : Hp} (h : Trk w w' H H') (hf : HpOk (H ++ F) w) : Trk w w' (H ++ F) (H' ++ F) := by
  obtain ⟨n1, n2, n3⟩ := List.pairwise_append.1 hf.far
  have hF : ∀ x ∈ F, w'.heap[x.1]? = some x.2.2 := fun x hx => by
    rw [h.same x.1 (hf.lt (List.mem_append_right _ hx)) (fun ⟨y, hy, e, hr⟩ => by have := (n3 y hy x hx e).1; rw [hr] at this; cases this)]
    exact hf.here x (List.mem_append_right _ hx)
  refine ⟨⟨?_, ?_⟩, h.os, h.tape, h.out, h.fz, h.size, ?_, ?_, ?_⟩
  · refine List.pairwise_append.2 ⟨h.ok.far, n2, fun x hx y hy e => ?_⟩
    have hylt := hf.lt (List.mem_append_right H hy)
    refine ⟨?_, ?_⟩
    · cases hr : x.2.1 with
      | false => rfl
      | true =>
        rcases h.rw x.1 ⟨x, hx, rfl, hr⟩ with ⟨z, hz, ez, hzr⟩ | hd
        · have := (n3 z hz y hy (ez.trans e)).1; rw [hzr] at this; cases this
        · omega
    · rcases h.dom x.1 ⟨x, hx, rfl⟩ with ⟨z, hz, ez⟩ | hd
      · exact (n3 z hz y hy (ez.trans e)).2
      · omega
  · intro x hx
    rcases List.mem_append.1 hx with hx | hx
    · exact h.ok.here x hx
    · exact hF x hx
  · intro b hb hn
    exact h.same b hb (fun ⟨x, hx, e⟩ => hn ⟨x, List.mem_append_left _ hx, e⟩)
  · rintro b ⟨x, hx, rfl⟩
    rcases List.mem_append.1 hx with hx | hx
    · rcases h.dom _ ⟨x, hx, rfl⟩ with ⟨y, hy, e⟩ | h2
      · exact .inl ⟨y, List.mem_append_left _ hy, e⟩
      · exact .inr h2
    · exact .inl ⟨x, List.mem_append_right _ hx, rfl⟩
  · rintro b ⟨x, hx, rfl, hr⟩
    rcases List.mem_append.1 hx with hx | hx
    · rcases h.rw _ ⟨x, hx, rfl, hr⟩ with ⟨y, hy, e⟩ | h2
      · exact .inl ⟨y, List.mem_append_left _ hy, e⟩
      · exact .inr h2
    · exact .inl ⟨x, List.mem_append_right _ hx, rfl, hr⟩

theorem Trk.perm_left {w w' : World} {H K H' : Hp} (h : Trk w w' H H') (hp : H.Perm K) : Trk w w' K H' :=
  have d : ∀ b, Dom H b → Dom K b := fun _ ⟨x, hx, e⟩ => ⟨x, hp.mem_iff.1 hx, e⟩
  have r : ∀ b, RwDom H b → RwDom K b := fun _ ⟨x, hx, e⟩ => ⟨x, hp.mem_iff.1 hx, e⟩
  ⟨h.ok, h.os, h.tape, h.out, h.fz, h.size, fun b hb hn => h.same b hb (fun hr => hn (r b hr)), fun b hb => (h.dom b hb).imp (d b) id, fun b hb => (h.rw b hb).imp (r b) id⟩

/-- Some of what is known is forgotten, or is put in another order. -/
theorem Trk.sub {w w' : World} {H H' K : Hp} (h : Trk w w' H H') (hk : HpOk K w') (hs : ∀ x ∈ K, x ∈ H') : Trk w w' H K :=
  ⟨hk, h.os, h.tape, h.out, h.fz, h.size, h.same, fun b ⟨x, hx, e⟩ => h.dom b ⟨x, hs x hx, e⟩, fun b ⟨x, hx, e⟩ => h.rw b ⟨x, hs x hx, e⟩⟩

theorem Trk.split {w w' : World} {H H' L F : Hp} (h : Trk w w' H H') (hs : Split H' L F) : Trk w w' H L :=
  have hp := hs.perm
  h.sub ((h.ok.perm hp).left) (fun x hx => hp.mem_iff.2 (List.mem_append_left _ hx))

/-! ### A function's contract -/
def Does (P : Program) (f : FuncId) (args : List Value) (H : Hp) (R : Value → Hp → Prop) : Prop :=
  ∀ w, HpOk H w → Calls P f args.toArray w fun e w' => ∃ v H', e = .returned v ∧ R v H' ∧ Trk w w' H H'

theorem Does.mono {P : Program} {f : FuncId} {args : List Value} {H : Hp} {R R' : Value → Hp → Prop} (h : Does P f args H R) (hr : ∀ v H', R v H' → R' v H') : Does P f args H R' :=
  fun w hw => (h w hw).mono fun _ _ ⟨v, H', he, hR, ht⟩ => ⟨v, H', he, hr v H' hR, ht⟩

/-! ### The code -/
abbrev Post := Exit → Env → Hp → Prop
/-- What stands behind a piece of code that began in the world w with H known. -/
def Up (n : Nat) (w : World) (H : Hp) (Q : Post) : Exit → Act → World → Prop :=
  fun e a' w' => ∃ E' H', EnvOk E' a' ∧ a'.tmps.size = n ∧ a'.defers = [] ∧ Trk w w' H H' ∧ Q e E' H'

def SC (P : Program) (n : Nat) (c : Code) (E : Env) (H : Hp) (Q : Post) : Prop :=
  ∀ a w, EnvOk E a → a.tmps.size = n → a.defers = [] → HpOk H w → c.wp P (Up n w H Q) a w

theorem Up.after {n : Nat} {w w1 : World} {H H1 : Hp} {Q : Post} (ht : Trk w w1 H H1) {e : Exit} {a : Act} {w' : World} (h : Up n w1 H1 Q e a w') : Up n w H Q e a w' :=
  let ⟨E', H', h1, h2, h3, h4, h5⟩ := h; ⟨E', H', h1, h2, h3, ht.trans h4, h5⟩

/-- Behind 'c' comes 'K'. -/
def thn (K : Env → Hp → Prop) (Q : Post) : Post
  | .normal, E, H => K E H
  | e, E, H => Q e E H
def blk (id : Nat) (Q : Post) : Post
  | .exit i, E, H => if i = id then Q .normal E H else Q (.exit i) E H
  | e, E, H => Q e E H

section
variable {P : Program} {n : Nat} {E : Env} {H : Hp} {Q : Post}

theorem SC.mono {c : Code} {Q' : Post} (h : SC P n c E H Q) (hq : ∀ e E H, Q e E H → Q' e E H) : SC P n c E H Q' :=
  fun a w h1 h2 h3 h4 => wp_mono (h a w h1 h2 h3 h4) fun e _ _ ⟨E', H', k1, k2, k3, k4, k5⟩ => ⟨E', H', k1, k2, k3, k4, hq e E' H' k5⟩

theorem s_seq {x y : Code} (h : SC P n x E H (thn (fun E H => SC P n y E H Q) Q)) : SC P n (.seq x y) E H Q := by
  intro a w h1 h2 h3 h4
  refine wp_seq (wp_mono (h a w h1 h2 h3 h4) ?_)
  rintro e a' w' ⟨E', H', k1, k2, k3, k4, k5⟩
  cases e with
  | normal => exact wp_mono (k5 a' w' k1 k2 k3 k4.ok) fun e _ _ hu => hu.after k4
  | _ => exact ⟨E', H', k1, k2, k3, k4, k5⟩

theorem s_skip (h : Q .normal E H) : SC P n .skip E H Q :=
  fun a w h1 h2 h3 h4 => wp_skip ⟨E, H, h1, h2, h3, Trk.refl h4, h⟩
theorem s_ret (h : Q .ret E H) : SC P n .ret E H Q :=
  fun a w h1 h2 h3 h4 => wp_ret ⟨E, H, h1, h2, h3, Trk.refl h4, h⟩
theorem s_exit {i : Nat} (h : Q (.exit i) E H) : SC P n (.exit i) E H Q :=
  fun a w h1 h2 h3 h4 => wp_exit ⟨E, H, h1, h2, h3, Trk.refl h4, h⟩

theorem s_block {i : Nat} {c : Code} (h : SC P n c E H (blk i Q)) : SC P n (.block i c) E H Q := by
  intro a w h1 h2 h3 h4
  refine wp_block (wp_mono (h a w h1 h2 h3 h4) ?_)
  rintro e a' w' ⟨E', H', k1, k2, k3, k4, k5⟩
  cases e with
  | exit j =>
    simp only [Exit.inBlock, blk] at *
    split
    · rename_i hj; rw [if_pos hj] at k5; exact ⟨E', H', k1, k2, k3, k4, k5⟩
    · rename_i hj; rw [if_neg hj] at k5; exact ⟨E', H', k1, k2, k3, k4, k5⟩
  | _ => exact ⟨E', H', k1, k2, k3, k4, k5⟩

/-- What an operand holds. -/
def ev (E : Env) : Operand → Option Value
  | .tmp t => fnd E t
  | .const v => some v
  | .global g => some (.pointer (some ⟨g, 0, none⟩))
  | .func f => some (.func (.func f) #[] #[])
theorem ev_ok {a : Act} (h : EnvOk E a) {x : Operand} {v : Value} (hx : ev E x = some v) : a.eval x = v := by
  cases x with
  | tmp t => exact h t v hx
  | const u => simpa [ev, Act.eval] using hx
  | global g => simpa [ev, Act.eval] using hx
  | func f => simpa [ev, Act.eval] using hx

theorem s_cond {c : Operand} {x y : Code} {t : Bool} (hc : ev E c = some (.bool t)) (ht : t = true → SC P n x E H Q) (hf : t = false → SC P n y E H Q) : SC P n (.cond c x y) E H Q := by
  intro a w h1 h2 h3 h4
  exact wp_cond_split (ev_ok h1 hc) (fun e => ht e a w h1 h2 h3 h4) (fun e => hf e a w h1 h2 h3 h4)

theorem s_condT {c : Operand} {x y : Code} (hc : ev E c = some (.bool true)) (ht : SC P n x E H Q) : SC P n (.cond c x y) E H Q :=
  s_cond hc (fun _ => ht) (fun e => by cases e)
theorem s_condF {c : Operand} {x y : Code} (hc : ev E c = some (.bool false)) (ht : SC P n y E H Q) : SC P n (.cond c x y) E H Q :=
  s_cond hc (fun e => by cases e) (fun _ => ht)

/-- Some slots and blocks are forgotten, or put in another order. -/
inductive Keep (E : Env) : Env → Prop
  | nil : Keep E []
  | cons {i : Nat} {v : Value} {F : Env} : fnd E i = some v → Keep E F → Keep E ((i, v) :: F)
theorem Keep.ok {F : Env} {a : Act} (hk : Keep E F) (h : EnvOk E a) : EnvOk F a := by
  induction hk with
  | nil => intro i v hv; cases hv
  | @cons i v F hi _ ih =>
    intro j u hu
    unfold fnd at hu
    cases hb : Nat.beq i j with
    | true => have : i = j := Nat.eq_of_beq_eq_true hb; subst this; simp [hb] at hu; subst hu; exact h _ _ hi
    | false => simp [hb] at hu; exact ih j u hu

theorem s_keep {c : Code} {F : Env} {L R : Hp} (hk : Keep E F) (hs : Split H L R) (h : SC P n c F L Q) : SC P n c E H Q := by
  intro a w h1 h2 h3 h4
  have hp := hs.perm
  refine wp_mono (h a w (hk.ok h1) h2 h3 ((h4.perm hp).left)) fun e a' w' hu => ?_
  exact hu.after ((Trk.refl h4).split hs)

theorem s_env {c : Code} {F : Env} (hk : Keep E F) (h : SC P n c F H Q) : SC P n c E H Q := by
  intro a w h1 h2 h3 h4
  exact h a w (hk.ok h1) h2 h3 h4

/-! a loop: 'E0 s', 'H0 s': what is known at the head of a round in the state s -/
theorem s_loop {σ : Type} {c : Code} (E0 : σ → Env) (H0 : σ → Hp) (inv : σ → Prop) (μ : σ → Nat) (s0 : σ) (hi : inv s0)
    (hk : Keep E (E0 s0)) {R : Hp} (hs : Split H (H0 s0) R)
    (round : ∀ s, inv s → SC P n c (E0 s) (H0 s) (thn (fun E' H' => ∃ s', inv s' ∧ μ s' < μ s ∧ Keep E' (E0 s') ∧ ∃ R', Split H' (H0 s') R') Q)) :
    SC P n (.loop c) E H Q := by
  intro a w h1 h2 h3 h4
  refine wp_loop_ghost (fun m a' w' => ∃ s, inv s ∧ μ s = m ∧ EnvOk (E0 s) a' ∧ a'.tmps.size = n ∧ a'.defers = [] ∧ Trk w w' H (H0 s)) (μ s0)
    ⟨s0, hi, rfl, hk.ok h1, h2, h3, (Trk.refl h4).split hs⟩ ?_
  rintro m a' w' ⟨s, k1, rfl, k2, k3, k4, k5⟩
  refine wp_mono (round s k1 a' w' k2 k3 k4 k5.ok) ?_
  rintro e a2 w2 ⟨E', H', j1, j2, j3, j4, j5⟩
  cases e with
  | normal =>
    obtain ⟨s', l1, l2, l3, R', l4⟩ := j5
    exact ⟨μ s', l2, s', l1, rfl, l3.ok j1, j2, j3, (k5.trans j4).split l4⟩
  | _ => exact ⟨E', H', j1, j2, j3, k5.trans j4, j5⟩
end

/-! ### Into a function, and out of it -/
def argEnv : Nat → List Value → Env
  | _, [] => []
  | i, v :: vs => (i, v) :: argEnv (i + 1) vs

theorem argEnv_fnd : ∀ (vs : List Value) (j i : Nat) (v : Value), fnd (argEnv j vs) i = some v → j ≤ i ∧ vs[i - j]? = some v
  | [], _, _, _, h => by cases h
  | u :: vs, j, i, v, h => by
    unfold argEnv fnd at h
    cases hb : Nat.beq j i with
    | true =>
      have : j = i := Nat.eq_of_beq_eq_true hb
      subst this
      simp [hb] at h
      simp [h]
    | false =>
      simp [hb] at h
      obtain ⟨h1, h2⟩ := argEnv_fnd vs (j + 1) i v h
      refine ⟨by omega, ?_⟩
      have : i - j = (i - (j + 1)) + 1 := by omega
      rw [this]; simpa using h2

/-- What a function hands back, where the frame is E and memory H. -/
def Ret (P : Program) (fn : Func) (E : Env) (H : Hp) (v : Value) : Prop :=
  ∀ a w, EnvOk E a → HpOk H w → (results fn a.tmps).run P w = .ok v w

def fpost (P : Program) (fn : Func) (R : Value → Hp → Prop) : Post
  | .normal, E, H | .ret, E, H => ∃ v L F, Ret P fn E H v ∧ Split H L F ∧ R v L
  | _, _, _ => False

theorem fpost_ret {P : Program} {fn : Func} {R : Value → Hp → Prop} {E : Env} {H L F : Hp} {v : Value} (h : Ret P fn E H v) (hs : Split H L F) (hR : R v L) : fpost P fn R .ret E H := ⟨v, L, F, h, hs, hR⟩
theorem fpost_end {P : Program} {fn : Func} {R : Value → Hp → Prop} {E : Env} {H L F : Hp} {v : Value} (h : Ret P fn E H v) (hs : Split H L F) (hR : R v L) : fpost P fn R .normal E H := ⟨v, L, F, h, hs, hR⟩

theorem fn_enter {P : Program} {f n : Nat} {fn : Func} {c : Code} {args : List Value} {H : Hp} {R : Value → Hp → Prop}
    (hf : P.funcs[f]? = some fn) (hn : fn.ntmps = n) (hb : fn.body = some c) (hl : args.length ≤ n) (h : SC P n c (argEnv 0 args) H (fpost P fn R)) : Does P f args H R := by
  intro w hw
  refine calls_of_wp hf hb (wp_mono (h { tmps := args.toArray ++ Array.replicate (fn.ntmps - args.toArray.size) undef, defers := [] } w ?_ ?_ rfl hw) ?_)
  · intro i v hv
    obtain ⟨_, h2⟩ := argEnv_fnd args 0 i v hv
    have hi : i < args.length := (List.getElem?_eq_some_iff.1 (by simpa using h2)).1
    simp only [Array.getD_eq_getD_getElem?]
    rw [Array.getElem?_append_left (by simpa using hi)]
    have h2' : args[i]? = some v := by simpa using h2
    simp [h2']
  · simp; omega
  · rintro e a' w' ⟨E', H', k1, k2, k3, k4, k5⟩
    cases e with
    | normal =>
      obtain ⟨v, L, F, h1, h2, h3⟩ := k5
      exact ⟨k3, v, h1 a' w' k1 k4.ok, v, L, rfl, h3, k4.split h2⟩
    | ret =>
      obtain ⟨v, L, F, h1, h2, h3⟩ := k5
      exact ⟨k3, v, h1 a' w' k1 k4.ok, v, L, rfl, h3, k4.split h2⟩
    | exit i => exact k5.elim
    | goto l => exact k5.elim
    | panic ch => exact k5.elim
    | outgrown => exact k5.elim

theorem ret0 {P : Program} {fn : Func} {E : Env} {H : Hp} (h : fn.results = #[]) : Ret P fn E H (.tuple #[]) :=
  fun a w _ _ => results_none h a.tmps P w
theorem ret1 {P : Program} {fn : Func} {E : Env} {H : Hp} {t : Nat} {v : Value} (h : fn.results = #[.tmp t]) (hv : fnd E t = some v) : Ret P fn E H v :=
  fun a w he _ => by rw [results_tmp h, he t v hv]
theorem ret2 {P : Program} {fn : Func} {E : Env} {H : Hp} {t u : Nat} {v v' : Value} (h : fn.results = #[.tmp t, .tmp u]) (hv : fnd E t = some v) (hv' : fnd E u = some v') : Ret P fn E H (.tuple #[v, v']) :=
  fun a w he _ => by rw [results_tmp2 h, he t v hv, he u v' hv']
end Go.K
