/-
  The thin layer, sixth part: values of structs and arrays; what is handed back; short forms.
-/
import Derived.Test.YtdfidkhbldedlaaGreatK5
namespace Go.K
set_option linter.unusedVariables false
set_option linter.unusedSimpArgs false

section
variable {P : Program} {n : Nat} {E : Env} {H : Hp} {Q : Post} {ops : Array Oper} {rest : List Oper}

/-! ### A struct's value out of its parts -/
/-- A struct's fields: where each lies, and its size. -/
class Plc (P : Program) (t : TypeId) (pl : outParam (List (Nat × Nat))) : Prop where
  eq : ∃ fs, P.underlying t = some (.struct fs) ∧ ∀ w, (fs.mapM (m := Sem) fun f => do pure (f.offset, ← sizeOf f.type)).run P w = .ok pl.toArray w
def nthP : List (Nat × Nat) → Nat → Option (Nat × Nat)
  | [], _ => none
  | c :: _, 0 => some c
  | _ :: cs, n + 1 => nthP cs n
theorem nthP_eq (cs : List (Nat × Nat)) (i : Nat) : nthP cs i = cs[i]? := by
  induction cs generalizing i with
  | nil => rfl
  | cons c cs ih => cases i <;> simp [nthP, ih]
def fillC (pl : List (Nat × Nat)) : List Value → List (Nat × Value) → Option (List Value)
  | cs, [] => some cs
  | cs, (i, v) :: r =>
    match nthP pl i with
    | none => none
    | some (o, s) => bif Nat.beq v.cells.toList.length s then (match splice cs o v.cells.toList with | none => none | some cs' => fillC pl cs' r) else none

theorem foldl_set (o : Nat) : ∀ (vs : List Value) (k : Nat) (cs : Array Value), o + k + vs.length ≤ cs.size →
    ((vs.zipIdx k).foldl (fun (cs : Array Value) (x : Value × Nat) => cs.setIfInBounds (o + x.2) x.1) cs).toList = cs.toList.take (o + k) ++ vs ++ cs.toList.drop (o + k + vs.length)
  | [], k, cs, h => by simp
  | v :: vs, k, cs, h => by
    simp only [List.zipIdx_cons, List.foldl_cons]
    rw [foldl_set o vs (k + 1) _ (by simp at h ⊢; omega)]
    have e := list_seg_step cs.toList (o + k) v vs (by simp at h ⊢; omega)
    simpa [Array.toList_setIfInBounds, Nat.add_assoc] using e

theorem fill_ok (pl : List (Nat × Nat)) : ∀ (vs : List (Nat × Value)) (cs r : List Value), fillC pl cs vs = some r → Instr.fill (fun i => pl.toArray[i]?) cs.toArray vs = some r.toArray
  | [], cs, r, h => by simp [fillC] at h; simp [Instr.fill, h]
  | (i, v) :: vs, cs, r, h => by
    simp only [fillC] at h
    cases hp : nthP pl i with
    | none => simp [hp] at h
    | some os =>
      obtain ⟨o, s⟩ := os
      simp only [hp] at h
      cases hb : Nat.beq v.cells.toList.length s with
      | false => rw [hb] at h; cases h
      | true =>
        rw [hb] at h; simp only [cond_true] at h
        have hs : v.cells.size = s := by have := Nat.eq_of_beq_eq_true hb; simpa using this
        cases hsp : splice cs o v.cells.toList with
        | none => simp [hsp] at h
        | some cs' =>
          simp only [hsp] at h
          obtain ⟨h1, h2⟩ := splice_eq cs o _ cs' hsp
          have ih := fill_ok pl vs cs' r h
          have hp' : pl.toArray[i]? = some (o, s) := by rw [nthP_eq] at hp; simpa using hp
          unfold Instr.fill
          simp only [hp']
          rw [if_neg (by simp [hs]; simp at h2; omega)]
          rw [← ih]
          congr 1
          apply Array.ext'
          have := foldl_set o v.cells.toList 0 cs.toArray (by simpa using h2)
          rw [h1]
          rw [← Array.foldl_toList, Array.toList_zipIdx]
          simpa using this

theorem rd_build_s {t : TypeId} {ps : List (Nat × Operand)} {vs : List (Nat × Value)} {pl : List (Nat × Nat)} {zs cs : List Value} [hz : Zer P t zs] [hp : Plc P t pl] (hv : evs E ps = some vs) (hf : fillC pl zs vs = some cs) : Rd P E H (.build t ps.toArray) (.agg cs.toArray) := by
  refine rd_build hv ?_
  intro w
  obtain ⟨z, hz1, hz2⟩ := run_zeroCells (P := P) (t := t) w
  obtain ⟨fs, hu, hm⟩ := hp.eq
  have hfill := fill_ok pl vs zs cs hf
  simp only [Instr.build, Sem.run_bind, hz1, Result.andThen_ok, run_underlying hu, hm, hz2]
  simp only [hfill]
  simp

/-! ### What is handed back -/
theorem run_cell {t : TypeId} {b o : Nat} {r : Bool} {cs vs : List Value} {T : TypeId} {fr : Nat × Nat} {sz : Nat} {w : World} [ht : Agg P t true] [hz : Siz P t sz] (h : HpOk H w) (hm : (b, r, CF cs T fr) ∈ H) (hv : cut cs o sz = some vs) :
    (loadVar t ⟨b, o, none⟩).run P w = .ok (.agg vs.toArray) w := run_loadA (h.here _ hm) hv
theorem run_cell1 {t : TypeId} {b o : Nat} {r : Bool} {cs : List Value} {T : TypeId} {fr : Nat × Nat} {v : Value} {w : World} [ht : Agg P t false] (h : HpOk H w) (hm : (b, r, CF cs T fr) ∈ H) (hv : nth cs o = some v) :
    (loadVar t ⟨b, o, none⟩).run P w = .ok v w := by
  simp [loadVar, run_isAgg, cell_C (h.here _ hm), hv]
/-- One result: a slot, or a variable. -/
def RV (P : Program) (E : Env) (H : Hp) (r : ResultVar) (v : Value) : Prop :=
  ∀ a w, EnvOk E a → HpOk H w → (match r with | .tmp t => pure (a.tmps.getD t undef) | .cell x t => do loadVar t (← asAddr (a.tmps.getD x undef)) : Sem Value).run P w = .ok v w
theorem rv_tmp {t : Nat} {v : Value} (h : fnd E t = some v) : RV P E H (.tmp t) v := fun a w h1 h2 => by simp [← h1 t v h]
theorem rv_cell {x : Nat} {t : TypeId} {b o : Nat} {r : Bool} {cs vs : List Value} {T : TypeId} {fr : Nat × Nat} {sz : Nat} [ht : Agg P t true] [hz : Siz P t sz] (h : fnd E x = some (.pointer (some ⟨b, o, none⟩))) (hm : (b, r, CF cs T fr) ∈ H) (hv : cut cs o sz = some vs) :
    RV P E H (.cell x t) (.agg vs.toArray) := fun a w h1 h2 => by
  have := h1 x _ h
  simp only [Sem.run_bind]
  rw [this]
  simp only [asAddr, Sem.run_pure, Result.andThen_ok, run_cell h2 hm hv]
theorem rv_cell1 {x : Nat} {t : TypeId} {b o : Nat} {r : Bool} {cs : List Value} {v : Value} {T : TypeId} {fr : Nat × Nat} [ht : Agg P t false] (h : fnd E x = some (.pointer (some ⟨b, o, none⟩))) (hm : (b, r, CF cs T fr) ∈ H) (hv : nth cs o = some v) :
    RV P E H (.cell x t) v := fun a w h1 h2 => by
  have := h1 x _ h
  simp only [Sem.run_bind]
  rw [this]
  simp only [asAddr, Sem.run_pure, Result.andThen_ok, run_cell1 h2 hm hv]
theorem rets1 {fn : Func} {r : ResultVar} {v : Value} (h : fn.results = #[r]) (h1 : RV P E H r v) : Ret P fn E H v := fun a w k1 k2 => by
  have := h1 a w k1 k2
  simp only [results, h, List.mapM_toArray, List.mapM_cons, List.mapM_nil, Sem.run_bind, Sem.run_map, Sem.run_pure, bind_pure_comp, map_pure]
  cases r <;> simp_all
theorem rets2 {fn : Func} {r s : ResultVar} {v u : Value} (h : fn.results = #[r, s]) (h1 : RV P E H r v) (h2 : RV P E H s u) : Ret P fn E H (.tuple #[v, u]) := fun a w k1 k2 => by
  have i1 := h1 a w k1 k2
  have i2 := h2 a w k1 k2
  simp only [results, h, List.mapM_toArray, List.mapM_cons, List.mapM_nil, Sem.run_bind, Sem.run_map, Sem.run_pure, bind_pure_comp, map_pure]
  cases r <;> cases s <;> simp_all
theorem rets3 {fn : Func} {r s q : ResultVar} {v u x : Value} (h : fn.results = #[r, s, q]) (h1 : RV P E H r v) (h2 : RV P E H s u) (h3 : RV P E H q x) : Ret P fn E H (.tuple #[v, u, x]) := fun a w k1 k2 => by
  have i1 := h1 a w k1 k2
  have i2 := h2 a w k1 k2
  have i3 := h3 a w k1 k2
  simp only [results, h, List.mapM_toArray, List.mapM_cons, List.mapM_nil, Sem.run_bind, Sem.run_map, Sem.run_pure, bind_pure_comp, map_pure]
  cases r <;> cases s <;> cases q <;> simp_all
theorem rets4 {fn : Func} {r s q p : ResultVar} {v u x y : Value} (h : fn.results = #[r, s, q, p]) (h1 : RV P E H r v) (h2 : RV P E H s u) (h3 : RV P E H q x) (h4 : RV P E H p y) : Ret P fn E H (.tuple #[v, u, x, y]) := fun a w k1 k2 => by
  have i1 := h1 a w k1 k2
  have i2 := h2 a w k1 k2
  have i3 := h3 a w k1 k2
  have i4 := h4 a w k1 k2
  simp only [results, h, List.mapM_toArray, List.mapM_cons, List.mapM_nil, Sem.run_bind, Sem.run_map, Sem.run_pure, bind_pure_comp, map_pure]
  cases r <;> cases s <;> cases q <;> cases p <;> simp_all

/-- The result is X, memory Y. -/
def Is (X : Value) (Y : Hp) : Value → Hp → Prop := fun v L => v = X ∧ L = Y
theorem leaf_is {fn : Func} {X v : Value} {Y F : Hp} (hr : Ret P fn E H v) (hv : v = X) (hs : Split H Y F) : fpost P fn (Is X Y) .ret E H := ⟨v, Y, F, hr, hs, hv, rfl⟩
theorem leaf_isN {fn : Func} {X v : Value} {Y F : Hp} (hr : Ret P fn E H v) (hv : v = X) (hs : Split H Y F) : fpost P fn (Is X Y) .normal E H := ⟨v, Y, F, hr, hs, hv, rfl⟩
theorem leaf_r {fn : Func} {R : Value → Hp → Prop} {v : Value} {Y F : Hp} (hr : Ret P fn E H v) (hR : R v Y) (hs : Split H Y F) : fpost P fn R .ret E H := ⟨v, Y, F, hr, hs, hR⟩
theorem leaf_rN {fn : Func} {R : Value → Hp → Prop} {v : Value} {Y F : Hp} (hr : Ret P fn E H v) (hR : R v Y) (hs : Split H Y F) : fpost P fn R .normal E H := ⟨v, Y, F, hr, hs, hR⟩

def appO : Hp → Hp → Option Hp
  | [], F => some F
  | x :: Y, F => match appO Y F with | some r => some (x :: r) | none => none
theorem appO_eq : ∀ {Y F r : Hp}, appO Y F = some r → r = Y ++ F
  | [], F, r, h => by cases h; rfl
  | x :: Y, F, r, h => by
    simp only [appO] at h
    cases hy : appO Y F with
    | none => simp [hy] at h
    | some t => simp [hy] at h; subst h; rw [appO_eq hy]; rfl

theorem o_call_is {d : Nat} {f : FuncId} {xs : List Operand} {ts : Array TypeId} {ty : TypeId} {pos : String} {af : Array Edge} {args : List Value} {L F Y : Hp} {X : Value} [he : Ent P f]
    (hx : evl E xs = some args) (hf : Does P f args L (Is X Y)) (hs : Split H L F) (hd : Nat.blt d n = true) {G : Hp} (hg : appO Y F = some G)
    (k : SO P n ops rest ((d, X) :: E) G Q) : SO P n ops (⟨some d, .call ⟨.value (.func f), xs.toArray, ts⟩, ty, pos, af, none⟩ :: rest) E H Q :=
  o_call hx hf hs hd fun v L' ⟨h1, h2⟩ => by subst h1; subst h2; rw [← appO_eq hg]; exact k
theorem o_call_isn {f : FuncId} {xs : List Operand} {ts : Array TypeId} {ty : TypeId} {pos : String} {af : Array Edge} {args : List Value} {L F Y : Hp} {X : Value} [he : Ent P f]
    (hx : evl E xs = some args) (hf : Does P f args L (Is X Y)) (hs : Split H L F) {G : Hp} (hg : appO Y F = some G)
    (k : SO P n ops rest E G Q) : SO P n ops (⟨none, .call ⟨.value (.func f), xs.toArray, ts⟩, ty, pos, af, none⟩ :: rest) E H Q :=
  o_call hx hf hs rfl fun v L' ⟨h1, h2⟩ => by subst h1; subst h2; rw [← appO_eq hg]; exact k

/-- A call of which more is known than its value: what it says is taken apart behind it. -/
theorem o_callx {d : Nat} {f : FuncId} {xs : List Operand} {ts : Array TypeId} {ty : TypeId} {pos : String} {af : Array Edge} {args : List Value} {L F : Hp} {R : Value → Hp → Prop} [he : Ent P f]
    (hx : evl E xs = some args) (hf : Does P f args L R) (hs : Split H L F) (hd : Nat.blt d n = true)
    (k : ∀ v Y, R v Y → ∀ G, appO Y F = some G → SO P n ops rest ((d, v) :: E) G Q) : SO P n ops (⟨some d, .call ⟨.value (.func f), xs.toArray, ts⟩, ty, pos, af, none⟩ :: rest) E H Q :=
  o_call hx hf hs hd fun v L' h => by have := k v L' h (L' ++ F) (appO_of _ _); exact this
where
  appO_of : ∀ (Y F : Hp), appO Y F = some (Y ++ F)
    | [], F => rfl
    | x :: Y, F => by simp only [appO, appO_of Y F]; rfl
theorem o_callxn {f : FuncId} {xs : List Operand} {ts : Array TypeId} {ty : TypeId} {pos : String} {af : Array Edge} {args : List Value} {L F : Hp} {R : Value → Hp → Prop} [he : Ent P f]
    (hx : evl E xs = some args) (hf : Does P f args L R) (hs : Split H L F)
    (k : ∀ v Y, R v Y → ∀ G, appO Y F = some G → SO P n ops rest E G Q) : SO P n ops (⟨none, .call ⟨.value (.func f), xs.toArray, ts⟩, ty, pos, af, none⟩ :: rest) E H Q :=
  o_call hx hf hs rfl fun v L' h => by have := k v L' h (L' ++ F) (o_callx.appO_of _ _); exact this

/-! ### A loop, what is known being parted into what it turns and what it doesn't -/
inductive Keep2 (E : Env) : List Nat → Env → Prop
  | nil : Keep2 E [] []
  | cons {i : Nat} {v : Value} {l : List Nat} {F : Env} : fnd E i = some v → Keep2 E l F → Keep2 E (i :: l) ((i, v) :: F)
theorem Keep2.keep {l : List Nat} {F : Env} (h : Keep2 E l F) : Keep E F := by
  induction h with
  | nil => exact .nil
  | cons h _ ih => exact .cons h ih
theorem Keep.append {M F : Env} (h : Keep E M) (k : Keep E F) : Keep E (M ++ F) := by
  induction h with
  | nil => exact k
  | cons h _ ih => exact .cons h ih
theorem s_loop2 {σ : Type} {c : Code} (ks : List Nat) {F : Env} (hF : Keep2 E ks F) (M : σ → Env) (H0 : σ → Hp) (inv : σ → Prop) (μ : σ → Nat) (s0 : σ) (hi : inv s0)
    (hM : Keep E (M s0)) {R : Hp} (hs : Split H (H0 s0) R)
    (round : ∀ s, inv s → SC P n c (M s ++ F) (H0 s) (thn (fun E' H' => ∃ s', inv s' ∧ μ s' < μ s ∧ Keep E' (M s') ∧ Keep E' F ∧ ∃ R', Split H' (H0 s') R') Q)) :
    SC P n (.loop c) E H Q :=
  s_loop (fun s => M s ++ F) H0 inv μ s0 hi (hM.append hF.keep) hs fun s h => (round s h).mono fun e E' H' hq => by
    cases e with
    | normal => obtain ⟨s', h1, h2, h3, h4, h5⟩ := hq; exact ⟨s', h1, h2, h3.append h4, h5⟩
    | _ => exact hq

theorem split_self : ∀ (H : Hp), Split H H []
  | [] => .nil
  | x :: H => .cons .here (split_self H)
/-- Memory is what it was, round by round. -/
theorem s_loop2E {σ : Type} {c : Code} (ks : List Nat) {F : Env} (hF : Keep2 E ks F) (M : σ → Env) (inv : σ → Prop) (μ : σ → Nat) (s0 : σ) (hi : inv s0)
    (hM : Keep E (M s0))
    (round : ∀ s, inv s → SC P n c (M s ++ F) H (thn (fun E' H' => ∃ s', inv s' ∧ μ s' < μ s ∧ Keep E' (M s') ∧ Keep E' F ∧ ∃ R', Split H' H R') Q)) :
    SC P n (.loop c) E H Q := s_loop2 ks hF M (fun _ => H) inv μ s0 hi hM (split_self H) round

/-! ### On, where a piece has come to an end -/
theorem n_K {K : Env → Hp → Prop} (h : K E H) : thn K Q .normal E H := h
theorem n_blk {i : Nat} (h : Q .normal E H) : blk i Q .normal E H := h
theorem r_K {K : Env → Hp → Prop} (h : Q .ret E H) : thn K Q .ret E H := h
theorem r_blk {i : Nat} (h : Q .ret E H) : blk i Q .ret E H := h
theorem x_K {K : Env → Hp → Prop} {i : Nat} (h : Q (.exit i) E H) : thn K Q (.exit i) E H := h
theorem x_blk {i : Nat} (h : Q .normal E H) : blk i Q (.exit i) E H := by simp [blk, h]
theorem x_blk' {i j : Nat} (hn : Nat.beq j i = false) (h : Q (.exit j) E H) : blk i Q (.exit j) E H := by
  have : j ≠ i := fun e => by subst e; simp at hn
  simp [blk, this, h]

/-- Ways that meet again: what is known behind both. -/
theorem s_cut {x y : Code} (F : Env) (L : Hp) (h : SC P n x E H (fun e E' H' => e = .normal ∧ Keep E' F ∧ ∃ R, Split H' L R)) (k : SC P n y F L Q) : SC P n (.seq x y) E H Q :=
  s_seq (h.mono fun e E' H' ⟨h1, h2, R, h3⟩ => by subst h1; exact s_keep h2 h3 k)
/-- The same, what is known hanging on something that is found on the way. -/
theorem s_cutx {x y : Code} (I : Env → Hp → Prop) (h : SC P n x E H (fun e E' H' => e = .normal ∧ ∃ F L, I F L ∧ Keep E' F ∧ ∃ R, Split H' L R)) (k : ∀ F L, I F L → SC P n y F L Q) : SC P n (.seq x y) E H Q :=
  s_seq (h.mono fun e E' H' ⟨h1, F, L, hi, h2, R, h3⟩ => by subst h1; exact s_keep h2 h3 (k F L hi))
end
end Go.K
