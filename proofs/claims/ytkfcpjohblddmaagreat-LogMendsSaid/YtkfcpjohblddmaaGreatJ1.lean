/- What holds of chips, tables, disks and logs, for all of them; the conditions are the statement's own: part 1. -/
import Derived.Test.YtkfcpjohblddmaaGreatJ0
import Derived.Laws.BytesString
import Derived.Laws.Externs
import Derived.Lib.MakeNoZero
import Derived.ProofKit
import Derived.OpenShut
import Derived.Test.YtkfcpjohblddmaaGreatRows
section
/-
  The thin layer, ninth part: append, copy.
-/
namespace Go.K
set_option linter.unusedVariables false
set_option linter.unusedSimpArgs false
section
variable {P : Program} {n : Nat} {E : Env} {H : Hp} {Q : Post} {ops : Array Oper} {rest : List Oper}
/-! ### append -/
theorem growBy_le (newLen : Nat) : ∀ (r c : Nat), Builtin.growBy newLen r c ≤ max c (newLen + (newLen + 768) / 4)
  | 0, c => by simp [Builtin.growBy]; omega
  | r + 1, c => by
    unfold Builtin.growBy
    split
    · omega
    · rename_i h
      have := growBy_le newLen r (c + (c + 768) / 4)
      omega
theorem nextcap_le (need cap : Nat) (h : cap < need) : Builtin.nextslicecap need cap ≤ 2 * need + 1024 := by
  unfold Builtin.nextslicecap
  have := growBy_le need 4 cap
  split
  · omega
  · split <;> omega

/-- Where the cells come from that are appended. -/
def Src (H : Hp) (size : Nat) (v : Value) (m : Nat) (new : List Value) : Prop :=
  (∃ b o c r cs T fr, v = .slice (some ⟨b, o, none⟩) m c ∧ (b, r, CF cs T fr) ∈ H ∧ cut cs o (m * size) = some new) ∨ (∃ p c, v = .slice p m c ∧ m = 0 ∧ new = [])
theorem src_blk {H : Hp} {size b o m c : Nat} {r : Bool} {cs new : List Value} {T : TypeId} {fr : Nat × Nat} (hm : (b, r, CF cs T fr) ∈ H) (hc : cut cs o (m * size) = some new) : Src H size (.slice (some ⟨b, o, none⟩) m c) m new := .inl ⟨b, o, c, r, cs, T, fr, rfl, hm, hc⟩
theorem src_nil {H : Hp} {size c : Nat} {p : Option Addr} : Src H size (.slice p 0 c) 0 [] := .inr ⟨p, c, rfl, rfl, rfl⟩
theorem run_load0 {a : Addr} {w : World} : (loadCells a 0).run P w = .ok (#[] : Array Value) w := by
  have := run_loadCells_list (P := P) w a [] (fun j u hu => by simp at hu)
  simpa using this

theorem run_firstCells {H : Hp} {w : World} {size : Nat} {v : Value} {m : Nat} {new : List Value} (h : HpOk H w) (hs : Src H size v m new) : (Builtin.firstCells size m v).run P w = .ok new.toArray w ∧ (Builtin.lenOf v).run P w = .ok m w ∧ new.length = m * size := by
  rcases hs with ⟨b, o, c, r, cs, T, fr, rfl, hm, hc⟩ | ⟨p, c, rfl, rfl, rfl⟩
  · obtain ⟨h1, h2, h3⟩ := cut_eq cs o _ new hc
    have hl : (loadCells ⟨b, o, none⟩ new.length).run P w = .ok new.toArray w := run_loadCells_list (P := P) w ⟨b, o, none⟩ new (fun j u hu => by
      rw [add_none, cell_C (h.here _ hm), nth_eq]
      subst h1
      rw [List.getElem?_take] at hu
      split at hu
      · simpa using hu
      · cases hu)
    rw [h3] at hl
    exact ⟨by simpa [Builtin.firstCells] using hl, by simp [Builtin.lenOf], h3⟩
  · refine ⟨?_, by simp [Builtin.lenOf], by simp⟩
    cases p with
    | none => simp [Builtin.firstCells]
    | some a => simpa [Builtin.firstCells] using run_load0 (P := P) (a := a) (w := w)

theorem src_one {H : Hp} {w : World} {size : Nat} {v : Value} {m : Nat} {new : List Value} (hs : Src H size v m new) (hc : ∀ x ∈ new, x.oneCell' = true) : True := trivial

/-- A block is no longer known. -/
theorem Trk.drop {w w' : World} {H G F : Hp} {x : Blk} (h : Trk w w' H G) (hp : Pick x G F) : Trk w w' H F :=
  have hperm := hp.perm
  h.sub ((h.ok.perm hperm).right (L := [x])) (fun y hy => hperm.mem_iff.2 (.tail _ hy))

theorem run_choose (w : World) (need cap : Nat) (e : TypeId) : (choose (.appendCap need cap e)).run P w = .ok ((Question.appendCap need cap e).cut (w.tape w.drawn (.appendCap need cap e))) { w with drawn := w.drawn + 1 } := by
  have h : (Question.appendCap need cap e).forced = false := rfl
  simp [choose, Sem.run, h]
theorem run_append_in {H : Hp} {w : World} {t u e ty : TypeId} {sz m l c : Nat} {p : Option Addr} {v : Value} {new : List Value} [ht : Und P t (.slice e)] [hu : Und P u (.slice e)] [hs : Siz P e sz] (h : HpOk H w) (hsrc : Src H sz v m new) (hcase : l + m ≤ c) :
    (Builtin.append_ #[t, u] ty #[.slice p l c, v]).run P w = ((match p with | some a => storeCells (a.add (l * sz)) new | none => pure ()).run P w).andThen fun _ w' => .ok (.slice p (l + m) c) w' := by
  obtain ⟨hf1, hf2, hf3⟩ := run_firstCells (P := P) h hsrc
  cases p <;> simp [Builtin.append_, run_underlying ht.eq, run_underlying hu.eq, run_sizeOf, hf1, hf2, hcase]
theorem run_append_new {H : Hp} {w : World} {t u e ty : TypeId} {sz bs m l c : Nat} {p : Option Addr} {v : Value} {old new zs : List Value} [ht : Und P t (.slice e)] [hu : Und P u (.slice e)] [hz : Zer P e zs] [hs : Siz P e sz] [hby : Byt P e bs]
    (h : HpOk H w) (hsrc : Src H sz v m new) (hold : ∀ k, (Builtin.firstCells sz l (.slice p l c)).run P { w with drawn := k } = .ok old.toArray { w with drawn := k }) (hcase : ¬ l + m ≤ c) (hzl : zs.length = sz) (hbs : 1 ≤ bs) (hroom : (2 * (l + m) + 1024) * bs ≤ 281474976710656) :
    ∃ nc, l + m ≤ nc ∧ (Builtin.append_ #[t, u] ty #[.slice p l c, v]).run P w = .ok (.slice (some ⟨w.heap.size, 0, none⟩) (l + m) nc) { w with heap := w.heap.push (C (old ++ new ++ zrep (nc - (l + m)) zs) e), drawn := w.drawn + 1 } := by
  obtain ⟨hf1, hf2, hf3⟩ := run_firstCells (P := P) h hsrc
  obtain ⟨z, hz1, hz2⟩ := run_zeroCells (P := P) (t := e) { w with drawn := w.drawn + 1 }
  have hnew : (Builtin.firstCells sz m v).run P { w with drawn := w.drawn + 1 } = .ok new.toArray { w with drawn := w.drawn + 1 } := (run_firstCells (P := P) (trk_drawn h (w.drawn + 1)).ok hsrc).1
  have hbytes := hby.eq
  refine ⟨(Question.appendCap (l + m) c e).cut (w.tape w.drawn (.appendCap (l + m) c e)), by simp only [Question.cut]; omega, ?_⟩
  generalize hnc : (Question.appendCap (l + m) c e).cut (w.tape w.drawn (.appendCap (l + m) c e)) = nc
  have hzc : Builtin.zeroCells z.cells (nc - (l + m)) = (zrep (nc - (l + m)) zs).toArray := by
    unfold Builtin.zeroCells
    have := zrep_eq (nc - (l + m)) z.cells zs hz2
    rw [← this]
    simp [hz2]
  cases hqi : P.info? e with
  | none => simp [hqi] at hbytes
  | some inf =>
    have hbb : inf.bytes = bs := by simpa [hqi] using hbytes
    have hbnd : ¬ Builtin.nextslicecap (l + m) c * inf.bytes > 2 ^ 48 := by
      have := nextcap_le (l + m) c (by omega)
      have h6 : Builtin.nextslicecap (l + m) c * inf.bytes ≤ (2 * (l + m) + 1024) * bs := by rw [hbb]; exact Nat.mul_le_mul_right _ this
      omega
    have hb0 : ¬ inf.bytes = 0 := by omega
    have hti : ∀ w' : World, (typeInfo e).run P w' = .ok inf w' := fun w' => by simp [typeInfo, hqi]
    have hfo : (Question.appendCap (l + m) c e).forced = false := rfl
    have hold' : (Builtin.firstCells sz l (.slice p l c)).run P w.drew = .ok old.toArray w.drew := hold _
    have hnew' : (Builtin.firstCells sz m v).run P w.drew = .ok new.toArray w.drew := hnew
    have hz1' : (zeroValue e).run P w.drew = .ok z w.drew := hz1
    simp [Builtin.append_, run_underlying ht.eq, run_underlying hu.eq, run_sizeOf, hf1, hf2, hcase, hti, hb0, hbnd, hfo, hnc, run_askRoom, hold', hnew', hz1', hzc, newRow, C, CF]
    rfl

theorem firstCells_nil {sz : Nat} {w : World} (k : Nat) : (Builtin.firstCells sz 0 (.slice none 0 0)).run P { w with drawn := k } = .ok ([] : List Value).toArray { w with drawn := k } := by simp [Builtin.firstCells]
theorem exec_append {a : Act} {w : World} {d : Option Tmp} {t u : TypeId} {x y : Operand} {ty : TypeId} {pos : String} {af : Array Edge} {gd : Option (Nat × Bool)} {vx vy r : Value} {w' : World} (h1 : a.eval x = vx) (h2 : a.eval y = vy)
    (h : (Builtin.append_ #[t, u] ty #[vx, vy]).run P w = .ok r w') : (execOp a.eval ⟨d, .call ⟨.builtin .append, #[x, y], #[t, u]⟩, ty, pos, af, gd⟩).run P w = .ok (.value r) w' := by
  simp only [execOp, deferred_builtin, Sem.run_bind, Result.andThen_ok, invoke, builtin]
  simp [h1, h2, h]
/-- append onto a slice that the call has to itself, of l elements -/
theorem o_append [rg : Rg] {d : Nat} {t u e : TypeId} {x y : Operand} {ty : TypeId} {pos : String} {af : Array Edge} {b l c m sz bs : Nat} {old spare new zs : List Value} {v : Value} {F : Hp}
    [ht : Und P t (.slice e)] [hu : Und P u (.slice e)] [hz : Zer P e zs] [hs : Siz P e sz] [hby : Byt P e bs]
    (hx : ev E x = some (.slice (some ⟨b, 0, none⟩) l c)) (hy : ev E y = some v) (hp : Pick (b, true, C (old ++ spare) e) H F) (hol : old.length = l * sz) (hcap : (c - l) * sz ≤ spare.length ∧ l ≤ c)
    (hsrc : Src H sz v m new) (h1c : (new.all (·.oneCell')) = true) (hzl : Nat.beq zs.length sz = true) (hbs : Nat.ble 1 bs = true) (hroom : (2 * (l + m) + 1024) * bs ≤ 281474976710656) (hd : Nat.blt d n = true)
    (k : ∀ b' c' (spare' : List Value), (c' - (l + m)) * sz ≤ spare'.length → l + m ≤ c' → SO P n ops rest ((d, .slice (some ⟨b', 0, none⟩) (l + m) c') :: E) ((b', true, C (old ++ new ++ spare') e) :: F) Q) :
    SO P n ops (⟨some d, .call ⟨.builtin .append, #[x, y], #[t, u]⟩, ty, pos, af, none⟩ :: rest) E H Q := by
  intro a w h1 h2 h3 h4
  refine wpList_plain rfl fun K hK => ?_
  have hzl' : zs.length = sz := Nat.eq_of_beq_eq_true hzl
  have hbs' : 1 ≤ bs := Nat.le_of_ble_eq_true hbs
  have hlt : d < a.tmps.size := by rw [h2]; exact Nat.le_of_ble_eq_true hd
  obtain ⟨_, _, hf3⟩ := run_firstCells (P := P) h4 hsrc
  have hmem : (b, true, C (old ++ spare) e) ∈ H := hp.perm.mem_iff.2 (.head _)
  have hall : ∀ z ∈ new, z.oneCell' = true := fun z hz => List.all_eq_true.1 h1c z hz
  have hcut : cut (old ++ spare) 0 (l * sz) = some old := cut_of (by rw [List.drop_zero, ← hol, List.take_left]) (by simp; omega)
  unfold Oper.wp
  by_cases hcase : l + m ≤ c
  · have hsp : splice (old ++ spare) (l * sz) new = some (old ++ new ++ spare.drop new.length) := splice_of (by
      rw [← hol]; simp) (by
      rw [List.length_append, hol, hf3]
      have : l * sz + (c - l) * sz = c * sz := by rw [← Nat.add_mul]; congr 1; omega
      have h2 := Nat.mul_le_mul_right sz hcase
      rw [Nat.add_mul] at h2
      have := hcap.1
      omega)
    have hst : (storeCells ((⟨b, 0, none⟩ : Addr).add (l * sz)) new).run P w = .ok () (setBlk w b (C (old ++ new ++ spare.drop new.length) e)) := by
      obtain ⟨e1, e2⟩ := splice_eq _ _ _ _ hsp
      have hst := run_storeCells_at P b (l * sz) e new 0 (old ++ spare).toArray w (h4.here _ hmem) (by simpa using e2) hall
      rw [add_none, Nat.zero_add, hst, ← setRow_setBlk w b _ (h4.here _ hmem), e1]
      simp
    have hrun := run_append_in (P := P) (t := t) (u := u) (ty := ty) (p := some ⟨b, 0, none⟩) (l := l) (c := c) h4 hsrc hcase
    simp only [hst, Result.andThen_ok] at hrun
    rw [exec_append (ev_ok h1 hx) (ev_ok h1 hy) hrun]
    have hup : ∃ G, Upd b (C (old ++ spare) e) (C (old ++ new ++ spare.drop new.length) e) H G ∧ Pick (b, true, C (old ++ new ++ spare.drop new.length) e) G F := by
      clear hK hrun hst hsp hcut hmem hcase hlt
      generalize hxx : ((b, true, C (old ++ spare) e) : Blk) = xx at hp
      clear k hsrc h4
      induction hp with
      | here => subst hxx; exact ⟨_, .here, .here⟩
      | there _ ih => obtain ⟨G, g1, g2⟩ := ih; exact ⟨_, .there g1, .there g2⟩
    obtain ⟨G, g1, g2⟩ := hup
    have htr := trk_setC h4 g1
    have hG : Trk w (setBlk w b (C (old ++ new ++ spare.drop new.length) e)) H ((b, true, C (old ++ new ++ spare.drop new.length) e) :: F) := htr.sub (htr.ok.perm g2.perm) (fun y hy => g2.perm.mem_iff.2 hy)
    have hlen : (c - (l + m)) * sz ≤ (spare.drop new.length).length := by
      have h2 : (c - (l + m)) * sz = (c - l) * sz - m * sz := by rw [← Nat.sub_mul]; congr 1; omega
      rw [List.length_drop, hf3, h2]
      have := hcap.1
      omega
    exact hK _ _ (wpList_up hG (k b c _ hlen hcase _ _ (h1.put hlt) (by simp [Act.put, h2]) h3 hG.ok))
  · obtain ⟨nc, hnc, hrun⟩ := run_append_new (P := P) (t := t) (u := u) (ty := ty) (p := some ⟨b, 0, none⟩) (l := l) (c := c) (old := old) h4 hsrc (fun k => by
      have ho := trk_drawn h4 k
      exact (run_firstCells (P := P) (H := H) (w := { w with drawn := k }) ho.ok (src_blk (r := true) (cs := old ++ spare) (T := e) hmem hcut)).1) hcase hzl' hbs' hroom
    rw [exec_append (ev_ok h1 hx) (ev_ok h1 hy) hrun]
    have ht' := trk_newC (cs := old ++ new ++ zrep (nc - (l + m)) zs) (T := e) (trk_drawn h4 (w.drawn + 1)).ok
    have htr := (trk_drawn h4 (w.drawn + 1)).trans ht'
    have hG := htr.drop (x := (b, true, C (old ++ spare) e)) (.there hp)
    exact hK _ _ (wpList_up hG (k _ nc _ (by rw [zrep_len, hzl']; exact Nat.le_refl _) hnc _ _ (h1.put hlt) (by simp [Act.put, h2]) h3 hG.ok))
/-- append onto nothing -/
theorem o_append_nil [rg : Rg] {d : Nat} {t u e : TypeId} {x y : Operand} {ty : TypeId} {pos : String} {af : Array Edge} {m sz bs : Nat} {new zs : List Value} {v : Value}
    [ht : Und P t (.slice e)] [hu : Und P u (.slice e)] [hz : Zer P e zs] [hs : Siz P e sz] [hby : Byt P e bs]
    (hx : ev E x = some (.slice none 0 0)) (hy : ev E y = some v) (hsrc : Src H sz v m new) (hm : 1 ≤ m) (hzl : Nat.beq zs.length sz = true) (hbs : Nat.ble 1 bs = true) (hroom : (2 * m + 1024) * bs ≤ 281474976710656) (hd : Nat.blt d n = true)
    (k : ∀ b' c' (spare' : List Value), spare'.length = (c' - m) * sz → m ≤ c' → SO P n ops rest ((d, .slice (some ⟨b', 0, none⟩) m c') :: E) ((b', true, C (new ++ spare') e) :: H) Q) :
    SO P n ops (⟨some d, .call ⟨.builtin .append, #[x, y], #[t, u]⟩, ty, pos, af, none⟩ :: rest) E H Q := by
  intro a w h1 h2 h3 h4
  refine wpList_plain rfl fun K hK => ?_
  have hzl' : zs.length = sz := Nat.eq_of_beq_eq_true hzl
  have hlt : d < a.tmps.size := by rw [h2]; exact Nat.le_of_ble_eq_true hd
  unfold Oper.wp
  obtain ⟨nc, hnc, hrun⟩ := run_append_new (P := P) (t := t) (u := u) (ty := ty) (p := none) (l := 0) (c := 0) (old := []) h4 hsrc (fun k => firstCells_nil k) (by omega) hzl' (Nat.le_of_ble_eq_true hbs) (by simpa using hroom)
  rw [exec_append (ev_ok h1 hx) (ev_ok h1 hy) hrun]
  rw [Nat.zero_add] at hnc
  have ht' := trk_newC (cs := [] ++ new ++ zrep (nc - (0 + m)) zs) (T := e) (trk_drawn h4 (w.drawn + 1)).ok
  have htr := (trk_drawn h4 (w.drawn + 1)).trans ht'
  have hfin := k w.heap.size nc (zrep (nc - m) zs) (by rw [zrep_len, hzl']) hnc
  have e2 : ([] ++ new ++ zrep (nc - (0 + m)) zs) = new ++ zrep (nc - m) zs := by simp
  have e3 : 0 + m = m := Nat.zero_add m
  rw [e2] at htr ⊢
  rw [e3]
  exact hK _ _ (wpList_up htr (hfin _ _ (h1.put hlt) (by simp [Act.put, h2]) h3 htr.ok))
/-- nothing appended onto nothing -/
theorem o_append_nil0 [rg : Rg] {d : Nat} {t u e : TypeId} {x y : Operand} {ty : TypeId} {pos : String} {af : Array Edge} {sz : Nat} {new : List Value} {v : Value}
    [ht : Und P t (.slice e)] [hu : Und P u (.slice e)] [hs : Siz P e sz]
    (hx : ev E x = some (.slice none 0 0)) (hy : ev E y = some v) (hsrc : Src H sz v 0 new) (hd : Nat.blt d n = true)
    (k : SO P n ops rest ((d, .slice none 0 0) :: E) H Q) :
    SO P n ops (⟨some d, .call ⟨.builtin .append, #[x, y], #[t, u]⟩, ty, pos, af, none⟩ :: rest) E H Q := by
  intro a w h1 h2 h3 h4
  refine wpList_plain rfl fun K hK => ?_
  have hlt : d < a.tmps.size := by rw [h2]; exact Nat.le_of_ble_eq_true hd
  unfold Oper.wp
  have hrun := run_append_in (P := P) (t := t) (u := u) (ty := ty) (p := none) (l := 0) (c := 0) h4 hsrc (by omega)
  simp only [Sem.run_pure, Result.andThen_ok] at hrun
  rw [exec_append (ev_ok h1 hx) (ev_ok h1 hy) hrun]
  exact hK _ _ (k _ _ (h1.put hlt) (by simp [Act.put, h2]) h3 h4)
end
end Go.K
end
section
/-
  The thin layer, tenth part: aggregates in one piece.
-/
namespace Go.K
set_option linter.unusedVariables false
section
variable {P : Program} {n : Nat} {E : Env} {H : Hp} {Q : Post} {ops : Array Oper} {rest : List Oper}
theorem o_boxA [rg : Rg] {d : Nat} {t : TypeId} {x : Operand} {ty : TypeId} {pos : String} {af : Array Edge} {cs : List Value} (hx : ev E x = some (.agg cs.toArray)) (hd : Nat.blt d n = true)
    (k : ∀ b, SO P n ops rest ((d, .pointer (some ⟨b, 0, none⟩)) :: E) ((b, true, C cs t) :: H) Q) : SO P n ops (⟨some d, .box t x, ty, pos, af, none⟩ :: rest) E H Q := o_box hx hd k
end
end Go.K
end
section
/-
  The thin layer, twelfth part: calls of function values; bytes of strings.
-/
namespace Go.K
set_option linter.unusedVariables false
set_option linter.unusedSimpArgs false
section
variable {P : Program} {n : Nat} {E : Env} {H : Hp} {Q : Post} {ops : Array Oper} {rest : List Oper}

/-- A call of what a slot holds: a function, what it has caught, what comes first. -/
theorem o_callf [rg : Rg] {d : Nat} {x : Operand} {f : FuncId} {fi ca : List Value} {xs : List Operand} {ts : Array TypeId} {ty : TypeId} {pos : String} {af : Array Edge} {args : List Value} {L F : Hp} {R : Value → Hp → Prop} [he : Ent P f]
    (hg : ev E x = some (.func (.func f) fi.toArray ca.toArray)) (hx : evl E xs = some args) (hf : Does P f (fi ++ args ++ ca) L R) (hs : Split H L F) (hd : Nat.blt d n = true)
    (k : ∀ v L', R v L' → SO P n ops rest ((d, v) :: E) (L' ++ F) Q) : SO P n ops (⟨some d, .call ⟨.value x, xs.toArray, ts⟩, ty, pos, af, none⟩ :: rest) E H Q := by
  intro a w h1 h2 h3 h4
  refine wpList_plain rfl fun K hK => ?_
  have hrun : (execOp a.eval ⟨some d, .call ⟨.value x, xs.toArray, ts⟩, ty, pos, af, none⟩).run P w = .ok (.enter f (fi ++ args ++ ca).toArray) w := by
    have e := evl_ok h1 hx
    have e2 : xs.toArray.map a.eval = args.toArray := by rw [← e]; simp
    simp only [execOp, resolve, Sem.run_bind, ev_ok h1 hg, Deferred.ofValue, Sem.run_pure, Result.andThen_ok, invoke]
    rw [e2]
    have := he.eq (fi ++ args ++ ca).toArray w
    simpa using this
  unfold Oper.wp
  rw [hrun, Oper.upon_enter]
  have hp := hs.perm
  have hok := h4.perm hp
  refine (hf w hok.left).mono ?_
  rintro e w' ⟨v, L', rfl, hR, ht⟩
  have ht' : Trk w w' H (L' ++ F) := (ht.frame hok).perm_left hp.symm
  have hk := k v L' hR
  refine hK _ _ (wpList_up ht' ?_)
  have hlt : d < a.tmps.size := by rw [h2]; exact Nat.le_of_ble_eq_true hd
  exact hk _ _ (h1.put hlt) (by simp [Act.put, h2]) h3 ht'.ok
theorem o_callf_is [rg : Rg] {d : Nat} {x : Operand} {f : FuncId} {fi ca : List Value} {xs : List Operand} {ts : Array TypeId} {ty : TypeId} {pos : String} {af : Array Edge} {args : List Value} {L F Y : Hp} {X : Value} [he : Ent P f]
    (hg : ev E x = some (.func (.func f) fi.toArray ca.toArray)) (hx : evl E xs = some args) (hf : Does P f (fi ++ args ++ ca) L (Is X Y)) (hs : Split H L F) (hd : Nat.blt d n = true) {G : Hp} (hgg : appO Y F = some G)
    (k : SO P n ops rest ((d, X) :: E) G Q) : SO P n ops (⟨some d, .call ⟨.value x, xs.toArray, ts⟩, ty, pos, af, none⟩ :: rest) E H Q :=
  o_callf hg hx hf hs hd fun v L' ⟨h1, h2⟩ => by subst h1; subst h2; rw [← appO_eq hgg]; exact k

/-- makeFunc with what comes first (a method's receiver) and what is caught -/
theorem rd_func2 {f : FuncId} {fi cap : List Operand} {us vs : List (Nat × Value)} (hu : evs E (fi.map (fun x => (0, x))) = some us) (hv : evs E (cap.map (fun x => (0, x))) = some vs) :
    Rd P E H (.makeFunc (.func f) fi.toArray cap.toArray) (.func (.func f) (us.map (·.2)).toArray (vs.map (·.2)).toArray) :=
  fun a w d ty pos af g h1 h2 => by
    have := evs_ok h1 hv
    have e : (cap.map a.eval) = vs.map (·.2) := by rw [← this]; simp
    have := evs_ok h1 hu
    have e2 : (fi.map a.eval) = us.map (·.2) := by rw [← this]; simp
    simp [execOp, Instr.makeFunc, e, e2]

/-- a string's byte -/
theorem rd_ixStr {t : TypeId} {x y : Operand} {k : IntKind} {i : Int} {s : ByteArray} {b : UInt8} [ht : Und P t .string] (hx : ev E x = some (.string s)) (hy : ev E y = some (.int k i)) (h0 : 0 ≤ i) (hb : s[i.toNat]? = some b) : Rd P E H (.index t x y) (.int .u8 b.toNat) :=
  fun a w d ty pos af g h1 h2 => by
    simp [execOp, ev_ok h1 hx, ev_ok h1 hy, Instr.index, asIntOf, run_underlying ht.eq, h0, hb]
end
end Go.K
end
section
/-
  The thin layer, thirteenth part: rows of cells, one behind the other.
-/
namespace Go.K
set_option linter.unusedVariables false

section
variable {α : Type} {f : α → List Value} {n : Nat}
theorem cut_iff {cs : List Value} {o m : Nat} {r : List Value} : cut cs o m = some r ↔ r = (cs.drop o).take m ∧ o + m ≤ cs.length :=
  ⟨fun h => ⟨(cut_eq cs o m r h).1, (cut_eq cs o m r h).2.1⟩, fun h => by rw [h.1]; exact cut_of rfl h.2⟩
theorem row_len : ∀ (l : List α), (∀ x ∈ l, (f x).length = n) → (l.flatMap f).length = l.length * n
  | [], _ => by simp
  | x :: l, h => by
    rw [List.flatMap_cons, List.length_append, row_len l (fun y hy => h y (.tail _ hy)), h x (.head _), List.length_cons, Nat.succ_mul, Nat.add_comm]
theorem row_drop : ∀ (l : List α) (k : Nat) (x : α), (∀ x ∈ l, (f x).length = n) → l[k]? = some x → (l.flatMap f).drop (k * n) = f x ++ (l.drop (k + 1)).flatMap f
  | [], k, x, _, hk => by simp at hk
  | y :: l, 0, x, h, hk => by simp at hk; subst hk; simp
  | y :: l, k + 1, x, h, hk => by
    have ih := row_drop l k x (fun y hy => h y (.tail _ hy)) (by simpa using hk)
    rw [List.flatMap_cons, Nat.succ_mul, Nat.add_comm (k * n) n, ← List.drop_drop]
    have hy := h y (.head _)
    rw [List.drop_append_of_le_length (by omega), ← hy, List.drop_length, List.nil_append, hy, ih]
    simp
theorem nth_row {l : List α} {k o : Nat} {x : α} (h : ∀ x ∈ l, (f x).length = n) (hk : l[k]? = some x) (ho : o < n) : nth (l.flatMap f) (k * n + o) = nth (f x) o := by
  have hx : (f x).length = n := h x (List.mem_of_getElem? hk)
  have := row_drop l k x h hk
  rw [nth_eq, nth_eq, ← List.getElem?_drop, this, List.getElem?_append_left (by omega)]
theorem cut_row {l : List α} {k o m : Nat} {x : α} {r : List Value} (h : ∀ x ∈ l, (f x).length = n) (hk : l[k]? = some x) (hc : cut (f x) o m = some r) : cut (l.flatMap f) (k * n + o) m = some r := by
  have hx : (f x).length = n := h x (List.mem_of_getElem? hk)
  obtain ⟨h1, h2⟩ := cut_iff.1 hc
  have hd := row_drop l k x h hk
  have hlen := row_len l h
  have hkl : k < l.length := (List.getElem?_eq_some_iff.1 hk).1
  refine cut_iff.2 ⟨?_, ?_⟩
  · rw [h1, ← List.drop_drop, hd, List.drop_append_of_le_length (by omega), List.take_append_of_le_length (by simp; omega)]
  · rw [hlen]
    have : (k + 1) * n ≤ l.length * n := Nat.mul_le_mul_right n hkl
    rw [Nat.succ_mul] at this
    omega
theorem set_flat : ∀ (l : List α) (k : Nat) (x y : α), l[k]? = some x → (l.set k y).flatMap f = (l.take k).flatMap f ++ (f y ++ (l.drop (k + 1)).flatMap f)
  | [], k, x, y, h => by simp at h
  | z :: l, 0, x, y, h => by simp
  | z :: l, k + 1, x, y, h => by
    have := set_flat l k x y (by simpa using h)
    simp [this]
theorem flat_at : ∀ (l : List α) (k : Nat) (x : α), l[k]? = some x → l.flatMap f = (l.take k).flatMap f ++ (f x ++ (l.drop (k + 1)).flatMap f)
  | [], k, x, h => by simp at h
  | z :: l, 0, x, h => by simp at h; subst h; simp
  | z :: l, k + 1, x, h => by
    have := flat_at l k x (by simpa using h)
    simp [← this]
theorem splice_app {a b c r : List Value} {o : Nat} (h : splice b o c = some r) (d : List Value) : splice (a ++ (b ++ d)) (a.length + o) c = some (a ++ (r ++ d)) := by
  obtain ⟨h1, h2⟩ := splice_eq _ _ _ _ h
  refine splice_of ?_ (by simp; omega)
  rw [h1]
  rw [List.take_append, List.drop_append, show List.take (a.length + o) a = a from List.take_of_length_le (by omega)]
  have e1 : a.length + o - a.length = o := by omega
  have e2 : List.drop (a.length + o + c.length) a = [] := List.drop_eq_nil_of_le (by omega)
  have e3 : a.length + o + c.length - a.length = o + c.length := by omega
  rw [e1, e2, e3, List.take_append_of_le_length (by omega), List.drop_append_of_le_length (by omega)]
  simp
theorem splice_row {l : List α} {k o : Nat} {x y : α} {vs : List Value} (h : ∀ x ∈ l, (f x).length = n) (hk : l[k]? = some x) (hs : splice (f x) o vs = some (f y)) : splice (l.flatMap f) (k * n + o) vs = some ((l.set k y).flatMap f) := by
  rw [flat_at l k x hk, set_flat l k x y hk]
  have hkl : k < l.length := (List.getElem?_eq_some_iff.1 hk).1
  have : ((l.take k).flatMap f).length = k * n := by
    rw [row_len (n := n) _ (fun z hz => h z (List.mem_of_mem_take hz)), List.length_take, Nat.min_eq_left (by omega)]
  rw [← this]
  exact splice_app hs _
theorem splice_left {b c r : List Value} {o : Nat} (h : splice b o c = some r) (d : List Value) : splice (b ++ d) o c = some (r ++ d) := by
  simpa using splice_app (a := []) h d
theorem splice_right {a c r d : List Value} {o : Nat} (h : splice d o c = some r) : splice (a ++ d) (a.length + o) c = some (a ++ r) := by
  simpa using splice_app (a := a) h []
theorem cut_left {b r : List Value} {o m : Nat} (h : cut b o m = some r) (d : List Value) : cut (b ++ d) o m = some r := by
  obtain ⟨h1, h2⟩ := cut_iff.1 h
  refine cut_iff.2 ⟨?_, by simp; omega⟩
  rw [h1, List.drop_append_of_le_length (by omega), List.take_append_of_le_length (by simp; omega)]
theorem nth_left {b d : List Value} {o : Nat} (h : o < b.length) : nth (b ++ d) o = nth b o := by
  rw [nth_eq, nth_eq, List.getElem?_append_left h]
theorem nth_right {b d : List Value} {o : Nat} : nth (b ++ d) (b.length + o) = nth d o := by
  rw [nth_eq, nth_eq, List.getElem?_append_right (by omega)]
  congr 1; omega
theorem cut_whole (cs : List Value) : cut cs 0 cs.length = some cs := cut_iff.2 ⟨by simp, by omega⟩
theorem splice_whole {cs vs : List Value} (h : vs.length = cs.length) : splice cs 0 vs = some vs := splice_of (by simp [h]) (by omega)
theorem splice_one {β : Type} {g : β → Value} {l : List β} {i : Nat} {y : β} (h : i < l.length) : splice (l.map g) i [g y] = some ((l.set i y).map g) := by
  refine splice_of ?_ (by simp; omega)
  rw [List.map_set]
  simp [List.set_eq_take_append_cons_drop, h]
theorem nth_map {β : Type} {g : β → Value} {l : List β} {i : Nat} : nth (l.map g) i = l[i]?.map g := by rw [nth_eq, List.getElem?_map]
end
end Go.K
end
section
/-
  The thin layer, fourteenth part: pieces of memory that stay shut; slices as such pieces.
-/
namespace Go.K
set_option linter.unusedVariables false
set_option linter.unusedSimpArgs false

/-! ### Pieces -/
theorem Pick.app {x : Blk} {H F : Hp} {L : Hp} (h : Pick x H F) : Pick x (L ++ H) (L ++ F) := by
  induction L with
  | nil => exact h
  | cons y L ih => exact .there ih
/-- A piece is taken out. -/
inductive PickL (L : Hp) : Hp → Hp → Prop
  | here {F : Hp} : PickL L (L ++ F) F
  | last : PickL L L []
  | there {y : Blk} {H F : Hp} : PickL L H F → PickL L (y :: H) (y :: F)
  | app {M H F : Hp} : PickL L H F → PickL L (M ++ H) (M ++ F)
theorem Split.there {y : Blk} {H L F : Hp} (h : Split H L F) : Split (y :: H) L (y :: F) := by
  induction h with
  | nil => exact .nil
  | cons p _ ih => exact .cons (.there p) ih
theorem Split.under {M H L F : Hp} (h : Split H L F) : Split (M ++ H) L (M ++ F) := by
  induction M with
  | nil => exact h
  | cons y M ih => exact ih.there
theorem split_front : ∀ (L F : Hp), Split (L ++ F) L F
  | [], F => .nil
  | x :: L, F => .cons .here (split_front L F)
theorem PickL.split {L H F : Hp} (h : PickL L H F) : Split H L F := by
  induction h with
  | here => exact split_front _ _
  | last => exact split_self _
  | there _ ih => exact ih.there
  | app _ ih => exact ih.under
theorem Split.trans {H L G M F : Hp} (h : Split H L G) (k : Split G M F) : Split H (L ++ M) F := by
  induction h with
  | nil => exact k
  | cons p _ ih => exact .cons p (ih k)
theorem Split.chunk {H L G M F : Hp} (h : PickL L H G) (k : Split G M F) : Split H (L ++ M) F := h.split.trans k
theorem Split.lst {H L F : Hp} (h : PickL L H F) : Split H L F := h.split
theorem PickL.perm {L H F : Hp} (h : PickL L H F) : H.Perm (L ++ F) := h.split.perm
theorem PickL.sub {L H F : Hp} (h : PickL L H F) {x : Blk} (hx : x ∈ L) : x ∈ H := h.perm.mem_iff.2 (List.mem_append_left _ hx)
theorem PickL.nil_eq {L H F : Hp} (h : PickL L H F) (hl : L = []) : H = F := by
  induction h with
  | here => subst hl; rfl
  | last => exact hl
  | there _ ih => rw [ih]
  | app _ ih => rw [ih]
theorem PickL.one {x : Blk} {L H F : Hp} (h : PickL L H F) (hl : L = [x]) : Pick x H F := by
  induction h with
  | here => subst hl; exact .here
  | last => subst hl; exact .here
  | there _ ih => exact .there ih
  | app _ ih => exact .app ih
theorem Upd.app {b : Nat} {o o' : Obj} {H K L : Hp} (h : Upd b o o' H K) : Upd b o o' (L ++ H) (L ++ K) := by
  induction L with
  | nil => exact h
  | cons y L ih => exact .there ih
/-- A piece turns into another one. -/
inductive UpdL (L L' : Hp) : Hp → Hp → Prop
  | here {F : Hp} : UpdL L L' (L ++ F) (L' ++ F)
  | last : UpdL L L' L L'
  | there {y : Blk} {H F : Hp} : UpdL L L' H F → UpdL L L' (y :: H) (y :: F)
  | app {M H F : Hp} : UpdL L L' H F → UpdL L L' (M ++ H) (M ++ F)
theorem UpdL.one {b : Nat} {o o' : Obj} {L L' H K : Hp} (h : UpdL L L' H K) (hl : L = [(b, true, o)]) (hl' : L' = [(b, true, o')]) : Upd b o o' H K := by
  induction h with
  | here => subst hl hl'; exact .here
  | last => subst hl hl'; exact .here
  | there _ ih => exact .there ih
  | app _ ih => exact .app ih

/-- Y ahead of F, in the one form that is searched. -/
inductive Ap : Hp → Hp → Hp → Prop
  | nil {F : Hp} : Ap [] F F
  | cons {x : Blk} {Y F G : Hp} : Ap Y F G → Ap (x :: Y) F (x :: G)
  | app {L Y F G : Hp} : Ap Y F G → Ap (L ++ Y) F (L ++ G)
  | one {L F : Hp} : Ap L F (L ++ F)
theorem Ap.eq {Y F G : Hp} (h : Ap Y F G) : Y ++ F = G := by
  induction h with
  | nil => rfl
  | cons _ ih => rw [← ih]; rfl
  | app _ ih => rw [← ih, List.append_assoc]
  | one => rfl

section
variable {P : Program} {n : Nat} {E : Env} {H : Hp} {Q : Post} {ops : Array Oper} {rest : List Oper}
theorem c_is [rg : Rg] {d : Nat} {f : FuncId} {xs : List Operand} {ts : Array TypeId} {ty : TypeId} {pos : String} {af : Array Edge} {args : List Value} {L F Y : Hp} {X : Value} [he : Ent P f]
    (hx : evl E xs = some args) (hf : Does P f args L (Is X Y)) (hs : Split H L F) (hd : Nat.blt d n = true) {G : Hp} (hg : Ap Y F G)
    (k : SO P n ops rest ((d, X) :: E) G Q) : SO P n ops (⟨some d, .call ⟨.value (.func f), xs.toArray, ts⟩, ty, pos, af, none⟩ :: rest) E H Q :=
  o_call hx hf hs hd fun v L' ⟨h1, h2⟩ => by subst h1; subst h2; rw [hg.eq]; exact k
theorem c_isn [rg : Rg] {f : FuncId} {xs : List Operand} {ts : Array TypeId} {ty : TypeId} {pos : String} {af : Array Edge} {args : List Value} {L F Y : Hp} {X : Value} [he : Ent P f]
    (hx : evl E xs = some args) (hf : Does P f args L (Is X Y)) (hs : Split H L F) {G : Hp} (hg : Ap Y F G)
    (k : SO P n ops rest E G Q) : SO P n ops (⟨none, .call ⟨.value (.func f), xs.toArray, ts⟩, ty, pos, af, none⟩ :: rest) E H Q :=
  o_call hx hf hs rfl fun v L' ⟨h1, h2⟩ => by subst h1; subst h2; rw [hg.eq]; exact k
theorem c_ex [rg : Rg] {d : Nat} {f : FuncId} {xs : List Operand} {ts : Array TypeId} {ty : TypeId} {pos : String} {af : Array Edge} {args : List Value} {L F : Hp} {R : Value → Hp → Prop} [he : Ent P f]
    (hx : evl E xs = some args) (hf : Does P f args L R) (hs : Split H L F) (hd : Nat.blt d n = true)
    (k : ∀ v Y, R v Y → SO P n ops rest ((d, v) :: E) (Y ++ F) Q) : SO P n ops (⟨some d, .call ⟨.value (.func f), xs.toArray, ts⟩, ty, pos, af, none⟩ :: rest) E H Q :=
  o_call hx hf hs hd fun v L' h => k v L' h
theorem c_exn [rg : Rg] {f : FuncId} {xs : List Operand} {ts : Array TypeId} {ty : TypeId} {pos : String} {af : Array Edge} {args : List Value} {L F : Hp} {R : Value → Hp → Prop} [he : Ent P f]
    (hx : evl E xs = some args) (hf : Does P f args L R) (hs : Split H L F)
    (k : ∀ v Y, R v Y → SO P n ops rest E (Y ++ F) Q) : SO P n ops (⟨none, .call ⟨.value (.func f), xs.toArray, ts⟩, ty, pos, af, none⟩ :: rest) E H Q :=
  o_call hx hf hs rfl fun v L' h => k v L' h
theorem c_fis [rg : Rg] {d : Nat} {x : Operand} {f : FuncId} {fi ca : List Value} {xs : List Operand} {ts : Array TypeId} {ty : TypeId} {pos : String} {af : Array Edge} {args : List Value} {L F Y : Hp} {X : Value} [he : Ent P f]
    (hg : ev E x = some (.func (.func f) fi.toArray ca.toArray)) (hx : evl E xs = some args) (hf : Does P f (fi ++ args ++ ca) L (Is X Y)) (hs : Split H L F) (hd : Nat.blt d n = true) {G : Hp} (hgg : Ap Y F G)
    (k : SO P n ops rest ((d, X) :: E) G Q) : SO P n ops (⟨some d, .call ⟨.value x, xs.toArray, ts⟩, ty, pos, af, none⟩ :: rest) E H Q :=
  o_callf hg hx hf hs hd fun v L' ⟨h1, h2⟩ => by subst h1; subst h2; rw [hgg.eq]; exact k
theorem rd_ixS0 {t e : TypeId} {x y : Operand} {b l c sz : Nat} {k : IntKind} {i : Int} [ht : Und P t (.slice e)] [hz : Siz P e sz] (hx : ev E x = some (.slice (some ⟨b, 0, none⟩) l c)) (hy : ev E y = some (.int k i))
    (hi : 0 ≤ i ∧ i < l) : Rd P E H (.indexAddr t x y) (.pointer (some ⟨b, i.toNat * sz, none⟩)) := by
  have := rd_ixS (P := P) (H := H) (t := t) (e := e) (sz := sz) hx hy hi
  rwa [Nat.zero_add] at this
theorem rd_ixA0 {t e : TypeId} {x y : Operand} {b l sz : Nat} {k : IntKind} {i : Int} [ht : Und P t (.array l e)] [hz : Siz P e sz] (hx : ev E x = some (.pointer (some ⟨b, 0, none⟩))) (hy : ev E y = some (.int k i))
    (hi : 0 ≤ i ∧ i < l) : Rd P E H (.indexAddr t x y) (.pointer (some ⟨b, i.toNat * sz, none⟩)) := by
  have := rd_ixA (P := P) (H := H) (t := t) (e := e) (sz := sz) hx hy hi
  rwa [Nat.zero_add] at this
/-- Memory said in other words. -/
theorem so_eq [rg : Rg] {l : List Oper} {G : Hp} (hg : H = G) (k : SO P n ops l E G Q) : SO P n ops l E H Q := by rw [hg]; exact k
theorem so_ap [rg : Rg] {l : List Oper} {Y F G : Hp} (hg : Ap Y F G) (k : SO P n ops l E G Q) : SO P n ops l E (Y ++ F) Q := by rw [hg.eq]; exact k
theorem sc_eq [rg : Rg] {c : Code} {G : Hp} (hg : H = G) (k : SC P n c E G Q) : SC P n c E H Q := by rw [hg]; exact k
theorem does_of {f : FuncId} {args : List Value} {H' : Hp} {R : Value → Hp → Prop} (h : Does P f args H' R) (e : H = H') : Does P f args H R := by rw [e]; exact h
theorem does_perm {f : FuncId} {args : List Value} {H' : Hp} {R : Value → Hp → Prop} (h : Does P f args H' R) (e : H.Perm H') : Does P f args H R :=
  fun w hw => (h w (hw.perm e)).mono fun _ _ ⟨v, K, h1, h2, h3⟩ => ⟨v, K, h1, h2, h3.perm_left e.symm⟩
theorem Does.to {f : FuncId} {args : List Value} {X X' : Value} {Y Y' : Hp} (h : Does P f args H (Is X Y)) (h1 : X = X') (h2 : Y = Y') : Does P f args H (Is X' Y') := by rw [← h1, ← h2]; exact h
end

/-! ### Slices -/
class Cel (α : Type) where
  sz : Nat
  cs : α → List Value
  len : ∀ x, (cs x).length = sz
  one : ∀ x, ((cs x).all (·.oneCell')) = true
instance : Cel Int := ⟨1, fun i => [.int .i64 i], fun _ => rfl, fun _ => rfl⟩
abbrev cells {α : Type} [Cel α] (xs : List α) : List Value := xs.flatMap Cel.cs
theorem cells_len {α : Type} [Cel α] (xs : List α) : (cells xs).length = xs.length * Cel.sz α := row_len xs (fun x _ => Cel.len x)
theorem cells_one {α : Type} [Cel α] (xs : List α) : ((cells xs).all (·.oneCell')) = true := by
  rw [List.all_eq_true]
  intro v hv
  obtain ⟨x, _, hx⟩ := List.mem_flatMap.1 hv
  exact List.all_eq_true.1 (Cel.one x) v hx
/-- What a view of cells shows. -/
def Shows {α : Type} [Cel α] (cs : List Value) (o : Nat) (xs : List α) : Prop := ∀ (i : Nat) (x : α), xs[i]? = some x → cut cs (o + i * Cel.sz α) (Cel.sz α) = some (Cel.cs x)
/-- A slice: none; an empty one that has no room; an empty one that came in; one with a block of its own; a view of a block. -/
inductive Sl (α : Type) [Cel α]
  | nil
  | emp (a : Addr)
  | vac (a : Addr) (cap : Nat)
  | own (b : Nat) (xs : List α) (cap : Nat) (sp : List Value) (h : (cap - xs.length) * Cel.sz α ≤ sp.length ∧ xs.length ≤ cap ∧ xs.length ≤ 9223372036854775807)
  | view (b o : Nat) (r : Bool) (cs : List Value) (T : TypeId) (fr : Nat × Nat) (xs : List α) (cap : Nat) (h : Shows cs o xs ∧ xs.length ≤ cap ∧ xs.length ≤ 9223372036854775807)
namespace Sl
variable {α : Type} [Cel α]
def list : Sl α → List α
  | nil | emp _ | vac _ _ => []
  | own _ xs _ _ _ => xs
  | view _ _ _ _ _ _ xs _ _ => xs
def ptr : Sl α → Option Addr
  | nil => none
  | emp a => some a
  | vac a _ => some a
  | own b _ _ _ _ => some ⟨b, 0, none⟩
  | view b o _ _ _ _ _ _ _ => some ⟨b, o, none⟩
def cap : Sl α → Nat
  | nil | emp _ => 0
  | vac _ c => c
  | own _ _ c _ _ => c
  | view _ _ _ _ _ _ _ c _ => c
def bk : Sl α → Nat
  | nil | emp _ | vac _ _ => 0
  | own b _ _ _ _ => b
  | view b _ _ _ _ _ _ _ _ => b
def off : Sl α → Nat
  | view _ o _ _ _ _ _ _ _ => o
  | _ => 0
def isOwn : Sl α → Bool
  | view .. | vac .. => false
  | _ => true
abbrev val (s : Sl α) : Value := .slice s.ptr s.list.length s.cap
@[irreducible] def hp (T : TypeId) : Sl α → Hp
  | nil | emp _ | vac _ _ => []
  | own b xs _ sp _ => [(b, true, C (cells xs ++ sp) T)]
  | view b _ r cs U fr _ _ _ => [(b, r, CF cs U fr)]
theorem hp_nil (T : TypeId) : (nil : Sl α).hp T = [] := by unfold hp; rfl
theorem hp_emp (T : TypeId) (a : Addr) : (emp a : Sl α).hp T = [] := by unfold hp; rfl
theorem hp_vac (T : TypeId) (a : Addr) (c : Nat) : (vac a c : Sl α).hp T = [] := by unfold hp; rfl
theorem hp_own (T : TypeId) (b : Nat) (xs : List α) (c : Nat) (sp : List Value) (h) : (own b xs c sp h).hp T = [(b, true, C (cells xs ++ sp) T)] := by unfold hp; rfl
theorem hp_view (T : TypeId) (b o : Nat) (r : Bool) (cs : List Value) (U : TypeId) (fr : Nat × Nat) (xs : List α) (c : Nat) (h) : (view b o r cs U fr xs c h).hp T = [(b, r, CF cs U fr)] := by unfold hp; rfl
theorem len_cap (s : Sl α) : s.list.length ≤ s.cap := by
  cases s with
  | nil => exact Nat.le_refl _
  | emp => exact Nat.le_refl _
  | vac => exact Nat.zero_le _
  | own _ _ _ _ h => exact h.2.1
  | view _ _ _ _ _ _ _ _ h => exact h.2.1
theorem small (s : Sl α) : s.list.length ≤ 9223372036854775807 := by
  cases s with
  | nil => exact Nat.zero_le _
  | emp => exact Nat.zero_le _
  | vac => exact Nat.zero_le _
  | own _ _ _ _ h => exact h.2.2
  | view _ _ _ _ _ _ _ _ h => exact h.2.2
/-- Of a slice that holds something: its block. -/
theorem block (s : Sl α) (T : TypeId) (h : 0 < s.list.length) : ∃ r cs U fr, s.hp T = [(s.bk, r, CF cs U fr)] ∧ s.ptr = some ⟨s.bk, s.off, none⟩ ∧ Shows cs s.off s.list := by
  cases s with
  | nil => simp [list] at h
  | emp => simp [list] at h
  | vac => simp [list] at h
  | own b xs c sp h' =>
    refine ⟨true, _, _, _, hp_own T b xs c sp h', rfl, fun i x hx => ?_⟩
    refine cut_left ?_ _
    have := cut_row (f := Cel.cs) (n := Cel.sz α) (l := xs) (k := i) (o := 0) (m := Cel.sz α) (fun x _ => Cel.len x) hx (by have := cut_whole (Cel.cs x); rwa [Cel.len] at this)
    simpa [off] using this
  | view b o r cs U fr xs c h' => exact ⟨r, cs, U, fr, hp_view T b o r cs U fr xs c h', rfl, h'.1⟩
/-- The slice with an element turned. -/
def set (s : Sl α) (i : Nat) (x : α) : Sl α :=
  match s with
  | own b xs c sp h => own b (xs.set i x) c sp (by simpa using h)
  | s => s
theorem set_list (s : Sl α) (i : Nat) (x : α) (h : s.isOwn = true) : (s.set i x).list = s.list.set i x := by
  cases s <;> first | rfl | (simp [isOwn] at h; done) | simp [set, list]
theorem set_isOwn (s : Sl α) (i : Nat) (x : α) (h : s.isOwn = true) : (s.set i x).isOwn = true := by
  cases s <;> first | rfl | simp [isOwn] at h
theorem set_val (s : Sl α) (i : Nat) (x : α) : (s.set i x).val = s.val := by
  cases s <;> first | rfl | simp [val, set, ptr, list, cap]
theorem set_bk (s : Sl α) (i : Nat) (x : α) : (s.set i x).bk = s.bk := by
  cases s <;> rfl
end Sl

section
variable {P : Program} {n : Nat} {E : Env} {H : Hp} {Q : Post} {ops : Array Oper} {rest : List Oper} {α : Type} [Cel α]

/-- x[i]'s address -/
theorem rd_ixSl {t e : TypeId} {x y : Operand} {s : Sl α} {sz : Nat} {k : IntKind} {i : Int} [ht : Und P t (.slice e)] [hz : Siz P e sz] (hx : ev E x = some s.val) (hy : ev E y = some (.int k i))
    (hi : 0 ≤ i ∧ i < s.list.length) : Rd P E H (.indexAddr t x y) (.pointer (some ⟨s.bk, s.off + i.toNat * sz, none⟩)) := by
  obtain ⟨_, _, _, _, _, hp, _⟩ := s.block 0 (by omega)
  refine rd_ixS (b := s.bk) (o := s.off) (l := s.list.length) (c := s.cap) ?_ hy hi
  rw [hx, Sl.val, hp]
/-- a load of a cell of x[i] -/
theorem rd_ldSl {t T : TypeId} {x : Operand} {s : Sl α} {i o : Nat} {z : α} {v : Value} {F : Hp} {p : Nat} [ht : Agg P t false] (hx : ev E x = some (.pointer (some ⟨s.bk, p, none⟩))) (hm : PickL (s.hp T) H F) (hi : s.list[i]? = some z) (hv : nth (Cel.cs z) o = some v)
    (hp : p = s.off + i * Cel.sz α + o) : Rd P E H (.load t x) v := by
  have hlt := (List.getElem?_eq_some_iff.1 hi).1
  obtain ⟨r, cs, U, fr, h1, h2, h3⟩ := s.block T (by omega)
  have h4 := h3 i z hi
  subst hp
  refine rd_ld hx (hm.sub (by rw [h1]; exact .head _)) ?_
  obtain ⟨e1, e2, e3⟩ := cut_eq _ _ _ _ h4
  rw [nth_eq] at hv ⊢
  rw [e1] at hv
  rw [List.getElem?_take, List.getElem?_drop] at hv
  split at hv
  · exact hv
  · cases hv
/-- a load of cells of x[i] -/
theorem cut_cut {a b c : List Value} {o m p q : Nat} (h : cut a o m = some b) (k : cut b p q = some c) : cut a (o + p) q = some c := by
  obtain ⟨h1, h2⟩ := cut_iff.1 h
  obtain ⟨k1, k2⟩ := cut_iff.1 k
  have hl : b.length = m := (cut_eq _ _ _ _ h).2.2
  refine cut_iff.2 ⟨?_, by omega⟩
  rw [k1, h1, List.drop_take, List.drop_drop, List.take_take]
  congr 1
  omega
theorem rd_ldSlA {t T : TypeId} {x : Operand} {s : Sl α} {i o sz : Nat} {z : α} {vs : List Value} {F : Hp} {p : Nat} [ht : Agg P t true] [hz : Siz P t sz] (hx : ev E x = some (.pointer (some ⟨s.bk, p, none⟩))) (hm : PickL (s.hp T) H F) (hi : s.list[i]? = some z) (hv : cut (Cel.cs z) o sz = some vs)
    (hp : p = s.off + i * Cel.sz α + o) : Rd P E H (.load t x) (.agg vs.toArray) := by
  have hlt := (List.getElem?_eq_some_iff.1 hi).1
  obtain ⟨r, cs, U, fr, h1, h2, h3⟩ := s.block T (by omega)
  have h4 := h3 i z hi
  subst hp
  exact rd_ldA hx (hm.sub (by rw [h1]; exact .head _)) (cut_cut h4 hv)
/-- a store into x[i] -/
theorem o_storeSl [rg : Rg] {t T : TypeId} {x y : Operand} {ty : TypeId} {pos : String} {af : Array Edge} {s : Sl α} {i o p : Nat} {v : Value} {vs : List Value} {z z' : α} {H' : Hp}
    (hx : ev E x = some (.pointer (some ⟨s.bk, p, none⟩))) (hy : ev E y = some v) (hu : UpdL (s.hp T) ((s.set i z').hp T) H H') (ho : s.isOwn = true) (hi : s.list[i]? = some z) (hv : vcells v = some vs) {m : Nat} [hz : Siz P t m] (hm : vs.length = m) (hs : splice (Cel.cs z) o vs = some (Cel.cs z'))
    (hp : p = i * Cel.sz α + o) (k : SO P n ops rest E H' Q) : SO P n ops (⟨none, .store t x y, ty, pos, af, none⟩ :: rest) E H Q := by
  subst hp
  cases s with
  | nil => simp [Sl.list] at hi
  | emp => simp [Sl.list] at hi
  | vac => simp [Sl.list] at hi
  | view => simp [Sl.isOwn] at ho
  | own b xs c sp h =>
    have h1 := hu.one (Sl.hp_own T b xs c sp h) (Sl.hp_own T b (xs.set i z') c sp (by simpa using h))
    refine o_store hx hy h1 hv hm ?_ k
    exact splice_left (splice_row (f := Cel.cs) (fun x _ => Cel.len x) hi hs) sp
/-- append -/
theorem shows_cut {cs : List Value} {o : Nat} : ∀ {xs : List α}, Shows cs o xs → 0 < xs.length → cut cs o (xs.length * Cel.sz α) = some (cells xs) := by
  intro xs
  induction xs generalizing o with
  | nil => intro _ h; simp at h
  | cons x xs ih =>
    intro h _
    have h0 := h 0 x rfl
    simp only [Nat.zero_mul, Nat.add_zero] at h0
    have hx := Cel.len (α := α) x
    obtain ⟨a1, a2, a3⟩ := cut_eq _ _ _ _ h0
    by_cases hn : xs = []
    · subst hn
      simpa [cells] using h0
    · have hs : Shows cs (o + Cel.sz α) xs := fun i y hy => by
        have := h (i + 1) y hy
        rwa [Nat.succ_mul, Nat.add_comm (i * _), ← Nat.add_assoc] at this
      have hr := ih hs (List.length_pos_iff.2 hn)
      obtain ⟨b1, b2, b3⟩ := cut_eq _ _ _ _ hr
      refine cut_iff.2 ⟨?_, ?_⟩
      · rw [List.length_cons, Nat.succ_mul, Nat.add_comm (xs.length * _), cells, List.flatMap_cons, a1]
        have : cells xs = ((cs.drop o).drop (Cel.sz α)).take (xs.length * Cel.sz α) := by rw [b1, List.drop_drop]
        rw [show List.flatMap Cel.cs xs = cells xs from rfl, this, ← List.take_add]
      · rw [List.length_cons, Nat.succ_mul]; omega
theorem src_sl {T : TypeId} {s : Sl α} {F : Hp} (hm : PickL (s.hp T) H F) : Src H (Cel.sz α) s.val s.list.length (cells s.list) := by
  by_cases h0 : s.list.length = 0
  · have : s.list = [] := List.length_eq_zero_iff.1 h0
    unfold Sl.val
    rw [this]
    exact src_nil
  · obtain ⟨r, cs, U, fr, h1, h2, h3⟩ := s.block T (by omega)
    rw [Sl.val, h2]
    exact src_blk (r := r) (cs := cs) (T := U) (fr := fr) (hm.sub (by rw [h1]; exact .head _)) (shows_cut h3 (by omega))
theorem firstCells_0 {sz : Nat} {w : World} {p : Option Addr} : (Builtin.firstCells sz 0 (.slice p 0 0)).run P w = .ok ([] : List Value).toArray w := by
  cases p with
  | none => simp [Builtin.firstCells]
  | some a => simpa [Builtin.firstCells] using run_load0 (P := P) (a := a) (w := w)
/-- append onto a slice without room -/
theorem o_append_z [rg : Rg] {d : Nat} {t u e : TypeId} {x y : Operand} {ty : TypeId} {pos : String} {af : Array Edge} {m sz bs : Nat} {new zs : List Value} {v : Value} {p : Option Addr}
    [ht : Und P t (.slice e)] [hu : Und P u (.slice e)] [hz : Zer P e zs] [hs : Siz P e sz] [hby : Byt P e bs]
    (hx : ev E x = some (.slice p 0 0)) (hy : ev E y = some v) (hsrc : Src H sz v m new) (hm : 1 ≤ m) (hzl : Nat.beq zs.length sz = true) (hbs : Nat.ble 1 bs = true) (hroom : (2 * m + 1024) * bs ≤ 281474976710656) (hd : Nat.blt d n = true)
    (k : ∀ b' c' (spare' : List Value), spare'.length = (c' - m) * sz → m ≤ c' → SO P n ops rest ((d, .slice (some ⟨b', 0, none⟩) m c') :: E) ((b', true, C (new ++ spare') e) :: H) Q) :
    SO P n ops (⟨some d, .call ⟨.builtin .append, #[x, y], #[t, u]⟩, ty, pos, af, none⟩ :: rest) E H Q := by
  intro a w h1 h2 h3 h4
  refine wpList_plain rfl fun K hK => ?_
  have hzl' : zs.length = sz := Nat.eq_of_beq_eq_true hzl
  have hlt : d < a.tmps.size := by rw [h2]; exact Nat.le_of_ble_eq_true hd
  unfold Oper.wp
  obtain ⟨nc, hnc, hrun⟩ := run_append_new (P := P) (t := t) (u := u) (ty := ty) (p := p) (l := 0) (c := 0) (old := []) h4 hsrc (fun k => firstCells_0) (by omega) hzl' (Nat.le_of_ble_eq_true hbs) (by simpa using hroom)
  rw [exec_append (ev_ok h1 hx) (ev_ok h1 hy) hrun]
  rw [Nat.zero_add] at hnc
  have ht' := trk_newC (cs := [] ++ new ++ zrep (nc - (0 + m)) zs) (T := e) (trk_drawn h4 (w.drawn + 1)).ok
  have htr := (trk_drawn h4 (w.drawn + 1)).trans ht'
  have hfin := k w.heap.size nc (zrep (nc - m) zs) (by rw [zrep_len, hzl']) hnc
  have e2 : ([] ++ new ++ zrep (nc - (0 + m)) zs) = new ++ zrep (nc - m) zs := by simp
  have e3 : 0 + m = m := Nat.zero_add m
  rw [e2] at htr ⊢
  rw [e3]
  exact hK _ _ (wpList_up htr (hfin _ _ (h1.put hlt) (by simp [Act.put, h2]) h3 htr.ok))
theorem o_append_z0 [rg : Rg] {d : Nat} {t u e : TypeId} {x y : Operand} {ty : TypeId} {pos : String} {af : Array Edge} {sz : Nat} {new : List Value} {v : Value} {p : Option Addr}
    [ht : Und P t (.slice e)] [hu : Und P u (.slice e)] [hs : Siz P e sz]
    (hx : ev E x = some (.slice p 0 0)) (hy : ev E y = some v) (hsrc : Src H sz v 0 new) (hd : Nat.blt d n = true)
    (k : SO P n ops rest ((d, .slice p 0 0) :: E) H Q) :
    SO P n ops (⟨some d, .call ⟨.builtin .append, #[x, y], #[t, u]⟩, ty, pos, af, none⟩ :: rest) E H Q := by
  intro a w h1 h2 h3 h4
  refine wpList_plain rfl fun K hK => ?_
  have hlt : d < a.tmps.size := by rw [h2]; exact Nat.le_of_ble_eq_true hd
  unfold Oper.wp
  have hrun := run_append_in (P := P) (t := t) (u := u) (ty := ty) (p := p) (l := 0) (c := 0) h4 hsrc (by omega)
  have hn : new = [] := List.length_eq_zero_iff.1 (by have := (run_firstCells (P := P) h4 hsrc).2.2; omega)
  subst hn
  have hrun' : (Builtin.append_ #[t, u] ty #[.slice p 0 0, v]).run P w = .ok (.slice p 0 0) w := by
    rw [hrun]
    cases p <;> simp [storeCells]
  rw [exec_append (ev_ok h1 hx) (ev_ok h1 hy) hrun']
  exact hK _ _ (k _ _ (h1.put hlt) (by simp [Act.put, h2]) h3 h4)
theorem o_append_sl [rg : Rg] {d : Nat} {t u e : TypeId} {x y : Operand} {ty : TypeId} {pos : String} {af : Array Edge} {m sz bs : Nat} {s : Sl α} {new : List α} {zs : List Value} {v : Value} {F : Hp}
    [ht : Und P t (.slice e)] [hu : Und P u (.slice e)] [hz : Zer P e zs] [hs : Siz P e sz] [hby : Byt P e bs]
    (hx : ev E x = some s.val) (hy : ev E y = some v) (hp : PickL (s.hp e) H F) (ho : s.isOwn = true) (hsrc : Src H sz v m (cells new)) (hm : new.length = m) (hsz : Nat.beq sz (Cel.sz α) = true)
    (hzl : Nat.beq zs.length sz = true) (hbs : Nat.ble 1 bs = true) (hroom : (2 * (s.list.length + m) + 1024) * bs ≤ 281474976710656) (hd : Nat.blt d n = true)
    (k : ∀ s' : Sl α, s'.list = s.list ++ new → s'.isOwn = true → SO P n ops rest ((d, s'.val) :: E) (s'.hp e ++ F) Q) :
    SO P n ops (⟨some d, .call ⟨.builtin .append, #[x, y], #[t, u]⟩, ty, pos, af, none⟩ :: rest) E H Q := by
  have hsm : s.list.length + m ≤ 9223372036854775807 := by
    have h1 := Nat.le_mul_of_pos_right (2 * (s.list.length + m) + 1024) (show 0 < bs from Nat.le_of_ble_eq_true hbs)
    omega
  have hsz' : sz = Cel.sz α := Nat.eq_of_beq_eq_true hsz
  have hz : ∀ (p : Option Addr), s.val = .slice p 0 0 → s.list = [] → s.hp e = [] → s.isOwn = true → SO P n ops (⟨some d, .call ⟨.builtin .append, #[x, y], #[t, u]⟩, ty, pos, af, none⟩ :: rest) E H Q := by
    intro p hv hl hh how
    have hHF : H = F := hp.nil_eq hh
    rw [hv] at hx
    rw [hl] at hroom
    by_cases h0 : m = 0
    · subst h0
      have hn : new = [] := List.length_eq_zero_iff.1 hm
      refine o_append_z0 hx hy hsrc hd ?_
      have := k s (by rw [hn]; simp) how
      rw [hh, hv, List.nil_append, ← hHF] at this
      exact this
    · refine o_append_z hx hy hsrc (by omega) hzl hbs (by simpa using hroom) hd (fun b c sp h1 h2 => ?_)
      have := k (.own b new c sp ⟨by rw [h1, hm, hsz']; exact Nat.le_refl _, by omega, by omega⟩) (by rw [hl]; rfl) rfl
      rw [Sl.hp_own, ← hHF] at this
      simpa [Sl.val, Sl.ptr, Sl.list, Sl.cap, hm] using this
  cases s with
  | nil => exact hz none rfl rfl (Sl.hp_nil e) rfl
  | emp a => exact hz (some a) rfl rfl (Sl.hp_emp e a) rfl
  | view => simp [Sl.isOwn] at ho
  | vac => simp [Sl.isOwn] at ho
  | own b xs c sp h =>
    refine o_append (old := cells xs) (spare := sp) (l := xs.length) (c := c) hx hy (hp.one (Sl.hp_own ..)) (by rw [cells_len, hsz']) (by rw [hsz']; exact ⟨h.1, h.2.1⟩) hsrc (cells_one new) hzl hbs hroom hd (fun b' c' sp' h1 h2 => ?_)
    have := k (.own b' (xs ++ new) c' sp' ⟨by rw [List.length_append, hm, ← hsz']; exact h1, by rw [List.length_append]; omega, by rw [List.length_append, hm]; exact hsm⟩) rfl rfl
    rw [Sl.hp_own] at this
    simpa [Sl.val, Sl.ptr, Sl.list, Sl.cap, hm, cells] using this
end
end Go.K
end
section
/-
  The thin layer, fifteenth part: bytes; copies, parts of slices, buffers, strings of bytes.
-/
namespace Go.K
set_option linter.unusedVariables false
set_option linter.unusedSimpArgs false

abbrev By := BitVec 8
def bv (x : By) : Value := .int .u8 x.toNat
instance : Cel By := ⟨1, fun x => [bv x], fun _ => rfl, fun _ => rfl⟩
theorem cells_by (xs : List By) : cells xs = xs.map bv := by
  induction xs with
  | nil => rfl
  | cons x xs ih => simp only [cells, List.flatMap_cons, List.map_cons] at *; rw [ih]; rfl
/-- A whole number of 64 bits. -/
abbrev Wd := BitVec 64
def wv (x : Wd) : Value := .int .u64 x.toNat
instance : Cel Wd := ⟨1, fun x => [wv x], fun _ => rfl, fun _ => rfl⟩
instance {α : Type} [Cel α] : Cel (Sl α) := ⟨1, fun s => [s.val], fun _ => rfl, fun _ => rfl⟩

/-- All that stands in one stands in the other. -/
def Sub (L H : Hp) : Prop := ∀ x ∈ L, x ∈ H
theorem PickL.toSub {L H F : Hp} (h : PickL L H F) : Sub L H := fun _ hx => h.sub hx
theorem Sub.trans {L M H : Hp} (h : Sub L M) (k : Sub M H) : Sub L H := fun x hx => k x (h x hx)

theorem take_get {α : Type} {xs : List α} {k i : Nat} {x : α} (h : (xs.take k)[i]? = some x) : xs[i]? = some x := by
  rw [List.getElem?_take] at h
  split at h
  · exact h
  · cases h
namespace Sl
variable {α : Type} [Cel α]
theorem nil_of (s : Sl α) (h : s.ptr.isNone = true) : s = .nil := by
  cases s <;> first | rfl | (simp [ptr] at h)
theorem shows (s : Sl α) (T : TypeId) (h : 0 < s.list.length) : ∃ r cs U fr, s.hp T = [(s.bk, r, CF cs U fr)] ∧ s.ptr = some ⟨s.bk, s.off, none⟩ ∧ Shows cs s.off s.list := s.block T h
theorem own_shows {xs : List α} {sp : List Value} : Shows (cells xs ++ sp) 0 xs := fun i x hx => by
  refine cut_left ?_ _
  have := cut_row (f := Cel.cs) (n := Cel.sz α) (l := xs) (k := i) (o := 0) (m := Cel.sz α) (fun x _ => Cel.len x) hx (by have := cut_whole (Cel.cs x); rwa [Cel.len] at this)
  simpa using this
/-- x[:k] -/
def take (s : Sl α) (k : Nat) (T : TypeId) : Sl α :=
  match s with
  | nil => nil
  | emp a => emp a
  | vac a c => vac a c
  | own b xs c sp h => view b 0 true (cells xs ++ sp) T (0, 0) (xs.take k) c ⟨fun i x hx => own_shows i x (take_get hx), by have := h.2.1; rw [List.length_take]; omega, by have := h.2.2; rw [List.length_take]; omega⟩
  | view b o r cs U fr xs c h => view b o r cs U fr (xs.take k) c ⟨fun i x hx => h.1 i x (take_get hx), by have := h.2.1; rw [List.length_take]; omega, by have := h.2.2; rw [List.length_take]; omega⟩
theorem take_list (s : Sl α) (k : Nat) (T : TypeId) : (s.take k T).list = s.list.take k := by cases s <;> simp [take, list]
theorem take_hp (s : Sl α) (k : Nat) (T : TypeId) : (s.take k T).hp T = s.hp T := by
  cases s
  · rfl
  · rfl
  · rfl
  · simp only [take, hp_view, hp_own]
  · simp only [take, hp_view]
theorem take_ptr (s : Sl α) (k : Nat) (T : TypeId) : (s.take k T).ptr = s.ptr := by cases s <;> rfl
theorem take_cap (s : Sl α) (k : Nat) (T : TypeId) : (s.take k T).cap = s.cap := by cases s <;> rfl
theorem shows_drop {cs : List Value} {o : Nat} {xs : List α} (h : Shows cs o xs) (k : Nat) : Shows cs (o + k * Cel.sz α) (xs.drop k) := fun i x hx => by
  rw [List.getElem?_drop] at hx
  have := h (k + i) x hx
  rwa [Nat.add_mul, ← Nat.add_assoc] at this
/-- x[k:] -/
def drop (s : Sl α) (k : Nat) (T : TypeId) : Sl α :=
  match s with
  | nil => nil
  | emp a => emp a
  | vac a c => vac (if c = k then a else a.add (k * Cel.sz α)) (c - k)
  | own b xs c sp h => view b (if c = k then 0 else k * Cel.sz α) true (cells xs ++ sp) T (0, 0) (xs.drop k) (c - k) ⟨by
      split
      · rename_i hc; intro i x hx; rw [List.drop_of_length_le (by have := h.2.1; omega)] at hx; cases hx
      · have := shows_drop (own_shows (xs := xs) (sp := sp)) k; rwa [Nat.zero_add] at this, by have := h.2.1; rw [List.length_drop]; omega, by have := h.2.2; rw [List.length_drop]; omega⟩
  | view b o r cs U fr xs c h => view b (if c = k then o else o + k * Cel.sz α) r cs U fr (xs.drop k) (c - k) ⟨by
      split
      · rename_i hc; intro i x hx; rw [List.drop_of_length_le (by have := h.2.1; omega)] at hx; cases hx
      · exact shows_drop h.1 k, by have := h.2.1; rw [List.length_drop]; omega, by have := h.2.2; rw [List.length_drop]; omega⟩
theorem drop_list (s : Sl α) (k : Nat) (T : TypeId) : (s.drop k T).list = s.list.drop k := by
  cases s <;> simp only [drop, list, List.drop_nil]
theorem drop_hp (s : Sl α) (k : Nat) (T : TypeId) : (s.drop k T).hp T = s.hp T := by
  cases s
  · rfl
  · rfl
  · simp only [drop, hp_vac]
  · simp only [drop, hp_view, hp_own]
  · simp only [drop, hp_view]
theorem drop_cap (s : Sl α) (k : Nat) (T : TypeId) (h : k ≤ s.cap) : (s.drop k T).cap = s.cap - k := by
  cases s <;> simp [drop, cap] at *
theorem drop_ptr (s : Sl α) (k : Nat) (T : TypeId) (h : k ≤ s.cap) : (s.drop k T).ptr = if s.cap = k then s.ptr else s.ptr.map (·.add (k * Cel.sz α)) := by
  cases s with
  | nil => simp [drop, ptr]
  | emp a => simp [cap] at h; simp [drop, ptr, cap, h]
  | vac a c => simp only [drop, cap, ptr]; split <;> simp_all
  | own b xs c sp hh => simp only [drop, ptr, cap]; split <;> simp_all [add_none]
  | view b o r cs U fr xs c hh => simp only [drop, ptr, cap]; split <;> simp_all [add_none]
end Sl

section
variable {P : Program} {n : Nat} {E : Env} {H : Hp} {Q : Post} {ops : Array Oper} {rest : List Oper} {α : Type} [Cel α]

theorem rd_ldSub {t T : TypeId} {x : Operand} {s : Sl α} {i o : Nat} {z : α} {v : Value} {p : Nat} [ht : Agg P t false] (hx : ev E x = some (.pointer (some ⟨s.bk, p, none⟩))) (hm : Sub (s.hp T) H) (hi : s.list[i]? = some z) (hv : nth (Cel.cs z) o = some v)
    (hp : p = s.off + i * Cel.sz α + o) : Rd P E H (.load t x) v := by
  have hlt := (List.getElem?_eq_some_iff.1 hi).1
  obtain ⟨r, cs, U, fr, h1, h2, h3⟩ := s.block T (by omega)
  have h4 := h3 i z hi
  subst hp
  refine rd_ld hx (hm _ (by rw [h1]; exact .head _)) ?_
  obtain ⟨e1, e2, e3⟩ := cut_eq _ _ _ _ h4
  rw [nth_eq] at hv ⊢
  rw [e1] at hv
  rw [List.getElem?_take, List.getElem?_drop] at hv
  split at hv
  · exact hv
  · cases hv
theorem src_sub {T : TypeId} {s : Sl α} (hm : Sub (s.hp T) H) : Src H (Cel.sz α) s.val s.list.length (cells s.list) := by
  by_cases h0 : s.list.length = 0
  · have : s.list = [] := List.length_eq_zero_iff.1 h0
    unfold Sl.val
    rw [this]
    exact src_nil
  · obtain ⟨r, cs, U, fr, h1, h2, h3⟩ := s.block T (by omega)
    rw [Sl.val, h2]
    exact src_blk (r := r) (cs := cs) (T := U) (fr := fr) (hm _ (by rw [h1]; exact .head _)) (shows_cut h3 (by omega))

/-- x[:hi], x[lo:], of a slice that is a piece -/
theorem rd_takeSl {t e : TypeId} {x hi : Operand} {s : Sl α} {k : IntKind} {j : Int} [ht : Und P t (.slice e)] {sz : Nat} [hz : Siz P e sz] (T : TypeId) (hx : ev E x = some s.val) (hhi : ev E hi = some (.int k j)) (hb : 0 ≤ j ∧ j ≤ s.list.length) :
    Rd P E H (.slice t x none (some hi) none) (s.take j.toNat T).val := by
  have h1 := s.len_cap
  have := rd_sliceHi (P := P) (H := H) (t := t) (e := e) (sz := sz) hx hhi (by omega)
  unfold Sl.val
  rw [Sl.take_ptr, Sl.take_cap, Sl.take_list, List.length_take, Nat.min_eq_left (by omega)]
  exact this
theorem rd_dropSl {t e : TypeId} {x lo : Operand} {s : Sl α} {k : IntKind} {i : Int} [ht : Und P t (.slice e)] {sz : Nat} [hz : Siz P e sz] (T : TypeId) (hx : ev E x = some s.val) (hlo : ev E lo = some (.int k i)) (hb : 0 ≤ i ∧ i ≤ s.list.length) (hsz : sz = Cel.sz α) :
    Rd P E H (.slice t x (some lo) none none) (s.drop i.toNat T).val := by
  subst hsz
  have h1 := s.len_cap
  have := rd_sliceLo (P := P) (H := H) (t := t) (e := e) (sz := Cel.sz α) hx hlo hb
  unfold Sl.val
  rw [Sl.drop_ptr _ _ _ (by omega), Sl.drop_cap _ _ _ (by omega), Sl.drop_list, List.length_drop]
  exact this
/-- x[:hi:max] -/
theorem rd_slice3 {t e : TypeId} {x hi mx : Operand} {p : Option Addr} {l c sz : Nat} {k k' : IntKind} {j m : Int} [ht : Und P t (.slice e)] [hz : Siz P e sz] (hx : ev E x = some (.slice p l c)) (hhi : ev E hi = some (.int k j)) (hmx : ev E mx = some (.int k' m)) (hb : 0 ≤ j ∧ j ≤ m ∧ m ≤ c) :
    Rd P E H (.slice t x none (some hi) (some mx)) (.slice p j.toNat m.toNat) :=
  fun a w d ty pos af g h1 h2 => by
    have e1 : 0 ≤ m ∧ m ≤ (c : Int) := by omega
    have e2 : 0 ≤ j ∧ j ≤ (m.toNat : Int) := by omega
    cases p <;> simp [execOp, ev_ok h1 hx, ev_ok h1 hhi, ev_ok h1 hmx, Instr.sliceAt, Instr.slice, run_underlying ht.eq, Instr.sliceBounds, run_bound e1, run_bound e2, run_sizeOf, add_none, Addr.add]
theorem rd_slice3L {t e : TypeId} {x lo hi mx : Operand} {p : Option Addr} {l c sz : Nat} {k k' k2 : IntKind} {i j m : Int} [ht : Und P t (.slice e)] [hz : Siz P e sz] (hx : ev E x = some (.slice p l c)) (hlo : ev E lo = some (.int k2 i)) (hhi : ev E hi = some (.int k j)) (hmx : ev E mx = some (.int k' m)) (hb : 0 ≤ i ∧ i ≤ j ∧ j ≤ m ∧ m ≤ c) :
    Rd P E H (.slice t x (some lo) (some hi) (some mx)) (.slice (if m.toNat = i.toNat then p else p.map (·.add (i.toNat * sz))) (j.toNat - i.toNat) (m.toNat - i.toNat)) :=
  fun a w d ty pos af g h1 h2 => by
    have e1 : 0 ≤ m ∧ m ≤ (c : Int) := by omega
    have e2 : 0 ≤ j ∧ j ≤ (m.toNat : Int) := by omega
    have e3 : 0 ≤ i ∧ i ≤ (j.toNat : Int) := by omega
    simp [execOp, ev_ok h1 hx, ev_ok h1 hlo, ev_ok h1 hhi, ev_ok h1 hmx, Instr.sliceAt, Instr.slice, run_underlying ht.eq, Instr.sliceBounds, run_bound e1, run_bound e2, run_bound e3, run_sizeOf]
/-- an array's pointer out of a slice -/
theorem rd_s2a {t e : TypeId} {x : Operand} {ad : Addr} {l c n : Nat} [ht : Und P t (.array n e)] (hx : ev E x = some (.slice (some ad) l c)) (hn : n ≤ l) : Rd P E H (.sliceToArrayPointer t x) (.pointer (some ad)) :=
  fun a w d ty pos af g h1 h2 => by
    have : ¬ l < n := by omega
    simp [execOp, ev_ok h1 hx, Instr.arrayAt, run_underlying ht.eq, this]

/-- copy, all of the source having room -/
theorem o_copySrc [rg : Rg] {d : Option Tmp} {t u e : TypeId} {x y : Operand} {ty : TypeId} {pos : String} {af : Array Edge} {b o dl dc m sz : Nat} {v : Value} {cs cs' new : List Value} {T : TypeId} {H' : Hp} [ht : Und P t (.slice e)] [hs : Siz P e sz]
    (hx : ev E x = some (.slice (some ⟨b, o, none⟩) dl dc)) (hy : ev E y = some v) (hsrc : Src H sz v m new) (hml : m ≤ dl) (hu : Upd b (C cs T) (C cs' T) H H')
    (hsp : splice cs o new = some cs') (h1c : (new.all (·.oneCell')) = true) (hd : (match d with | some d => Nat.blt d n | none => true) = true)
    (k : SO P n ops rest (match d with | some d => (d, .int .i64 (m : Nat)) :: E | none => E) H' Q) : SO P n ops (⟨d, .call ⟨.builtin .copy, #[x, y], #[t, u]⟩, ty, pos, af, none⟩ :: rest) E H Q := by
  intro a w h1 h2 h3 h4
  refine wpList_plain rfl fun K hK => ?_
  obtain ⟨hf1, hf2, hf3⟩ := run_firstCells (P := P) h4 hsrc
  have hst := run_storeCells (P := P) h4 hu hsp (fun z hz => List.all_eq_true.1 h1c z hz)
  have hmin : Nat.min m dl = m := Nat.min_eq_left hml
  have hrun : (execOp a.eval ⟨d, .call ⟨.builtin .copy, #[x, y], #[t, u]⟩, ty, pos, af, none⟩).run P w = .ok (.value (.int .i64 (m : Nat))) (setBlk w b (C cs' T)) := by
    simp only [execOp, deferred_builtin, Sem.run_bind, Result.andThen_ok, invoke, builtin]
    simp [ev_ok h1 hx, ev_ok h1 hy, Builtin.copy_, run_underlying ht.eq, hf1, hf2, hmin, run_sizeOf, hst, goInt]
  unfold Oper.wp
  rw [hrun]
  have htr := trk_setC h4 hu
  refine hK _ _ (wpList_up htr ?_)
  cases d with
  | none => exact k _ _ h1 h2 h3 htr.ok
  | some d =>
    have hlt : d < a.tmps.size := by rw [h2]; exact Nat.le_of_ble_eq_true hd
    exact k _ _ (h1.put hlt) (by simp [Act.put, h2]) h3 htr.ok

/-- A buffer of bytes, of whatever they are. -/
class Mnz (P : Program) (f : FuncId) (t : outParam TypeId) : Prop where
  eq : ∃ fn ps, P.funcs[f]? = some fn ∧ (fn.name == "runtime.NumGoroutine") = false ∧ fn.body.isNone = true ∧ Extern.findNext fn = none ∧ Extern.find fn = some (Extern.BytealgMakeNoZero.makeNoZero ps #[t])
theorem o_mnz [rg : Rg] {d : Nat} {f : FuncId} {t e : TypeId} {x : Operand} {ts : Array TypeId} {ty : TypeId} {pos : String} {af : Array Edge} {m : Nat} [hf : Mnz P f t] [ht : Und P t (.slice e)]
    (hx : ev E x = some (.int .i64 (m : Nat))) (hm : m ≤ 281474976710656) (hd : Nat.blt d n = true)
    (k : ∀ b (cs : List Value), m ≤ cs.length → SO P n ops rest ((d, .slice (some ⟨b, 0, none⟩) m cs.length) :: E) ((b, true, C cs e) :: H) Q) :
    SO P n ops (⟨some d, .call ⟨.value (.func f), #[x], ts⟩, ty, pos, af, none⟩ :: rest) E H Q := by
  intro a w h1 h2 h3 h4
  refine wpList_plain rfl fun K hK => ?_
  obtain ⟨fn, ps, f1, f2, f3, f4, f5⟩ := hf.eq
  obtain ⟨cs, hr, hle, _⟩ := Lib.run_makeNoZero (P := P) w ps t e ht.eq m hm
  have hrun : (execOp a.eval ⟨some d, .call ⟨.value (.func f), #[x], ts⟩, ty, pos, af, none⟩).run P w = .ok (.value (.slice (some ⟨w.heap.size, 0, none⟩) m cs.size)) (w.drew.drew.alloc (.cells cs e)) := by
    simp only [execOp, resolve, Act.eval, Sem.run_bind, Deferred.ofValue, Sem.run_pure, Result.andThen_ok, invoke]
    have hxx := ev_ok h1 hx
    have e1 : (#[x].map a.eval ++ #[]) = #[.int .i64 (m : Nat)] := by simp [hxx]
    simp only [List.map_toArray, List.map_cons, List.map_nil, hxx] at e1 ⊢
    have := run_callFunc_extern (P := P) f1 f2 f3 f4 f5 #[.int .i64 (m : Nat)] w
    rw [hr] at this
    simpa using this
  unfold Oper.wp
  rw [hrun]
  have hlt : d < a.tmps.size := by rw [h2]; exact Nat.le_of_ble_eq_true hd
  have t0 := (trk_drawn h4 (w.drawn + 1)).trans (trk_drawn (trk_drawn h4 (w.drawn + 1)).ok (w.drawn + 1 + 1))
  have t1 : Trk w (w.drew.drew.alloc (.cells cs e)) H ((w.heap.size, true, C cs.toList e) :: H) := by
    have := t0.trans (trk_newC (cs := cs.toList) (T := e) t0.ok)
    exact this
  have := k w.heap.size cs.toList (by simpa using hle)
  refine hK _ _ (wpList_up t1 ?_)
  have h := this (a.put (some d) (.slice (some ⟨w.heap.size, 0, none⟩) m cs.size)) (w.drew.drew.alloc (.cells cs e)) ?_ (by simp [Act.put, h2]) h3 t1.ok
  · exact h
  · simpa using h1.put (v := .slice (some ⟨w.heap.size, 0, none⟩) m cs.size) hlt

/-- A string of bytes. -/
def bstr (xs : List By) : ByteArray := xs.foldl (fun r x => r.push (UInt8.ofNat x.toNat)) ByteArray.empty
theorem bstr_data (xs : List By) : (bstr xs).data.toList = xs.map fun x => UInt8.ofNat x.toNat := by
  have : ∀ (xs : List By) (r : ByteArray), (xs.foldl (fun r x => r.push (UInt8.ofNat x.toNat)) r).data.toList = r.data.toList ++ xs.map fun x => UInt8.ofNat x.toNat := by
    intro xs
    induction xs with
    | nil => intro r; simp
    | cons x xs ih => intro r; simp only [List.foldl_cons, ih, List.map_cons]; simp [ByteArray.push]
  have h := this xs ByteArray.empty
  rw [show (ByteArray.empty).data.toList = [] from rfl, List.nil_append] at h
  exact h
theorem bstr_inj {xs ys : List By} (h : bstr xs = bstr ys) : xs = ys := by
  have h1 := bstr_data xs
  rw [h, bstr_data ys] at h1
  have hi : ∀ x y : By, UInt8.ofNat x.toNat = UInt8.ofNat y.toNat → x = y := fun x y h => by
    have := congrArg UInt8.toNat h
    simp only [UInt8.toNat_ofNat'] at this
    have hx := x.isLt
    have hy := y.isLt
    apply BitVec.eq_of_toNat_eq
    omega
  have : ∀ (xs ys : List By), ys.map (fun x => UInt8.ofNat x.toNat) = xs.map (fun x => UInt8.ofNat x.toNat) → xs = ys := by
    intro xs
    induction xs with
    | nil => intro ys h; cases ys <;> simp at h; rfl
    | cons x xs ih =>
      intro ys h
      cases ys with
      | nil => simp at h
      | cons y ys =>
        simp only [List.map_cons, List.cons.injEq] at h
        rw [hi _ _ h.1, ih ys h.2]
  exact this xs ys h1
theorem rd_bytesStr {s t e T : TypeId} {x : Operand} {v : Sl By} [hs : Und P s (.slice e)] [he : Und P e (.int .u8)] [ht : Und P t .string] (hx : ev E x = some v.val) (hm : Sub (v.hp T) H) : Rd P E H (.convert s t x) (.string (bstr v.list)) :=
  fun a w d ty pos af g h1 h2 => by
    have hsrc := src_sub hm
    simp only [execOp, ev_ok h1 hx, Sem.run_bind]
    have hc : (convert s t v.val).run P w = .ok (.string (bstr v.list)) w := by
      rw [Sl.val, run_convert_bytes_string w s t e _ _ _ hs.eq he.eq ht.eq]
      cases hp : v.ptr with
      | none =>
        have := Sl.nil_of v (by rw [hp]; rfl)
        subst this
        simp [Conv.bytesToString, Sl.list, bstr]
      | some ad =>
        have hf := (run_firstCells (P := P) h2 hsrc).1
        rw [Sl.val, hp] at hf
        have hl : (loadCells ad v.list.length).run P w = .ok ((v.list.map fun x => (x.toNat : Int)).map (Value.int .u8)).toArray w := by
          have e1 : v.list.length * 1 = v.list.length := Nat.mul_one _
          have e2 : (v.list.map fun x => (x.toNat : Int)).map (Value.int .u8) = cells v.list := by rw [cells_by, List.map_map]; rfl
          rw [e2]
          simpa [Builtin.firstCells, Cel.sz] using hf
        rw [run_bytesToString w ad _ _ _ hl]
        simp [List.foldl_map, bstr]
    rw [hc]; rfl
theorem bstr_eq (xs ys : List By) : ((bstr xs).toList == (bstr ys).toList) = decide (xs = ys) := by
  by_cases h : xs = ys
  · subst h; simp
  · have h2 : ¬ (bstr xs).toList = (bstr ys).toList := fun e => h (bstr_inj (by
      rw [ByteArray.toList_eq, ByteArray.toList_eq] at e
      exact ByteArray.ext (Array.ext' e)))
    simp [h, h2]
theorem rd_eqStr {t u : TypeId} {x y : Operand} {xs ys : List By} (hx : ev E x = some (.string (bstr xs))) (hy : ev E y = some (.string (bstr ys))) : Rd P E H (.binOp .eql t x y u) (.bool (decide (xs = ys))) :=
  fun a w d ty pos af g h1 h2 => by
    rw [← bstr_eq]
    simp only [execOp, ev_ok h1 hx, ev_ok h1 hy, eqGuard, binOp_string_eql]
    simp
end
end Go.K
end
section
/-
  The thin layer, sixteenth part: regions that draw their order, by sets: some operations read no memory, and are taken first; the others in phases, of whatever operations; what a phase leans on may be single cells.
-/
namespace Go.K
set_option linter.unusedVariables false
set_option linter.unusedSimpArgs false

section
variable {P : Program} {n : Nat} {E : Env} {H : Hp} {Q : Post} {ops : Array Oper} {q : Exit → Act → World → Prop}

/-- What is listed stays within L1, and has all that it waits for. -/
structure Inv (ops : Array Oper) (L1 listed : Array Bool) : Prop where
  size : listed.size = ops.size
  closed : ∀ j oj, ops[j]? = some oj → listed.getD j false = true → ∀ e ∈ oj.after, Region.binds .any e = true → listed.getD e.on false = true
  tail : ∀ t, L1.getD t true = false → listed.getD t true = false
theorem getD_setL {l : Array Bool} {i j : Nat} (d : Bool) (h : i ≠ j) : (l.setIfInBounds i true).getD j d = l.getD j d := getD_set_ne d h
theorem Inv.set {L1 listed : Array Bool} {i : Nat} (inv : Inv ops L1 listed) (hi : i ∈ Region.ready .any ops listed) (hin : L1.getD i true = true) : Inv ops L1 (listed.setIfInBounds i true) := by
  obtain ⟨_, oi, hoi, hall⟩ := mem_ready.1 hi
  have hlt : i < listed.size := by rw [inv.size]; exact (Array.getElem?_eq_some_iff.1 hoi).1
  refine ⟨by simp [inv.size], fun j oj hj hl e he hb => ?_, fun t ht => ?_⟩
  · have key : listed.getD e.on false = true := by
      by_cases hij : i = j
      · subst hij
        have : oi = oj := Option.some.inj (hoi.symm.trans hj)
        subst this
        exact hall e he hb
      · rw [getD_set_ne false hij] at hl
        exact inv.closed j oj hj hl e he hb
    by_cases hie : i = e.on
    · rw [← hie]
      simp only [Array.getD_eq_getD_getElem?, Array.getElem?_setIfInBounds, if_true, hlt]
      rfl
    · rw [getD_set_ne false hie]; exact key
  · have hit : i ≠ t := fun e => by rw [e, ht] at hin; cases hin
    rw [getD_set_ne true hit]
    exact inv.tail t ht

def chainB (ops : Array Oper) (L0 L1 : Array Bool) (t : Nat) : Nat → Nat → Bool
  | 0, s => Region.waitsFor .any ops t s
  | f + 1, s => Region.waitsFor .any ops t s || (List.range ops.size).any fun j => !L0.getD j true && L1.getD j false && Region.waitsFor .any ops j s && chainB ops L0 L1 t f j
/-- Whatever isn't in L1 waits till all of L1 is there. -/
def blockB (ops : Array Oper) (L0 L1 : Array Bool) : Bool :=
  (List.range ops.size).all fun t => L1.getD t true || ((List.range ops.size).any fun t' => !L1.getD t' true && Region.waitsFor .any ops t t') || (List.range ops.size).all fun s => L0.getD s true || !L1.getD s true || chainB ops L0 L1 t 5 s
theorem chain_waits {L0 L1 listed : Array Bool} {t : Nat} (inv : Inv ops L1 listed) (ht : t ∈ Region.ready .any ops listed) : ∀ (f s : Nat), chainB ops L0 L1 t f s = true → listed.getD s true = false → False := by
  have direct : ∀ s, Region.waitsFor .any ops t s = true → listed.getD s true = false → False := fun s hw hs => by
    obtain ⟨o, ho, e, he, hb, hon⟩ := Region.waitsFor_spec hw
    obtain ⟨_, ot, hot, hall⟩ := mem_ready.1 ht
    have : o = ot := Option.some.inj (ho.symm.trans hot)
    subst this
    have := hall e he hb
    rw [hon, getD_both hs] at this
    cases this
  intro f
  induction f with
  | zero => intro s h hs; exact direct s h hs
  | succ f ih =>
    intro s h hs
    simp only [chainB, Bool.or_eq_true] at h
    rcases h with h | h
    · exact direct s h hs
    · obtain ⟨j, hj, hj2⟩ := List.any_eq_true.1 h
      simp only [Bool.and_eq_true] at hj2
      obtain ⟨⟨⟨h1, h2⟩, h3⟩, h4⟩ := hj2
      have hju : listed.getD j true = false := by
        obtain ⟨oj, hoj, e, he, hb, hon⟩ := Region.waitsFor_spec h3
        cases hl : listed.getD j false with
        | true =>
          have := inv.closed j oj hoj hl e he hb
          rw [hon, getD_both hs] at this
          cases this
        | false =>
          have : j < listed.size := by rw [inv.size]; exact List.mem_range.1 hj
          exact getD_in this hl
      exact ih j h4 hju
theorem block_waits {L0 L1 listed : Array Bool} (hB : blockB ops L0 L1 = true) (h0 : ∀ i, listed.getD i true = false → L0.getD i true = false) (inv : Inv ops L1 listed) {i : Nat} (hi : L1.getD i true = true) (hun : listed.getD i true = false) :
    ∀ t, L1.getD t true = false → t ∉ Region.ready .any ops listed := by
  intro t ht hr
  obtain ⟨_, ot, hot, hall⟩ := mem_ready.1 hr
  have hts := (Array.getElem?_eq_some_iff.1 hot).1
  have h1 := List.all_eq_true.1 hB t (List.mem_range.2 hts)
  rw [ht, Bool.false_or, Bool.or_eq_true] at h1
  rcases h1 with h1 | h1
  · obtain ⟨t', ht', h2⟩ := List.any_eq_true.1 h1
    simp only [Bool.and_eq_true, Bool.not_eq_true'] at h2
    obtain ⟨o', ho', e, he, hb, hon⟩ := Region.waitsFor_spec h2.2
    have : o' = ot := Option.some.inj (ho'.symm.trans hot)
    subst this
    have h3 := hall e he hb
    rw [hon, getD_both (inv.tail t' h2.1)] at h3
    cases h3
  · have his : i < ops.size := by
      rcases Nat.lt_or_ge i listed.size with h | h
      · rw [inv.size] at h; exact h
      · simp only [Array.getD_eq_getD_getElem?, Array.getElem?_eq_none h] at hun; cases hun
    have h2 := List.all_eq_true.1 h1 i (List.mem_range.2 his)
    rw [h0 i hun, hi, Bool.not_true, Bool.false_or, Bool.false_or] at h2
    exact chain_waits inv hr 5 i h2 hun

/-- Whatever order is picked within L1, T holding behind each, till L. -/
def anyM (P : Program) (ops : Array Oper) (q : Exit → Act → World → Prop) (T : World → Prop) (L1 : Array Bool) (L : Array Bool → Act → World → Prop) : Nat → Array Bool → Act → World → Prop
  | 0, listed, a, w => L listed a w
  | f + 1, listed, a, w =>
    Region.ready .any ops listed ≠ [] ∧ ∀ i ∈ Region.ready .any ops listed, L1.getD i true = true ∧ wpOp P ops q i (fun a' w' => T w' ∧ anyM P ops q T L1 L f (listed.setIfInBounds i true) a' w') a w
variable {T : World → Prop} {L1 : Array Bool} {L : Array Bool → Act → World → Prop}
theorem wpAny_of_M {g : Nat} (hL : ∀ listed a w, L listed a w → wpAny P .any ops q g listed a w) :
    ∀ (f : Nat) (listed : Array Bool) (a : Act) (w : World), anyM P ops q T L1 L f listed a w → wpAny P .any ops q (f + g) listed a w
  | 0, listed, a, w, h => by rw [Nat.zero_add]; exact hL _ _ _ h
  | f + 1, listed, a, w, h => by
    rw [show f + 1 + g = (f + g) + 1 by omega]
    exact ⟨fun h0 => absurd h0 h.1, fun i hi => wpOp_mono (fun a' w' h' => wpAny_of_M hL f _ a' w' h'.2) (h.2 i hi).2⟩
theorem anyM_first {L0 : Array Bool} {i : Nat} {oi : Oper} {v : Value} (hi : ops[i]? = some oi) (hsel : ∀ (j : Nat) (o : Oper) cs b, ops[j]? = some o → o.op ≠ .select cs b)
    (hQ : ∀ c a w, q (.panic c) (a.put oi.dst v) w → q (.panic c) a w) (hB : blockB ops L0 L1 = true) (hik : L1.getD i true = true)
    (hdone : ∀ listed a w, L listed a w → ∀ j ∈ Region.ready .any ops listed, L1.getD j true = false) :
    ∀ (f : Nat) (listed : Array Bool) (a : Act) (w : World), Inv ops L1 listed → (∀ i, listed.getD i true = false → L0.getD i true = false) →
      (∀ j oj, ops[j]? = some oj → j ≠ i → listed.getD j true = false → (∀ e ∈ oj.after, Region.binds .any e = true → e.on ≠ i) → oi.apart ops oj = true) →
      i ∈ Region.ready .any ops listed → YieldsIf P ops T oi v a → T w →
      anyM P ops q T L1 L f (listed.setIfInBounds i true) (a.put oi.dst v) w → anyM P ops q T L1 L (f + 1) listed a w := by
  intro f
  induction f with
  | zero =>
    intro listed a w inv h0 _ hr hy hT H
    have hun := (mem_ready.1 hr).1
    refine ⟨fun h => (by rw [h] at hr; cases hr), fun j hj => ?_⟩
    have hjk : L1.getD j true = true := by
      cases hc : L1.getD j true with
      | true => rfl
      | false => exact absurd hj (block_waits hB h0 inv hik hun j hc)
    refine ⟨hjk, ?_⟩
    by_cases hji : j = i
    · subst hji; exact hy.wpOp hi hT ⟨hT, H⟩
    · have := hdone _ _ _ H j (ready_mono hj hji)
      rw [hjk] at this; cases this
  | succ f ih =>
    intro listed a w inv h0 hfree hr hy hT H
    have hun := (mem_ready.1 hr).1
    refine ⟨fun h => (by rw [h] at hr; cases hr), fun j hj => ?_⟩
    have hjk : L1.getD j true = true := by
      cases hc : L1.getD j true with
      | true => rfl
      | false => exact absurd hj (block_waits hB h0 inv hik hun j hc)
    refine ⟨hjk, ?_⟩
    by_cases hji : j = i
    · subst hji; exact hy.wpOp hi hT ⟨hT, H⟩
    · have h1 := (H.2 j (ready_mono hj hji)).2
      obtain ⟨hjun, oj, hoj, hall⟩ := mem_ready.1 hj
      have hnot : ∀ e ∈ oj.after, Region.binds .any e = true → e.on ≠ i := fun e he hb heq => by
        have h1 := hall e he hb
        rw [heq, getD_both hun] at h1
        cases h1
      have h2 := wpOp_putIf hoj (hfree j oj hoj hji hjun hnot) (fun cs b => hsel i oi cs b hi) (fun cs b => hsel j oj cs b hoj) hQ hy h1
      have hfree' : ∀ m om, ops[m]? = some om → m ≠ i → (listed.setIfInBounds j true).getD m true = false →
          (∀ e ∈ om.after, Region.binds .any e = true → e.on ≠ i) → oi.apart ops om = true := fun m om hm hmi hun hno => by
        refine hfree m om hm hmi ?_ hno
        by_cases hjm : j = m
        · subst hjm; exact hjun
        · rw [getD_set_ne true hjm] at hun; exact hun
      have h0' : ∀ i, (listed.setIfInBounds j true).getD i true = false → L0.getD i true = false := fun m hm => by
        refine h0 m ?_
        by_cases hjm : j = m
        · subst hjm; exact hjun
        · rw [getD_set_ne true hjm] at hm; exact hm
      refine wpOp_mono (fun a' w' h3 => ⟨h3.2.1, ih (listed.setIfInBounds j true) a' w' (inv.set hj hjk) h0' hfree' (ready_mono hr (Ne.symm hji)) h3.1 h3.2.1 ?_⟩) h2
      rw [Array.setIfInBounds_comm _ _ hji]
      exact h3.2.2
theorem unlisted_set {L0 listed : Array Bool} {i : Nat} (h0 : ∀ j, listed.getD j true = false → L0.getD j true = false) : ∀ j, (listed.setIfInBounds i true).getD j true = false → L0.getD j true = false := fun j hj => by
  refine h0 j ?_
  by_cases hij : i = j
  · subst hij
    have : (listed.setIfInBounds i true).getD i true = true := by
      simp only [Array.getD_eq_getD_getElem?, Array.getElem?_setIfInBounds, if_true]
      split <;> rfl
    rw [this] at hj
    cases hj
  · rw [getD_set_ne true hij] at hj; exact hj
/-- A phase's order: each is ready when its turn comes; what reads only is apart from all others that are left. -/
def schM (ops : Array Oper) (L1 : Array Bool) : List (Nat × Bool) → Array Bool → Bool
  | [], listed => listed == L1 && (Region.ready .any ops listed).all fun j => !L1.getD j true
  | (i, false) :: r, listed => L1.getD i true && (Region.ready .any ops listed).contains i && Region.free .any ops listed i && schM ops L1 r (listed.setIfInBounds i true)
  | (i, true) :: r, listed => L1.getD i true && decide (Region.ready .any ops listed = [i]) && schM ops L1 r (listed.setIfInBounds i true)
theorem phase_M {L0 : Array Bool} (hs : Region.noSelect ops = true) (hB : blockB ops L0 L1 = true) (hQ : ∀ c a w, ¬ q (.panic c) a w) {K : Act → World → Prop} :
    ∀ (ord : List (Nat × Bool)) (l : List (Oper × Bool)) (listed : Array Bool) (a : Act) (w : World), Inv ops L1 listed → (∀ i, listed.getD i true = false → L0.getD i true = false) → pickOps ops.toList ord = some l → schM ops L1 ord listed = true → T w → wpX P ops T q K l a w →
      anyM P ops q T L1 (fun listed' a' w' => listed' = L1 ∧ (Region.ready .any ops listed').all (fun j => !L1.getD j true) = true ∧ K a' w') ord.length listed a w
  | [], l, listed, a, w, inv, h0, hp, hc, hT, h => by
    simp only [pickOps, Option.some.injEq] at hp
    subst hp
    simp only [schM, Bool.and_eq_true, beq_iff_eq] at hc
    exact ⟨hc.1, hc.2, h⟩
  | (i, x) :: ord, l, listed, a, w, inv, h0, hp, hc, hT, h => by
    simp only [pickOps] at hp
    cases ho : ops.toList[i]? with
    | none => rw [ho] at hp; cases hp
    | some o =>
      rw [ho] at hp
      cases hp2 : pickOps ops.toList ord with
      | none => simp [hp2] at hp
      | some t =>
        simp only [hp2, Option.some.injEq] at hp
        subst hp
        have ho' : ops[i]? = some o := by simpa using ho
        cases x with
        | false =>
          simp only [schM, Bool.and_eq_true] at hc
          obtain ⟨⟨⟨h1, h2⟩, h3⟩, h4⟩ := hc
          obtain ⟨v, hy, hw⟩ := h
          have hr : i ∈ Region.ready .any ops listed := by simpa using h2
          refine anyM_first ho' (Region.noSelect_spec hs) (fun c a w hh => absurd hh (hQ c _ w)) hB h1 (fun listed a w hh j hj => ?_) _ listed a w inv h0 (Region.free_spec ho' h3) hr hy hT ?_
          · have := List.all_eq_true.1 hh.2.1 j hj
            simpa using this
          · exact phase_M hs hB hQ ord t _ _ _ (inv.set hr h1) (unlisted_set h0) hp2 h4 hT hw
        | true =>
          simp only [schM, Bool.and_eq_true, decide_eq_true_eq] at hc
          obtain ⟨⟨h1, h2⟩, h4⟩ := hc
          have hr : i ∈ Region.ready .any ops listed := by rw [h2]; exact .head _
          refine ⟨fun h0 => (by rw [h0] at hr; cases hr), fun j hj => ?_⟩
          have hji : j = i := by rw [h2] at hj; simpa using hj
          subst hji
          refine ⟨h1, ?_⟩
          unfold wpOp
          simp only [ho']
          simp only [wpX] at h
          split
          · rename_i hw
            rw [if_pos hw] at h
            refine .inl (Oper.wp_mono (fun a' w' hh => ⟨hh.1, phase_M hs hB hQ ord t _ _ _ (inv.set hr h1) (unlisted_set h0) hp2 h4 hh.1 hh.2⟩) h)
          · rename_i hw
            rw [if_neg hw] at h
            exact ⟨hT, phase_M hs hB hQ ord t _ _ _ (inv.set hr h1) (unlisted_set h0) hp2 h4 hT h⟩
/-- One run behind another. -/
theorem anyM_seq {T' : World → Prop} {L1' : Array Bool} {L' : Array Bool → Act → World → Prop} (hk : ∀ i, L1.getD i true = true → L1'.getD i true = true) (hT : ∀ w, T w → T' w) {g : Nat} (hL : ∀ listed a w, L listed a w → anyM P ops q T' L1' L' g listed a w) :
    ∀ (f : Nat) (listed : Array Bool) (a : Act) (w : World), anyM P ops q T L1 L f listed a w → anyM P ops q T' L1' L' (f + g) listed a w
  | 0, listed, a, w, h => by rw [Nat.zero_add]; exact hL _ _ _ h
  | f + 1, listed, a, w, h => by
    rw [show f + 1 + g = (f + g) + 1 by omega]
    exact ⟨h.1, fun i hi => ⟨hk i (h.2 i hi).1, wpOp_mono (fun a' w' h' => ⟨hT _ h'.1, anyM_seq hk hT hL f _ a' w' h'.2⟩) (h.2 i hi).2⟩⟩
def Fin (ops : Array Oper) (q : Exit → Act → World → Prop) : Array Bool → Act → World → Prop := fun listed a w => Region.ready .any ops listed = [] ∧ q .normal a w
abbrev PhM := List (List (Nat × Bool))
def setAll : List (Nat × Bool) → Array Bool → Array Bool
  | [], l => l
  | (i, _) :: r, l => setAll r (l.setIfInBounds i true)
def invB (ops : Array Oper) (L1 listed : Array Bool) : Bool :=
  (listed.size == ops.size) && ((List.range ops.size).all fun j => !listed.getD j false || (match ops[j]? with | some o => o.after.all fun e => !Region.binds .any e || listed.getD e.on false | none => true)) && (L1.size == ops.size) && (List.range ops.size).all fun t => L1.getD t true || !listed.getD t true
def phasesM (ops : Array Oper) : Array Bool → PhM → Bool
  | listed, [] => (Region.ready .any ops listed).isEmpty
  | listed, ord :: r => let L1 := setAll ord listed
    invB ops L1 listed && blockB ops listed L1 && schM ops L1 ord listed && phasesM ops L1 r
def pickM (l : List Oper) : PhM → Option (List (List (Oper × Bool)))
  | [] => some []
  | ord :: r => match pickOps l ord with | some t => (match pickM l r with | some u => some (t :: u) | none => none) | none => none
theorem invB_ok {L1 listed : Array Bool} (h : invB ops L1 listed = true) : Inv ops L1 listed := by
  simp only [invB, Bool.and_eq_true, beq_iff_eq] at h
  obtain ⟨⟨⟨h1, h2⟩, h3⟩, h4⟩ := h
  refine ⟨h1, fun j oj hj hl e he hb => ?_, fun t ht => ?_⟩
  · have hjs := (Array.getElem?_eq_some_iff.1 hj).1
    have := List.all_eq_true.1 h2 j (List.mem_range.2 hjs)
    rw [hl, Bool.not_true, Bool.false_or, hj] at this
    have := Array.all_eq_true_iff_forall_mem.1 this e he
    rw [hb, Bool.not_true, Bool.false_or] at this
    exact this
  · rcases Nat.lt_or_ge t ops.size with hts | hts
    · have := List.all_eq_true.1 h4 t (List.mem_range.2 hts)
      rw [ht, Bool.false_or] at this
      simpa using this
    · simp only [Array.getD_eq_getD_getElem?, Array.getElem?_eq_none (show L1.size ≤ t by omega)] at ht
      cases ht
def sumLen : PhM → Nat
  | [] => 0
  | o :: r => o.length + sumLen r
theorem all_true {i : Nat} (m : Nat) : (Array.replicate m true).getD i true = true := by
  simp only [Array.getD_eq_getD_getElem?, Array.getElem?_replicate]
  split <;> rfl
theorem phasesM_run (hs : Region.noSelect ops = true) (hQ : ∀ c a w, ¬ q (.panic c) a w) :
    ∀ (ph : PhM) (l : List (List (Oper × Bool))) (listed : Array Bool) (a : Act) (w : World), phasesM ops listed ph = true → pickM ops.toList ph = some l → wpPh P ops q l a w → anyM P ops q (fun _ => True) (Array.replicate ops.size true) (Fin ops q) (sumLen ph) listed a w
  | [], l, listed, a, w, hc, hp, h => by
    simp only [pickM, Option.some.injEq] at hp
    subst hp
    simp only [phasesM, List.isEmpty_iff] at hc
    exact ⟨hc, h⟩
  | ord :: ph, l, listed, a, w, hc, hp, h => by
    simp only [pickM] at hp
    cases h1 : pickOps ops.toList ord with
    | none => simp [h1] at hp
    | some t =>
      cases h2 : pickM ops.toList ph with
      | none => simp [h1, h2] at hp
      | some u =>
        simp only [h1, h2, Option.some.injEq] at hp
        subst hp
        simp only [phasesM, Bool.and_eq_true] at hc
        obtain ⟨⟨⟨hinv, hB⟩, hsch⟩, hrest⟩ := hc
        obtain ⟨T, hT, hx⟩ := h
        have hrun := phase_M (P := P) hs hB hQ ord t listed a w (invB_ok hinv) (fun i hi => hi) h1 hsch hT hx
        exact anyM_seq (g := sumLen ph) (L' := Fin ops q) (fun i _ => all_true _) (fun _ _ => trivial) (fun listed a' w' hh => by
          obtain ⟨e, _, hK⟩ := hh
          subst e
          exact phasesM_run hs hQ ph u _ a' w' hrest h2 hK) _ _ _ _ hrun

/-- The ones that read no memory, listed. -/
def preL (ops : Array Oper) : List Nat → Array Bool → Option (Array Bool)
  | [], listed => some listed
  | i :: r, listed => if (Region.ready .any ops listed).contains i && Region.free .any ops listed i then preL ops r (listed.setIfInBounds i true) else none
def pre0 (l : List Nat) : List (Nat × Bool) := l.map fun i => (i, false)
theorem inv_all {listed : Array Bool} (h1 : listed.size = ops.size) (h2 : ∀ j oj, ops[j]? = some oj → listed.getD j false = true → ∀ e ∈ oj.after, Region.binds .any e = true → listed.getD e.on false = true) : Inv ops (Array.replicate ops.size true) listed :=
  ⟨h1, h2, fun t ht => by rw [all_true] at ht; cases ht⟩
theorem pre_M (hs : Region.noSelect ops = true) (hQ : ∀ c a w, ¬ q (.panic c) a w) {K : Act → World → Prop} {g : Nat} {L2 : Array Bool} (hK : ∀ a w, K a w → anyM P ops q (fun _ => True) (Array.replicate ops.size true) (Fin ops q) g L2 a w) :
    ∀ (pre : List Nat) (l : List (Oper × Bool)) (listed : Array Bool) (a : Act) (w : World), Inv ops (Array.replicate ops.size true) listed → pickOps ops.toList (pre0 pre) = some l → preL ops pre listed = some L2 → wpX P ops (fun _ => True) q K l a w →
      anyM P ops q (fun _ => True) (Array.replicate ops.size true) (Fin ops q) (pre.length + g) listed a w
  | [], l, listed, a, w, inv, hp, hc, h => by
    simp only [pre0, List.map_nil, pickOps, Option.some.injEq] at hp
    subst hp
    simp only [preL, Option.some.injEq] at hc
    subst hc
    rw [List.length_nil, Nat.zero_add]
    exact hK _ _ h
  | i :: pre, l, listed, a, w, inv, hp, hc, h => by
    simp only [pre0, List.map_cons, pickOps] at hp
    cases ho : ops.toList[i]? with
    | none => rw [ho] at hp; cases hp
    | some o =>
      rw [ho] at hp
      cases hp2 : pickOps ops.toList (pre.map fun i => (i, false)) with
      | none => simp [hp2] at hp
      | some t =>
        simp only [hp2, Option.some.injEq] at hp
        subst hp
        have ho' : ops[i]? = some o := by simpa using ho
        simp only [preL] at hc
        split at hc
        · rename_i hcc
          simp only [Bool.and_eq_true] at hcc
          obtain ⟨v, hy, hw⟩ := h
          have hr : i ∈ Region.ready .any ops listed := by simpa using hcc.1
          rw [List.length_cons, show pre.length + 1 + g = (pre.length + g) + 1 by omega]
          have hB : blockB ops listed (Array.replicate ops.size true) = true := List.all_eq_true.2 fun t _ => by rw [all_true]; rfl
          refine anyM_first ho' (Region.noSelect_spec hs) (fun c a w hh => absurd hh (hQ c _ w)) hB (all_true _) (fun listed a w hh j hj => by rw [hh.1] at hj; cases hj) _ listed a w inv (fun i hi => hi) (Region.free_spec ho' hcc.2) hr hy trivial ?_
          exact pre_M hs hQ hK pre t _ _ _ (inv.set hr (all_true _)) hp2 hc hw
        · cases hc
end

section
variable {P : Program} {n : Nat} {E : Env} {H : Hp} {Q : Post} {ops : Array Oper}
def SPre [rg : Rg] (P : Program) (n : Nat) (ops : Array Oper) (w0 : World) (H0 : Hp) (Q : Post) (pp : List (Oper × Bool)) (l : List (List (Oper × Bool))) (E : Env) (H : Hp) : Prop :=
  SX P n ops w0 H0 Q [] pp (fun E H => SP P n ops w0 H0 Q l E H) E H
theorem wpX_T0 {T T' : World → Prop} (hT : ∀ w, T w) {q : Exit → Act → World → Prop} {K : Act → World → Prop} : ∀ (l : List (Oper × Bool)) (a : Act) (w : World), (l.all fun o => !o.2) = true → wpX P ops T q K l a w → wpX P ops T' q K l a w
  | [], a, w, _, h => h
  | (o, false) :: r, a, w, hl, ⟨v, hy, h⟩ => by
    simp only [List.all_cons, Bool.and_eq_true] at hl
    exact ⟨v, hy.imp (fun ⟨h1, h2⟩ => ⟨h1, fun w' _ => h2 w' (hT w')⟩) id, wpX_T0 hT r _ _ hl.2 h⟩
  | (o, true) :: r, a, w, hl, h => by simp at hl
theorem pick_pre : ∀ {l : List Oper} {pre : List Nat} {pp : List (Oper × Bool)}, pickOps l (pre0 pre) = some pp → (pp.all fun o => !o.2) = true
  | l, [], pp, h => by simp only [pre0, List.map_nil, pickOps, Option.some.injEq] at h; subst h; rfl
  | l, i :: pre, pp, h => by
    simp only [pre0, List.map_cons, pickOps] at h
    cases ho : l[i]? with
    | none => rw [ho] at h; cases h
    | some o =>
      rw [ho] at h
      cases hp2 : pickOps l (pre.map fun i => (i, false)) with
      | none => simp [hp2] at h
      | some t =>
        simp only [hp2, Option.some.injEq] at h
        subst h
        have := pick_pre (l := l) (pre := pre) hp2
        simp only [List.all_cons, Bool.and_eq_true, this, and_true]
        rfl
def preOk (ops : Array Oper) (pre : List Nat) (ph : PhM) : Bool :=
  decide (pre.length + sumLen ph = ops.size) && match preL ops pre (Array.replicate ops.size false) with | none => false | some L2 => phasesM ops L2 ph
theorem s_drawM [rg : Rg] {id : Nat} {l : List Oper} (Y : List (Nat × Nat)) (pre : List Nat) (ph : PhM) {pp : List (Oper × Bool)} {pl : List (List (Oper × Bool))} [hw : Wide P]
    (hc : (yokB l Y && Region.noSelect l.toArray && preOk l.toArray pre ph) = true) (hpp : pickOps l (pre0 pre) = some pp) (hp : pickM l ph = some pl)
    (h : ∀ ops w0 H0, Yok ops Y → SPre P n ops w0 H0 Q pp pl E H) : SC P n (.region id l.toArray true) E H Q := by
  intro a w h1 h2 h3 h4
  simp only [Bool.and_eq_true] at hc
  obtain ⟨⟨c1, c2⟩, c4⟩ := hc
  refine wpR_region_any hw.eq ?_
  have hy : Yok l.toArray Y := by
    intro j d hm
    have := List.all_eq_true.1 c1 (j, d) hm
    simpa using this
  have hnil : ∀ w' : World, HpOk [] w' := fun w' => ⟨List.Pairwise.nil, fun x hx => by cases hx⟩
  have hrun := h l.toArray w H hy a { w with drawn := w.drawn + 1 } h1 h2 h3 (trk_drawn h4 _) (hnil _)
  simp only [preOk, Bool.and_eq_true, decide_eq_true_eq] at c4
  obtain ⟨d0, c4⟩ := c4
  cases hL : preL l.toArray pre (Array.replicate l.toArray.size false) with
  | none => rw [hL] at c4; cases c4
  | some L2 =>
    rw [hL] at c4
    simp only at c4
    have inv0 : Inv l.toArray (Array.replicate l.toArray.size true) (Array.replicate l.toArray.size false) := inv_all (by simp) (fun j oj hj hl => by
      simp only [Array.getD_eq_getD_getElem?, Array.getElem?_replicate] at hl
      split at hl <;> cases hl)
    have hpre := pre_M (P := P) (q := UpN n w H Q) (g := sumLen ph) (L2 := L2) c2 (fun c a w hh => hh) (K := UpK n w H (fun E' H' => SP P n l.toArray w H Q pl E' H')) (fun a' w' hK => by
      obtain ⟨E', H', k1, k2, k3, k4, k5⟩ := hK
      exact phasesM_run c2 (fun c a w hh => hh) ph pl L2 a' w' c4 (by simpa using hp) (k5 a' w' k1 k2 k3 k4)) pre pp _ a _ inv0 (by simpa using hpp) hL (wpX_T0 hnil pp a _ (pick_pre hpp) hrun)
    rw [d0] at hpre
    have hany := wpAny_of_M (g := 0) (fun listed a w hh => ⟨hh.1, hh.2⟩) _ _ _ _ hpre
    rw [Nat.add_zero] at hany
    refine s_draw.wpAny_post ?_ _ _ _ _ hany
    intro e a w hh
    cases e <;> first | exact hh | exact hh.elim

/-! ### a phase that leans on blocks, and on single cells -/
/-- A cell: block, place, what it holds. -/
abbrev Cl := Nat × Nat × Value
def HoldOk (Hs : Hp) (cl : List Cl) (w : World) : Prop := HpOk Hs w ∧ ∀ x ∈ cl, w.cell? ⟨x.1, x.2.1, none⟩ = some x.2.2
def SXc [rg : Rg] (P : Program) (n : Nat) (ops : Array Oper) (w0 : World) (H0 : Hp) (Q : Post) (Hs : Hp) (cl : List Cl) (l : List (Oper × Bool)) (K : Env → Hp → Prop) (E : Env) (H : Hp) : Prop :=
  ∀ a w, EnvOk E a → a.tmps.size = n → a.defers = rg.ds → Trk w0 w H0 H → HoldOk Hs cl w → wpX P ops (HoldOk Hs cl) (UpN n w0 H0 Q) (UpK n w0 H0 K) l a w
variable {w0 : World} {H0 Hs : Hp} {cl : List Cl} {l : List (Oper × Bool)} {r : List (List (Oper × Bool))} {K : Env → Hp → Prop}
/-- The cells are there. -/
def HasCl (H : Hp) (cl : List Cl) : Prop := ∀ x ∈ cl, ∃ r cs T fr, (x.1, r, CF cs T fr) ∈ H ∧ nth cs x.2.1 = some x.2.2
theorem hasCl_nil : HasCl H [] := fun x hx => by cases hx
theorem hasCl_cons {b o : Nat} {v : Value} {r : Bool} {cs : List Value} {T : TypeId} {fr : Nat × Nat} (hm : (b, r, CF cs T fr) ∈ H) (hv : nth cs o = some v) (h : HasCl H cl) : HasCl H ((b, o, v) :: cl) := fun x hx => by
  cases hx with
  | head => exact ⟨r, cs, T, fr, hm, hv⟩
  | tail _ hx => exact h x hx
theorem hold_of {w : World} {F : Hp} (h : HpOk H w) (hs : Split H Hs F) (hc : HasCl H cl) : HoldOk Hs cl w :=
  ⟨(h.perm hs.perm).left, fun x hx => by
    obtain ⟨r, cs, T, fr, hm, hv⟩ := hc x hx
    rw [cell_C (h.here _ hm)]; exact hv⟩
theorem pc_ph [rg : Rg] (Hs : Hp) (cl : List Cl) {F : Hp} (hs : Split H Hs F) (hc : HasCl H cl) (h : SXc P n ops w0 H0 Q Hs cl l (fun E H => SP P n ops w0 H0 Q r E H) E H) : SP P n ops w0 H0 Q (l :: r) E H :=
  fun a w h1 h2 h3 h4 =>
    have hok := hold_of h4.ok hs hc
    ⟨HoldOk Hs cl, hok, wpX_mono (fun a' w' ⟨E', H', k1, k2, k3, k4, k5⟩ => k5 a' w' k1 k2 k3 k4) l a w (h a w h1 h2 h3 h4 hok)⟩
theorem xc_nil [rg : Rg] (h : K E H) : SXc P n ops w0 H0 Q Hs cl [] K E H := fun a w h1 h2 h3 h4 _ => ⟨E, H, h1, h2, h3, h4, h⟩
theorem xc_rd [rg : Rg] {d : Nat} {op : Op} {ty : TypeId} {pos : String} {af : Array Edge} {v : Value} (hr : Rd P E Hs op v) (hd : Nat.blt d n = true)
    (kk : SXc P n ops w0 H0 Q Hs cl l K ((d, v) :: E) H) : SXc P n ops w0 H0 Q Hs cl ((⟨some d, op, ty, pos, af, none⟩, false) :: l) K E H := by
  intro a w h1 h2 h3 h4 h5
  have hlt : d < a.tmps.size := by rw [h2]; exact Nat.le_of_ble_eq_true hd
  exact ⟨v, .inl ⟨rfl, fun w' hw' => hr a w' (some d) ty pos af none h1 hw'.1⟩, kk _ w (h1.put hlt) (by simp [Act.put, h2]) h3 h4 h5⟩
/-- a load of a cell that is known -/
theorem xc_ld [rg : Rg] {d : Nat} {t : TypeId} {x : Operand} {ty : TypeId} {pos : String} {af : Array Edge} {b o : Nat} {v : Value} [ht : Agg P t false] (hx : ev E x = some (.pointer (some ⟨b, o, none⟩))) (hm : (b, o, v) ∈ cl) (hd : Nat.blt d n = true)
    (kk : SXc P n ops w0 H0 Q Hs cl l K ((d, v) :: E) H) : SXc P n ops w0 H0 Q Hs cl ((⟨some d, .load t x, ty, pos, af, none⟩, false) :: l) K E H := by
  intro a w h1 h2 h3 h4 h5
  have hlt : d < a.tmps.size := by rw [h2]; exact Nat.le_of_ble_eq_true hd
  refine ⟨v, .inl ⟨rfl, fun w' hw' => ?_⟩, kk _ w (h1.put hlt) (by simp [Act.put, h2]) h3 h4 h5⟩
  have := hw'.2 _ hm
  simp only at this
  simp [execOp, ev_ok h1 hx, Instr.loadAt, Instr.sureAddr, loadVar, run_isAgg, this]
theorem xc_so [rg : Rg] {o : Oper} (h : SO P n ops [o] E H (fun e E' H' => e = .normal ∧ (∃ F, Split H' Hs F) ∧ HasCl H' cl ∧ SXc P n ops w0 H0 Q Hs cl l K E' H')) : SXc P n ops w0 H0 Q Hs cl ((o, true) :: l) K E H := by
  intro a w h1 h2 h3 h4 h5
  have hk := h a w h1 h2 h3 h4.ok
  simp only [wpList] at hk
  simp only [wpX]
  have fin : ∀ a' w', Up n w H (fun e E' H' => e = .normal ∧ (∃ F, Split H' Hs F) ∧ HasCl H' cl ∧ SXc P n ops w0 H0 Q Hs cl l K E' H') .normal a' w' → HoldOk Hs cl w' ∧ wpX P ops (HoldOk Hs cl) (UpN n w0 H0 Q) (UpK n w0 H0 K) l a' w' := by
    rintro a' w' ⟨E', H', k1, k2, k3, k4, _, ⟨F, k5⟩, k6, k7⟩
    have hok := hold_of k4.ok k5 k6
    exact ⟨hok, k7 a' w' k1 k2 k3 (h4.trans k4) hok⟩
  split
  · rename_i hw
    rw [if_pos hw] at hk
    rcases hk with hk | ⟨_, a0, w1, E', H', _, _, _, _, hh, _⟩
    · refine oper_mono2 (fun v w' hh => fin _ _ hh) (fun d w' hh => fin _ _ hh) ?_ hk
      rintro e a' w' hne ⟨E', H', _, _, _, k4, k5, k6, k7⟩
      exact absurd k5 hne
    · cases hh
  · rename_i hw
    rw [if_neg hw] at hk
    exact (fin _ _ hk).2
end
end Go.K
end
section
/-
  The row kit: what arguments of flat types read as; a row out of a contract.
-/
namespace Go.K
open Go.ChangeShapes Go.WideShapes Go.ChangeAt Go.RowKit
set_option linter.unusedVariables false
set_option linter.unusedSimpArgs false

/-- A cell is of a kind. -/
def Cf : Kd → Value → Prop
  | some k, v => ∃ n, v = .int k n ∧ (Lit.int k n).wf = true
  | none, v => ∃ b, v = .bool b
def Conf : List Kd → List Value → Prop
  | [], [] => True
  | k :: ks, c :: cs => Cf k c ∧ Conf ks cs
  | _, _ => False
theorem Conf.len : ∀ {ks : List Kd} {cs : List Value}, Conf ks cs → cs.length = ks.length
  | [], [], _ => rfl
  | [], _ :: _, h => h.elim
  | _ :: _, [], h => h.elim
  | k :: ks, c :: cs, h => by simp [Conf.len h.2]
theorem Conf.append : ∀ {k1 k2 : List Kd} {c1 c2 : List Value}, Conf k1 c1 → Conf k2 c2 → Conf (k1 ++ k2) (c1 ++ c2)
  | [], k2, [], c2, _, h => h
  | [], _, _ :: _, _, h, _ => h.elim
  | _ :: _, _, [], _, h, _ => h.elim
  | k :: k1, k2, c :: c1, c2, h, h2 => ⟨h.1, Conf.append h.2 h2⟩
theorem Conf.get : ∀ {ks : List Kd} {cs : List Value}, Conf ks cs → ∀ (i : Nat) (k : Kd), ks[i]? = some k → ∃ v, cs[i]? = some v ∧ Cf k v
  | [], [], _, i, k, h => by simp at h
  | [], _ :: _, h, _, _, _ => h.elim
  | _ :: _, [], h, _, _, _ => h.elim
  | k :: ks, c :: cs, h, 0, k', hk => ⟨c, rfl, by simp at hk; subst hk; exact h.1⟩
  | k :: ks, c :: cs, h, i + 1, k', hk => by simpa using Conf.get h.2 i k' (by simpa using hk)

section
variable {H : Type} {enc : TypeId × Value → H} {P : Program} {w : World} {base : Nat} {spare : Nat → Bool} {held : Bool}

theorem mapM_mem {α β : Type} (f : α → Option β) : ∀ (l : List α) (r : List β), l.mapM f = some r → ∀ x ∈ l, ∃ y, f x = some y
  | [], r, h, x, hx => by cases hx
  | a :: l, r, h, x, hx => by
    rw [List.mapM_cons] at h
    cases ha : f a with
    | none => simp [ha] at h
    | some b =>
      cases hl : l.mapM f with
      | none => simp [ha, hl] at h
      | some r' =>
        cases hx with
        | head => exact ⟨b, ha⟩
        | tail _ hx => exact mapM_mem f l r' hl x hx

theorem cellsOf_of {t : TypeId} {n : Nat} (h : (P.info? t).map (·.size) = some n) : P.cellsOf t = n := by
  unfold Program.cellsOf; rw [h]; rfl

/-- A field's cells. -/
theorem flatFs_conf {d : Nat} (ih : ∀ (t : TypeId) (ks : List Kd), flatB P d t = some ks → P.cellsOf t = ks.length ∧ ∀ (fuel : Nat) (cs : List Value) (x : DataW H × List MemPlace), DataW.trod enc P w base spare held fuel t cs = some x → Conf ks cs) :
    ∀ (fs : List Field) (o : Nat) (ks : List Kd) (cs : List Value) (fuel : Nat), flatFs (flatB P d) fs o = some ks →
      (∀ f ∈ fs, ∃ y, DataW.trod enc P w base spare held fuel f.type ((cs.drop f.offset).take (P.cellsOf f.type)) = some y) → cs.length = o + ks.length → Conf ks (cs.drop o)
  | [], o, ks, cs, fuel, h, _, hl => by
    simp only [flatFs, Option.some.injEq] at h
    subst h
    rw [List.drop_of_length_le (by simp at hl; omega)]
    trivial
  | f :: fs, o, ks, cs, fuel, h, hr, hl => by
    simp only [flatFs] at h
    cases hf : flatB P d f.type with
    | none => simp [hf] at h
    | some s1 =>
      simp only [hf] at h
      split at h
      · rename_i hon
        cases hrs : flatFs (flatB P d) fs (o + s1.length) with
        | none => simp [hrs] at h
        | some s2 =>
          simp only [hrs, Option.some.injEq] at h
          subst h
          obtain ⟨y, hy⟩ := hr f (.head _)
          obtain ⟨i1, i2⟩ := ih f.type s1 hf
          rw [i1, hon.1] at hy
          have c1 := i2 fuel _ _ hy
          simp only [List.length_append] at hl
          have c2 := flatFs_conf ih fs (o + s1.length) s2 cs fuel hrs (fun g hg => hr g (.tail _ hg)) (by omega)
          have := c1.append c2
          rwa [← drop_take_add', List.take_of_length_le (by simp)] at this
      · cases h
where
  drop_take_add' {cs : List Value} {o a : Nat} : (cs.drop o).take (cs.length) = (cs.drop o).take a ++ cs.drop (o + a) := by
    rw [List.take_of_length_le (by simp), ← List.drop_drop, List.take_append_drop]

theorem elems_conf {d n : Nat} {e : TypeId} {s : List Kd} (hs : P.cellsOf e = s.length ∧ ∀ (fuel : Nat) (cs : List Value) (x : DataW H × List MemPlace), DataW.trod enc P w base spare held fuel e cs = some x → Conf s cs) (cs : List Value) (fuel : Nat) :
    ∀ (k i : Nat), (∀ j, i ≤ j → j < i + k → ∃ y, DataW.trod enc P w base spare held fuel e ((cs.drop (j * s.length)).take s.length) = some y) → cs.length = (i + k) * s.length → Conf (reps k s) (cs.drop (i * s.length))
  | 0, i, _, hl => by
    rw [List.drop_of_length_le (by simpa using Nat.le_of_eq hl)]
    trivial
  | k + 1, i, hr, hl => by
    obtain ⟨y, hy⟩ := hr i (Nat.le_refl _) (by omega)
    have c1 := hs.2 fuel _ _ hy
    have c2 := elems_conf (d := d) (n := n) hs cs fuel k (i + 1) (fun j h1 h2 => hr j (by omega) (by omega)) (by rw [hl]; congr 1; omega)
    have e1 : (i + 1) * s.length = i * s.length + s.length := by rw [Nat.add_mul, Nat.one_mul]
    rw [e1] at c2
    have := c1.append c2
    rw [← List.drop_drop, List.take_append_drop] at this
    exact this

theorem trod_flat : ∀ (d : Nat) (t : TypeId) (ks : List Kd), flatB P d t = some ks → P.cellsOf t = ks.length ∧ ∀ (fuel : Nat) (cs : List Value) (x : DataW H × List MemPlace), DataW.trod enc P w base spare held fuel t cs = some x → Conf ks cs := by
  intro d
  induction d with
  | zero => intro t ks h; cases h
  | succ d ih =>
    intro t ks h
    refine ⟨cellsOf_of (flatB_size h).2, fun fuel cs x hx => ?_⟩
    unfold flatB at h
    cases fuel with
    | zero => cases hx
    | succ fuel =>
    unfold DataW.trod at hx
    cases hu : P.underlying t with
    | none => rw [hu] at h; cases h
    | some u =>
      rw [hu] at h hx
      cases u <;> simp only at h <;> try (cases h; done)
      case bool =>
        split at h <;> cases h
        split at hx <;> simp_all [Conf, Cf]
      case int k =>
        split at h <;> cases h
        split at hx <;> simp_all [Conf, Cf]
      case array n e =>
        split at h
        · rename_i s' hs'
          split at h
          · rename_i hh
            cases h
            have hsz : P.cellsOf t = n * s'.length := cellsOf_of hh.2
            have hse : P.cellsOf e = s'.length := cellsOf_of hh.1
            obtain ⟨i1, i2⟩ := ih e s' hs'
            simp only at hx
            split at hx
            · rename_i hlen
              rw [hse] at hx
              cases hm : (List.range n).mapM (fun i => DataW.trod enc P w base spare held fuel e ((cs.drop (i * s'.length)).take s'.length)) with
              | none => rw [hm] at hx; cases hx
              | some r =>
                have hall := mapM_mem _ _ _ hm
                have := elems_conf (d := d) (n := n) ⟨i1, i2⟩ cs fuel n 0 (fun j _ hj => hall j (List.mem_range.2 (by omega))) (by rw [hlen, hsz]; simp)
                simpa using this
            · cases hx
          · cases h
        · cases h
      case struct fs =>
        split at h
        · split at h
          · rename_i s' hs'
            split at h
            · rename_i hh
              cases h
              have hsz : P.cellsOf t = ks.length := cellsOf_of hh
              simp only at hx
              split at hx
              · rename_i hlen
                cases hm : fs.toList.mapM (fun f => DataW.trod enc P w base spare held fuel f.type ((cs.drop f.offset).take (P.cellsOf f.type))) with
                | none => rw [hm] at hx; cases hx
                | some r =>
                  have hall := mapM_mem _ _ _ hm
                  have := flatFs_conf ih fs.toList 0 ks cs fuel hs' hall (by rw [hlen, hsz]; simp)
                  simpa using this
              · cases hx
            · cases h
          · cases h
        · cases h
/-- An argument of a flat type. -/
theorem open_flat {t : TypeId} {ks : List Kd} {v : Value} {d : DataW H} {ps : List MemPlace} (hf : flatB P 20 t = some ks) (h : DataW.Trod enc P w base spare held t v d ps) : Conf ks v.cells.toList := by
  obtain ⟨fuel, hx⟩ := h
  exact (trod_flat 20 t ks hf).2 fuel _ _ hx

theorem cells_get {a : Addr} {n : Nat} {cs : List Value} (h : w.cells? base a n = some cs) : ∀ i < n, ∃ v, w.cell? (a.add i) = some v ∧ cs[i]? = some v := by
  unfold World.cells? at h
  split at h
  · intro i hi
    have := mapM_get (fun i => w.cell? (a.add i)) (List.range n) cs h i (by simpa using hi)
    simpa using this
  · cases h
where
  mapM_get {α β : Type} (f : α → Option β) : ∀ (l : List α) (r : List β), l.mapM f = some r → ∀ i (h : i < l.length), ∃ y, f l[i] = some y ∧ r[i]? = some y
    | [], r, h, i, hi => by simp at hi
    | a :: l, r, h, i, hi => by
      rw [List.mapM_cons] at h
      cases ha : f a with
      | none => simp [ha] at h
      | some b =>
        cases hl : l.mapM f with
        | none => simp [ha, hl] at h
        | some r' =>
          simp [ha, hl] at h
          subst h
          cases i with
          | zero => exact ⟨b, ha, rfl⟩
          | succ i => simpa using mapM_get f l r' hl i (by simpa using hi)

/-- A slice's elements: each cell is there, and of its kind. -/
def SliceIn (w : World) (ks : List Kd) (p : Option Addr) (len cap : Nat) : Prop :=
  (p = none ∧ len = 0 ∧ cap = 0) ∨ ∃ a, p = some a ∧ len ≤ cap ∧ cap ≤ maxLen ∧ ∀ i < len, ∃ row, Conf ks row ∧ ∀ j < ks.length, ∃ v, w.cell? ((a.add (i * ks.length)).add j) = some v ∧ row[j]? = some v
theorem open_slice {t e : TypeId} {ks : List Kd} {v : Value} {d : DataW H} {ps : List MemPlace} (ht : P.underlying t = some (.slice e)) (hf : flatB P 20 e = some ks) (hv : ∃ a len cap, v = .slice a len cap)
    (h : DataW.Trod enc P w base spare held t v d ps) : ∃ p len cap, v = .slice p len cap ∧ SliceIn w ks p len cap := by
  obtain ⟨p, len, cap, rfl⟩ := hv
  refine ⟨p, len, cap, rfl, ?_⟩
  obtain ⟨fuel, hx⟩ := h
  cases fuel with
  | zero => cases hx
  | succ fuel =>
    unfold DataW.trod at hx
    rw [ht] at hx
    obtain ⟨hse, hfl⟩ := trod_flat (H := H) (enc := enc) (w := w) (base := base) (spare := spare) (held := held) 20 e ks hf
    cases p with
    | none =>
      left
      simp only [Value.cells] at hx
      cases len with
      | zero => cases cap with
        | zero => exact ⟨rfl, rfl, rfl⟩
        | succ c => simp at hx
      | succ l => simp at hx
    | some a =>
      right
      simp only [Value.cells] at hx
      split at hx
      · rename_i hb
        refine ⟨a, rfl, hb.2.1, hb.2.2, fun i hi => ?_⟩
        cases hm : (List.range len).mapM (fun i => (w.cells? base (a.add (i * P.cellsOf e)) (P.cellsOf e)).bind (DataW.trod enc P w base spare held fuel e)) with
        | none => simp only [hm] at hx; cases hx
        | some r =>
          obtain ⟨y, hy⟩ := mapM_mem _ _ _ hm i (List.mem_range.2 hi)
          cases hc : w.cells? base (a.add (i * P.cellsOf e)) (P.cellsOf e) with
          | none => rw [hc] at hy; cases hy
          | some row =>
            rw [hc] at hy
            simp only [Option.bind_some] at hy
            rw [hse] at hc
            refine ⟨row, hfl fuel row y hy, fun j hj => cells_get hc j hj⟩
      · cases hx

/-! ### The row -/
theorem trodAll_stays (hl : laidOutB P = true) {W W' : World} (hb : Below W.heap.size W W') {sp : Nat → Bool} : ∀ (ts : List TypeId) (vs : List Value) (ds : List (DataW H)) (ps : List MemPlace), (ts.all fun t => P.readableRec t && decide (t < P.types.size)) = true →
    DataW.TrodAll enc P W 0 (fun _ => true) true ts vs ds ps → (∀ p ∈ ps, p.block < W.heap.size) → (∀ p ∈ ps, sp p.block = true) → DataW.TrodAll enc P W' 0 sp true ts vs ds ps
  | [], vs, ds, ps, _, h, _, _ => by
    obtain ⟨rfl, rfl, rfl⟩ := trodAll_nil h
    exact trodAll_mk0
  | t :: ts, vs, ds, ps, hr, h, h1, h2 => by
    obtain ⟨v, vs', d, ds', p, q, rfl, rfl, rfl, h3, h4⟩ := trodAll_cons h
    simp only [List.all_cons, Bool.and_eq_true, decide_eq_true_eq] at hr
    refine trodAll_cons_mk ?_ (trodAll_stays hl hb ts vs' ds' q hr.2 h4 (fun x hx => h1 x (List.mem_append_right _ hx)) (fun x hx => h2 x (List.mem_append_right _ hx)))
    exact WideElems.Trod_stays hl hr.1.1 hr.1.2 h3 (fun x hx => hb.same (h1 x (List.mem_append_left _ hx))) (fun x hx => h2 x (List.mem_append_left _ hx))

theorem below_of {W W' : World} {L L' : Hp} (ht : Trk W W' L L') (hro : ∀ x ∈ L, x.2.1 = false) : Below W.heap.size W W' :=
  ⟨ht.os, ht.tape, ht.out, ht.size, fun k hk => ht.same k hk (fun ⟨x, hx, _, hr⟩ => by rw [hro x hx] at hr; cases hr)⟩

theorem law_post {f : Func} {s : ChangeSpec} {apart : Bool} {W W' : World} {args : Array Value} {ds gs : List (DataW H)} {before : List MemPlace} {bt : TypeId} {L L' : Hp}
    (hl : laidOutB P = true) (hW : DataW.Whole enc P f.params.toList s.vars apart W args.toList ds gs before) (hvars : s.vars = []) (hread : (f.params.toList.all fun t => P.readableRec t && decide (t < P.types.size)) = true)
    (hbt : P.underlying bt = some .bool) (hres : f.resultTypes = #[bt]) (ht : Trk W W' L L') (hro : ∀ x ∈ L, x.2.1 = false)
    (hspec : s.fn H (ds ++ gs) = { results := [.lit (.bool true)], args := ds }) : s.post enc P f apart true false false W args (.bool true) W' := by
  have hb := below_of ht hro
  have hW' := hW
  obtain ⟨p, q, hA, hV, rfl, hfz, hnd⟩ := hW
  rw [hvars] at hV
  have hq : gs = [] ∧ q = [] := by
    cases gs with
    | nil => exact ⟨rfl, hV⟩
    | cons g gs => exact hV.elim
  obtain ⟨rfl, rfl⟩ := hq
  have hlt : ∀ x ∈ p, x.block < W.heap.size := fun x hx => hW'.lt x (List.mem_append_left _ hx)
  refine post_of_same (pa := p) (pv := []) hW' (fun b sp hd => ?_) (fun sp hsp => ?_) (fun sp hsp => ?_) rfl (hb.frame _) ht.fz (ok_one hres rfl (okWide_bool_mk hbt _))
  · rw [hspec, hres]
    exact trodAll_cons_mk (shut_bool hbt _) trodAll_mk0
  · rw [hspec]
    exact trodAll_stays hl hb _ _ _ _ hread hA hlt (fun x hx => hsp x (List.mem_append_left _ hx))
  · rw [hspec, hvars]
    rfl

theorem okWide_agg {r : Reach} {t : TypeId} {u : TypeDesc} {v : Value} (hu : P.underlying t = some u) (ha : agg u = true) (h : Value.okWide P w r base t v) : ∃ cs : List Value, v = .agg cs.toArray := by
  unfold Value.okWide at h
  rw [hu] at h
  cases u <;> simp [agg] at ha <;> (obtain ⟨cs, rfl, _⟩ := h; exact ⟨cs.toList, by simp⟩)

/-- What a slice that came in holds: nothing, or rows of cells in one block. -/
theorem slice_rows {ks : List Kd} {p : Option Addr} {len cap : Nat} (hk : 0 < ks.length) (h : SliceIn w ks p len cap) : len ≤ 9223372036854775807 ∧ ((len = 0 ∧ (p = none → cap = 0)) ∨ ∃ b o cs T fr, ∃ rows : List (List Value), p = some ⟨b, o, none⟩ ∧ len ≤ cap ∧ HpOk [(b, false, CF cs T fr)] w ∧ rows.length = len ∧
    ∀ (i : Nat) (row : List Value), rows[i]? = some row → Conf ks row ∧ cut cs (o + i * ks.length) ks.length = some row) := by
  rcases h with ⟨_, rfl, hc⟩ | ⟨a, rfl, hlc, hcap, hr⟩
  · exact ⟨by omega, .inl ⟨rfl, fun _ => hc⟩⟩
  · refine ⟨by have : maxLen = 9223372036854775807 := rfl; omega, ?_⟩
    by_cases h0 : len = 0
    · exact .inl ⟨h0, fun e => by cases e⟩
    · right
      obtain ⟨row0, _, hj0⟩ := hr 0 (by omega)
      obtain ⟨v0, hv0, _⟩ := hj0 0 hk
      obtain ⟨b, o, sp⟩ := a
      have hadd : ∀ n, (⟨b, o, sp⟩ : Addr).add n = if n = 0 then ⟨b, o, sp⟩ else ⟨b, o + n, none⟩ := fun n => rfl
      have hsp : sp = none := by
        simp only [Nat.zero_mul, Addr.add, if_true] at hv0
        cases sp with
        | none => rfl
        | some s => simp [World.cell?] at hv0; split at hv0 <;> cases hv0
      subst hsp
      rw [add_none, add_none] at hv0
      have hblk : ∃ cs T fr, w.heap[b]? = some (CF cs T fr) := by
        simp only [World.cell?] at hv0
        split at hv0
        · rename_i c T fr hh; exact ⟨c.toList, T, fr, by rw [hh]; simp [CF]⟩
        · cases hv0
      obtain ⟨cs, T, fr, hh⟩ := hblk
      have hrow : ∀ i, i < len → ∃ row, Conf ks row ∧ cut cs (o + i * ks.length) ks.length = some row := by
        intro i hi
        obtain ⟨row, hc, hj⟩ := hr i hi
        refine ⟨row, hc, ?_⟩
        have hlen := hc.len
        have hget : ∀ j < ks.length, cs[o + i * ks.length + j]? = row[j]? := by
          intro j hj'
          obtain ⟨v, h1, h2⟩ := hj j hj'
          rw [add_none, add_none, cell_C hh, nth_eq] at h1
          rw [h1, h2]
        refine cut_of ?_ ?_
        · apply List.ext_getElem?
          intro j
          by_cases hj' : j < ks.length
          · rw [List.getElem?_take, if_pos hj', List.getElem?_drop, hget j hj']
          · rw [List.getElem?_eq_none (by omega), List.getElem?_eq_none (by simp; omega)]
        · have hlast := hget (ks.length - 1) (by omega)
          have hsome : ∃ v, row[ks.length - 1]? = some v := ⟨row[ks.length - 1]'(by omega), List.getElem?_eq_getElem (by omega)⟩
          obtain ⟨v, hv⟩ := hsome
          rw [hv] at hlast
          have := (List.getElem?_eq_some_iff.1 hlast).1
          omega
      refine ⟨b, o, cs, T, fr, (List.range len).map (fun i => (cut cs (o + i * ks.length) ks.length).getD []), rfl, hlc, ⟨by simp, fun x hx => by simp at hx; subst hx; exact hh⟩, by simp, fun i row hrow' => ?_⟩
      simp only [List.getElem?_map] at hrow'
      have hi : i < len := by
        rcases Nat.lt_or_ge i len with h | h
        · exact h
        · rw [List.getElem?_eq_none (by simpa using h)] at hrow'; cases hrow'
      obtain ⟨row', h1, h2⟩ := hrow i hi
      rw [List.getElem?_range hi] at hrow'
      simp only [Option.map_some, h2, Option.getD_some, Option.some.injEq] at hrow'
      subst hrow'
      exact ⟨h1, h2⟩

/-- A slice of whole numbers. -/
theorem slice_ints {k : IntKind} {p : Option Addr} {len cap : Nat} (h : SliceIn w [some k] p len cap) : len ≤ 9223372036854775807 ∧ ((len = 0 ∧ (p = none → cap = 0)) ∨ ∃ b o cs T fr, ∃ xs : List Int, p = some ⟨b, o, none⟩ ∧ len ≤ cap ∧ HpOk [(b, false, CF cs T fr)] w ∧ xs.length = len ∧
    (∀ x ∈ xs, (Lit.int k x).wf = true) ∧ ∀ (i : Int), 0 ≤ i → i < xs.length → nth cs (o + i.toNat * 1) = some (.int k (xs.getD i.toNat 0))) := by
  obtain ⟨h1, h2⟩ := slice_rows (by simp) h
  refine ⟨h1, h2.imp id ?_⟩
  rintro ⟨b, o, cs, T, fr, rows, rfl, hlc, hok, hlen, hr⟩
  have hone : ∀ row : List Value, Conf [some k] row → ∃ n, row = [.int k n] ∧ (Lit.int k n).wf = true := by
    intro row hc
    match row, hc with
    | [v], hc => obtain ⟨n, rfl, hw⟩ := hc.1; exact ⟨n, rfl, hw⟩
  let f : List Value → Int := fun row => match row with | [.int _ n] => n | _ => 0
  refine ⟨b, o, cs, T, fr, rows.map f, rfl, hlc, hok, by simp [hlen], ?_, ?_⟩
  · intro x hx
    obtain ⟨row, hm, rfl⟩ := List.mem_map.1 hx
    obtain ⟨i, hi, e⟩ := List.getElem_of_mem hm
    obtain ⟨c1, _⟩ := hr i row (by rw [List.getElem?_eq_getElem hi, e])
    obtain ⟨n, rfl, hw⟩ := hone row c1
    exact hw
  · intro i h0 hi
    simp only [List.length_map] at hi
    have hlt : i.toNat < rows.length := by omega
    obtain ⟨c1, c2⟩ := hr i.toNat rows[i.toNat] (List.getElem?_eq_getElem hlt)
    obtain ⟨n, e, hw⟩ := hone _ c1
    rw [e] at c2
    obtain ⟨e1, e2, _⟩ := cut_eq _ _ _ _ c2
    have : cs[o + i.toNat * 1]? = some (.int k n) := by
      have h3 := congrArg (fun l => l[0]?) e1
      simp only [List.length_singleton, List.getElem?_take, List.getElem?_drop] at h3
      simpa using h3.symm
    rw [nth_eq, this]
    simp only [List.getD_eq_getElem?_getD, List.getElem?_map, List.getElem?_eq_getElem hlt, Option.map_some, Option.getD_some, e, f]
end
end Go.K
end
section
/-
  The row kit, second part: slices that come in.
-/
namespace Go.K
open Go.ChangeShapes Go.WideShapes Go.ChangeAt Go.RowKit
set_option linter.unusedVariables false
set_option linter.unusedSimpArgs false
section
variable {H : Type} {enc : TypeId × Value → H} {P : Program} {w : World} {base : Nat} {spare : Nat → Bool} {held : Bool}
theorem sl_of {α : Type} [Cel α] {ks : List Kd} {p : Option Addr} {len cap : Nat} (hk : ks.length = Cel.sz α) (h0 : 0 < ks.length) (hrow : ∀ row, Conf ks row → ∃ x : α, row = Cel.cs x) (T : TypeId) (h : SliceIn w ks p len cap) :
    ∃ s : Sl α, Value.slice p len cap = s.val ∧ HpOk (s.hp T) w ∧ ∀ x ∈ s.hp T, x.2.1 = false := by
  obtain ⟨h1, h2⟩ := slice_rows h0 h
  rcases h2 with ⟨rfl, hc⟩ | ⟨b, o, cs, U, fr, rows, rfl, hlc, hok, hlen, hr⟩
  · cases p with
    | none =>
      have := hc rfl
      subst this
      refine ⟨.nil, rfl, ?_, ?_⟩
      · rw [Sl.hp_nil]; exact ⟨List.Pairwise.nil, fun x hx => by cases hx⟩
      · rw [Sl.hp_nil]; intro x hx; cases hx
    | some a =>
      refine ⟨.vac a cap, rfl, ?_, ?_⟩
      · rw [Sl.hp_vac]; exact ⟨List.Pairwise.nil, fun x hx => by cases hx⟩
      · rw [Sl.hp_vac]; intro x hx; cases hx
  · have hx : ∀ row ∈ rows, ∃ x : α, row = Cel.cs x := fun row hm => by
      obtain ⟨i, hi, e⟩ := List.getElem_of_mem hm
      exact hrow row (hr i row (by rw [List.getElem?_eq_getElem hi, e])).1
    have hxs : ∃ xs : List α, rows = xs.map Cel.cs := by
      clear hr hlen
      induction rows with
      | nil => exact ⟨[], rfl⟩
      | cons r rows ih =>
        obtain ⟨x, rfl⟩ := hx r (.head _)
        obtain ⟨xs, rfl⟩ := ih (fun row hm => hx row (.tail _ hm))
        exact ⟨x :: xs, rfl⟩
    obtain ⟨xs, rfl⟩ := hxs
    have hl : xs.length = len := by simpa using hlen
    refine ⟨.view b o false cs U fr xs cap ⟨fun i x hx => ?_, by omega, by omega⟩, ?_, ?_, ?_⟩
    · have := (hr i (Cel.cs x) (by rw [List.getElem?_map, hx]; rfl)).2
      rw [hk] at this
      exact this
    · simp only [Sl.val, Sl.ptr, Sl.list, Sl.cap, hl]
    · rw [Sl.hp_view]; exact hok
    · rw [Sl.hp_view]; intro x hx; simp at hx; subst hx; rfl
theorem sl_arg {α : Type} [Cel α] {t e : TypeId} {ks : List Kd} {v : Value} {d : DataW H} {ps : List MemPlace} {b1 : Nat} (ht : P.underlying t = some (.slice e)) (hf : flatB P 20 e = some ks) (hk : ks.length = Cel.sz α) (h0 : 0 < ks.length) (hrow : ∀ row, Conf ks row → ∃ x : α, row = Cel.cs x) (T : TypeId)
    (ho : Value.okWide P w .any base t v) (h : DataW.Trod enc P w b1 spare held t v d ps) : ∃ s : Sl α, v = s.val ∧ HpOk (s.hp T) w ∧ ∀ x ∈ s.hp T, x.2.1 = false := by
  obtain ⟨p, len, c, rfl, hs⟩ := open_slice ht hf (okWide_slice ht ho) h
  exact sl_of hk h0 hrow T hs
theorem row_int {row : List Value} (h : Conf [some .i64] row) : ∃ x : Int, row = Cel.cs x := by
  obtain ⟨v, rfl⟩ := List.length_eq_one_iff.1 h.len
  obtain ⟨n, rfl, _⟩ := h.1
  exact ⟨n, rfl⟩
theorem row_byte {row : List Value} (h : Conf [some .u8] row) : ∃ x : By, row = Cel.cs x := by
  obtain ⟨v, rfl⟩ := List.length_eq_one_iff.1 h.len
  obtain ⟨n, rfl, hw⟩ := h.1
  have hn : 0 ≤ n ∧ n < 256 := by simp [Lit.wf, IntKind.min, IntKind.max, IntKind.bits, IntKind.signed] at hw; omega
  have e : (((BitVec.ofInt 8 n).toNat : Nat) : Int) = n := by
    rw [BitVec.toNat_ofInt]
    omega
  refine ⟨BitVec.ofInt 8 n, ?_⟩
  show [Value.int .u8 n] = [Value.int .u8 ((BitVec.ofInt 8 n).toNat : Int)]
  rw [e]
theorem done_of {f : FuncId} {args : List Value} {L L' : Hp} {W : World} (hL : HpOk L W) (hro : ∀ x ∈ L, x.2.1 = false) (h : Does P f args L (fun v H => v = .bool true)) :
    Calls P f args.toArray W fun e W' => e = .returned (.bool true) ∧ ∃ L L', Trk W W' L L' ∧ ∀ x ∈ L, x.2.1 = false :=
  (h W hL).mono fun e W' ⟨v, L', he, hv, ht⟩ => ⟨by rw [he, hv], L, L', ht, hro⟩
end
end Go.K
end
section
/-
  The thin layer, seventeenth part: maps whose keys are integers.
-/
namespace Go.K
set_option linter.unusedVariables false
set_option linter.unusedSimpArgs false

/-- What a map holds, in the order in which it came. -/
def ents (kd : IntKind) : Nat → List (Int × Value) → List MapEntry
  | _, [] => []
  | i, e :: es => { key := .int kd e.1, val := e.2, born := i } :: ents kd (i + 1) es
def mapO (kd : IntKind) (es : List (Int × Value)) : Obj := .map (ents kd 0 es).toArray es.length
def mfind : List (Int × Value) → Int → Nat → Option (Nat × Value)
  | [], _, _ => none
  | e :: es, k, i => if k = e.1 then some (i, e.2) else mfind es k (i + 1)
def mget (z : Value) (es : List (Int × Value)) (k : Int) : Value := match mfind es k 0 with | some r => r.2 | none => z
theorem find_ents (kd : IntKind) (k : Int) : ∀ (es : List (Int × Value)) (i j : Nat), Instr.findNow (.int kd) (.int kd k) (ents kd j es) i = some (mfind es k i)
  | [], i, j => rfl
  | e :: es, i, j => by
    unfold ents mfind Instr.findNow
    simp only [Instr.sameNow, if_true]
    by_cases h : k = e.1
    · simp [h]
    · have hb : (k == e.1) = false := by simpa using h
      rw [hb, if_neg h]
      exact find_ents kd k es (i + 1) (j + 1)
theorem ents_push (kd : IntKind) (k : Int) (v : Value) : ∀ (es : List (Int × Value)) (j : Nat), ents kd j (es ++ [(k, v)]) = ents kd j es ++ [{ key := .int kd k, val := v, born := j + es.length }]
  | [], j => by simp [ents]
  | e :: es, j => by simp [ents, ents_push kd k v es (j + 1)]; omega
theorem mfind_none : ∀ {es : List (Int × Value)} {k : Int} (i : Nat), (∀ e ∈ es, e.1 ≠ k) → mfind es k i = none
  | [], k, i, _ => rfl
  | e :: es, k, i, h => by
    unfold mfind
    rw [if_neg (fun h' => h e (.head _) h'.symm)]
    exact mfind_none (i + 1) (fun x hx => h x (.tail _ hx))

section
variable {P : Program} {n : Nat} {E : Env} {H : Hp} {Q : Post} {ops : Array Oper} {rest : List Oper}
theorem getObj_of {w : World} {b : Nat} {es : Array MapEntry} {c : Nat} (h : w.heap[b]? = some (.map es c)) : (getObj b).run P w = .ok (.map es c) w := by
  simp [getObj, Sem.run, h]
theorem fz_map {w : World} {b i : Nat} {s : Option Nat} {es : Array MapEntry} {c : Nat} (h : w.heap[b]? = some (.map es c)) : w.frozen? ⟨b, i, s⟩ = false := by
  simp [World.frozen?, h]
theorem setObj_of {w : World} {b : Nat} {es : Array MapEntry} {c : Nat} {o : Obj} (h : w.heap[b]? = some (.map es c)) : (setObj b o).run P w = .ok () (setBlk w b o) := by
  simp [setObj, Sem.run, h, setBlk]
theorem checkKey_int {t : TypeId} {kd : IntKind} [ht : Und P t (.int kd)] {b : Bool} {k : Int} {w : World} : (Instr.checkKey b 10000 t (.int kd k)).run P w = .ok () w := by
  unfold Instr.checkKey
  simp [run_underlying ht.eq]
theorem findKey_int {t : TypeId} {kd : IntKind} [ht : Und P t (.int kd)] {k : Int} {es : List (Int × Value)} {w : World} : (Instr.findKey t (.int kd k) (ents kd 0 es)).run P w = .ok (mfind es k 0) w := by
  unfold Instr.findKey
  simp [run_underlying ht.eq, find_ents]
/-- A type's zero value, that is one cell. -/
class ZerV (P : Program) (t : TypeId) (v : outParam Value) : Prop where eq : (P.info? t).map (fun i => i.zero) = some (some v)
theorem run_zeroV {t : TypeId} {v : Value} [h : ZerV P t v] {w : World} : (zeroValue t).run P w = .ok v w := by
  have := h.eq
  cases hq : P.info? t with
  | none => simp [hq] at this
  | some i =>
    simp [hq] at this
    simp [zeroValue, typeInfo, hq, this]
/-- m[k] -/
theorem rd_lookup {t kt et : TypeId} {x y : Operand} {kd : IntKind} {b : Nat} {es : List (Int × Value)} {k : Int} {z : Value} {r : Bool} [ht : Und P t (.map kt et)] [hk : Und P kt (.int kd)] [hz : ZerV P et z]
    (hx : ev E x = some (.map (some b))) (hy : ev E y = some (.int kd k)) (hm : (b, r, mapO kd es) ∈ H) : Rd P E H (.lookup t x y false) (mget z es k) := fun a w d ty pos af g h1 h2 => by
  have e0 : w.heap[b]? = some (.map (ents kd 0 es).toArray es.length) := h2.here _ hm
  have e1 := getObj_of (P := P) e0
  simp only [execOp, ev_ok h1 hx, ev_ok h1 hy, Instr.lookup, Sem.run_bind, run_underlying ht.eq, Result.andThen_ok]
  rw [e1]
  simp only [Result.andThen_ok, Sem.run_bind, Sem.run_pure, checkKey_int, findKey_int]
  unfold mget
  cases hf : mfind es k 0 with
  | none => simp [run_zeroV (P := P)]
  | some q => simp
/-- make(map[K]V) -/
theorem o_makeMap [rg : Rg] {d : Nat} {t : TypeId} {ty : TypeId} {pos : String} {af : Array Edge} (kd : IntKind) (hd : Nat.blt d n = true)
    (k : ∀ b, SO P n ops rest ((d, .map (some b)) :: E) ((b, true, mapO kd []) :: H) Q) : SO P n ops (⟨some d, .makeMap t none, ty, pos, af, none⟩ :: rest) E H Q := by
  intro a w h1 h2 h3 h4
  refine wpList_plain rfl fun K hK => ?_
  have hrun : (execOp a.eval ⟨some d, .makeMap t none, ty, pos, af, none⟩).run P w = .ok (.value (.map (some w.heap.size))) { w with heap := w.heap.push (mapO kd []) } := by
    rfl
  unfold Oper.wp
  rw [hrun]
  have hlt : d < a.tmps.size := by rw [h2]; exact Nat.le_of_ble_eq_true hd
  have ht := trk_new (o := mapO kd []) h4 (fun i s => by simp [World.frozen?, mapO])
  exact hK _ _ (wpList_up ht (k _ _ _ (h1.put hlt) (by simp [Act.put, h2]) h3 ht.ok))
/-- m[k] = v, of a key that is new -/
theorem o_mapNew [rg : Rg] {t kt et : TypeId} {x y u : Operand} {ty : TypeId} {pos : String} {af : Array Edge} {kd : IntKind} {b : Nat} {es : List (Int × Value)} {k : Int} {v : Value} {H' : Hp} [ht : Und P t (.map kt et)] [hk : Und P kt (.int kd)]
    (hx : ev E x = some (.map (some b))) (hy : ev E y = some (.int kd k)) (hv : ev E u = some v) (hn : mfind es k 0 = none) (hu : Upd b (mapO kd es) (mapO kd (es ++ [(k, v)])) H H')
    (kk : SO P n ops rest E H' Q) : SO P n ops (⟨none, .mapUpdate t x y u, ty, pos, af, none⟩ :: rest) E H Q := by
  intro a w h1 h2 h3 h4
  refine wpList_plain rfl fun K hK => ?_
  have e0 : w.heap[b]? = some (.map (ents kd 0 es).toArray es.length) := h4.here _ hu.mem
  have e1 := getObj_of (P := P) e0
  have hrun : (execOp a.eval ⟨none, .mapUpdate t x y u, ty, pos, af, none⟩).run P w = .ok .skip (setBlk w b (mapO kd (es ++ [(k, v)]))) := by
    simp only [execOp, ev_ok h1 hx, ev_ok h1 hy, ev_ok h1 hv, Instr.mapUpdate, Sem.run_bind, run_underlying ht.eq, Result.andThen_ok]
    rw [e1]
    simp only [Result.andThen_ok, Sem.run_bind, checkKey_int, findKey_int, hn]
    rw [setObj_of (P := P) e0]
    simp [mapO, ents_push]
  unfold Oper.wp
  rw [hrun]
  have htr := trk_set h4 hu (fun i s => by
    have hlt := h4.lt hu.mem
    have hlt' : b < w.heap.size := hlt
    rw [fz_map e0, fz_map (w := setBlk w b (mapO kd (es ++ [(k, v)]))) (es := (ents kd 0 (es ++ [(k, v)])).toArray) (c := (es ++ [(k, v)]).length) (by simp [setBlk, hlt', mapO])])
  exact hK _ _ (wpList_up htr (kk _ _ h1 h2 h3 htr.ok))
end
end Go.K
end
section
/- Contracts within more memory, and memory behind them in another order. -/
namespace Go.K
open Go Go.Sem
set_option linter.unusedVariables false
theorem Does.inn {P : Program} {f : FuncId} {args : List Value} {L F H : Hp} {R R' : Value → Hp → Prop} (h : Does P f args L R) (hs : Split H L F)
    (hr : ∀ v Y, R v Y → ∃ Y', R' v Y' ∧ ∃ K G, Ap Y F K ∧ Split K Y' G) : Does P f args H R' := fun w hw => by
  have hp := hs.perm
  have hk := hw.perm hp
  refine (h w hk.left).mono fun e w' ⟨v, Y, h1, h2, h3⟩ => ?_
  obtain ⟨Y', h4, K, G, h5, h6⟩ := hr v Y h2
  exact ⟨v, Y', h1, h4, ((h3.frame hk).perm_left hp.symm).split (by rw [h5.eq]; exact h6)⟩
/-- What is told exactly. -/
theorem Does.inIs {P : Program} {f : FuncId} {args : List Value} {L F H Y Y' G K : Hp} {X : Value} (h : Does P f args L (Is X Y)) (hs : Split H L F) (ha : Ap Y F K) (hr : Split K Y' G) : Does P f args H (Is X Y') :=
  h.inn hs fun v Z ⟨h1, h2⟩ => ⟨Y', ⟨h1, rfl⟩, K, G, by rw [h2]; exact ha, hr⟩
end Go.K
end
section
/- Short words for what is searched where it stands, and for the steps that come most often. -/
namespace Go.K
open Go Go.Sem
set_option linter.unusedVariables false
theorem sP {H L F : Hp} (h : Split H L F := by repeat (first | exact Split.nil | (apply Split.cons; next => repeat (first | exact Pick.here | apply Pick.there | apply Pick.app)) | (apply Split.chunk; next => repeat (first | exact PickL.here | exact PickL.last | apply PickL.there | apply PickL.app)) | (apply Split.lst; repeat (first | exact PickL.here | exact PickL.last | apply PickL.there | apply PickL.app)))) : Split H L F := h
theorem aQ {Y F H : Hp} (h : Ap Y F H := by repeat (first | exact Ap.nil | apply Ap.cons | apply Ap.app | exact Ap.one)) : Ap Y F H := h
theorem pL {L H F : Hp} (h : PickL L H F := by repeat (first | exact PickL.here | exact PickL.last | apply PickL.there | apply PickL.app)) : PickL L H F := h
theorem uL {L M H F : Hp} (h : UpdL L M H F := by repeat (first | exact UpdL.here | exact UpdL.last | apply UpdL.there | apply UpdL.app)) : UpdL L M H F := h
theorem mM {α : Type} {x : α} {H : List α} (h : x ∈ H := by repeat' first | exact List.Mem.head _ | apply List.Mem.tail | apply List.mem_append_right) : x ∈ H := h
theorem uD {b : Nat} {o o' : Obj} {H K : Hp} (h : Upd b o o' H K := by repeat' first | exact Upd.here | apply Upd.there | apply Upd.app) : Upd b o o' H K := h
theorem kP {E F : Env} (h : Keep E F := by repeat' first | exact Keep.nil | refine Keep.cons rfl ?_) : Keep E F := h
theorem kQ {E F : Env} {l : List Nat} (h : Keep2 E l F := by repeat' first | exact Keep2.nil | apply Keep2.cons rfl) : Keep2 E l F := h
theorem lZ {E M F : Env} {H L R : Hp} (h1 : Keep E M := by repeat' first | exact Keep.nil | refine Keep.cons rfl ?_) (h2 : Keep E F := by repeat' first | exact Keep.nil | refine Keep.cons rfl ?_) (h3 : Split H L R := by repeat (first | exact Split.nil | (apply Split.cons; next => repeat (first | exact Pick.here | apply Pick.there | apply Pick.app)) | (apply Split.chunk; next => repeat (first | exact PickL.here | exact PickL.last | apply PickL.there | apply PickL.app)) | (apply Split.lst; repeat (first | exact PickL.here | exact PickL.last | apply PickL.there | apply PickL.app)))) : Keep E M ∧ Keep E F ∧ ∃ R, Split H L R := ⟨h1, h2, R, h3⟩
section
variable {P : Program} {n : Nat} {E : Env} {H : Hp} {Q : Post} {ops : Array Oper} {rest : List Oper} {d : Nat} {ty : TypeId} {pos : String} {af : Array Edge}
theorem oR [rg : Rg] {op : Op} {v : Value} (hr : Rd P E H op v) (k : SO P n ops rest ((d, v) :: E) H Q) (hd : Nat.blt d n = true := by rfl) : SO P n ops (⟨some d, op, ty, pos, af, none⟩ :: rest) E H Q := o_rd hr hd k
theorem oM [rg : Rg] {x : Operand} {v : Value} (hx : ev E x = some v) (k : SO P n ops rest ((d, v) :: E) H Q) (hd : Nat.blt d n = true := by rfl) : SO P n ops (⟨some d, .move x, ty, pos, af, none⟩ :: rest) E H Q := o_rd (rd_move hx) hd k
theorem oA [rg : Rg] {x : Operand} {v : Value} (hx : ev E x = some v) (k : SO P n ops rest ((d, v) :: E) H Q) (hd : Nat.blt d n = true := by rfl) : SO P n ops (⟨some d, .assign x, ty, pos, af, none⟩ :: rest) E H Q := o_rd (rd_assign hx) hd k
theorem oN [rg : Rg] {x : Operand} {ad : Addr} (hx : ev E x = some (.pointer (some ad))) (k : SO P n ops rest ((d, .pointer (some ad)) :: E) H Q) (hd : Nat.blt d n = true := by rfl) : SO P n ops (⟨some d, .nilCheck x, ty, pos, af, none⟩ :: rest) E H Q := o_rd (rd_nil hx) hd k
theorem oF [rg : Rg] {s : TypeId} {x : Operand} {f b o q : Nat} [hs : Fld P s f q] (hx : ev E x = some (.pointer (some ⟨b, o, none⟩))) (k : SO P n ops rest ((d, .pointer (some ⟨b, o + q, none⟩)) :: E) H Q) (hd : Nat.blt d n = true := by rfl) : SO P n ops (⟨some d, .fieldAddr s x f, ty, pos, af, none⟩ :: rest) E H Q := o_rd (rd_field hx) hd k
theorem oE [rg : Rg] {x : Operand} {i : Nat} {vs : Array Value} {v : Value} (hx : ev E x = some (.tuple vs)) (hv : nth vs.toList i = some v) (k : SO P n ops rest ((d, v) :: E) H Q) (hd : Nat.blt d n = true := by rfl) : SO P n ops (⟨some d, .extract x i, ty, pos, af, none⟩ :: rest) E H Q := o_rd (rd_extract hx hv) hd k
end
section
variable {P : Program} {n : Nat} {ops : Array Oper} {w0 : World} {H0 Hs : Hp} {Q : Post} {l : List (Oper × Bool)} {K : Env → Hp → Prop} {E : Env} {H : Hp} {d : Nat} {ty : TypeId} {pos : String} {af : Array Edge}
theorem xR [rg : Rg] {op : Op} {v : Value} (hr : Rd P E Hs op v) (k : SX P n ops w0 H0 Q Hs l K ((d, v) :: E) H) (hd : Nat.blt d n = true := by rfl) : SX P n ops w0 H0 Q Hs ((⟨some d, op, ty, pos, af, none⟩, false) :: l) K E H := x_rd hr hd k
theorem xM [rg : Rg] {x : Operand} {v : Value} (hx : ev E x = some v) (k : SX P n ops w0 H0 Q Hs l K ((d, v) :: E) H) (hd : Nat.blt d n = true := by rfl) : SX P n ops w0 H0 Q Hs ((⟨some d, .move x, ty, pos, af, none⟩, false) :: l) K E H := x_rd (rd_move hx) hd k
theorem xA [rg : Rg] {x : Operand} {v : Value} (hx : ev E x = some v) (k : SX P n ops w0 H0 Q Hs l K ((d, v) :: E) H) (hd : Nat.blt d n = true := by rfl) : SX P n ops w0 H0 Q Hs ((⟨some d, .assign x, ty, pos, af, none⟩, false) :: l) K E H := x_rd (rd_assign hx) hd k
theorem xN [rg : Rg] {x : Operand} {ad : Addr} (hx : ev E x = some (.pointer (some ad))) (k : SX P n ops w0 H0 Q Hs l K ((d, .pointer (some ad)) :: E) H) (hd : Nat.blt d n = true := by rfl) : SX P n ops w0 H0 Q Hs ((⟨some d, .nilCheck x, ty, pos, af, none⟩, false) :: l) K E H := x_rd (rd_nil hx) hd k
theorem xF [rg : Rg] {s : TypeId} {x : Operand} {f b o q : Nat} [hs : Fld P s f q] (hx : ev E x = some (.pointer (some ⟨b, o, none⟩))) (k : SX P n ops w0 H0 Q Hs l K ((d, .pointer (some ⟨b, o + q, none⟩)) :: E) H) (hd : Nat.blt d n = true := by rfl) : SX P n ops w0 H0 Q Hs ((⟨some d, .fieldAddr s x f, ty, pos, af, none⟩, false) :: l) K E H := x_rd (rd_field hx) hd k
theorem xE [rg : Rg] {x : Operand} {i : Nat} {vs : Array Value} {v : Value} (hx : ev E x = some (.tuple vs)) (hv : nth vs.toList i = some v) (k : SX P n ops w0 H0 Q Hs l K ((d, v) :: E) H) (hd : Nat.blt d n = true := by rfl) : SX P n ops w0 H0 Q Hs ((⟨some d, .extract x i, ty, pos, af, none⟩, false) :: l) K E H := x_rd (rd_extract hx hv) hd k
end
end Go.K
end
section
/- The plain laws of bytes. -/
namespace Go.Proofs.YtkfcpjohblddmaaGreat
open Go.K
set_option linter.unusedVariables false
set_option linter.unusedSimpArgs false

abbrev w64 (x : Int) : Int := IntKind.i64.wrap x
theorem all8 {p : By → Prop} [DecidablePred p] (h : ∀ i < 256, p (BitVec.ofNat 8 i)) : ∀ x, p x := fun x => by
  have := h x.toNat x.isLt
  simpa using this
/-- how many bits are set -/
def pop8 (x : By) : Nat := (List.range 8).countP fun i => x.getLsbD i
/-- the lowest bit that is set -/
def ntz8 (x : By) : Nat := ((List.range 8).find? fun i => x.getLsbD i).getD 8
def len8 (x : By) : Nat := 8 - ((List.range 8).find? fun i => x.getLsbD (7 - i)).getD 8
def popT : ByteArray := ⟨#[0, 1, 1, 2, 1, 2, 2, 3, 1, 2, 2, 3, 2, 3, 3, 4, 1, 2, 2, 3, 2, 3, 3, 4, 2, 3, 3, 4, 3, 4, 4, 5, 1, 2, 2, 3, 2, 3, 3, 4, 2, 3, 3, 4, 3, 4, 4, 5, 2, 3, 3, 4, 3, 4, 4, 5, 3, 4, 4, 5, 4, 5, 5, 6, 1, 2, 2, 3, 2, 3, 3, 4, 2, 3, 3, 4, 3, 4, 4, 5, 2, 3, 3, 4, 3, 4, 4, 5, 3, 4, 4, 5, 4, 5, 5, 6, 2, 3, 3, 4, 3, 4, 4, 5, 3, 4, 4, 5, 4, 5, 5, 6, 3, 4, 4, 5, 4, 5, 5, 6, 4, 5, 5, 6, 5, 6, 6, 7, 1, 2, 2, 3, 2, 3, 3, 4, 2, 3, 3, 4, 3, 4, 4, 5, 2, 3, 3, 4, 3, 4, 4, 5, 3, 4, 4, 5, 4, 5, 5, 6, 2, 3, 3, 4, 3, 4, 4, 5, 3, 4, 4, 5, 4, 5, 5, 6, 3, 4, 4, 5, 4, 5, 5, 6, 4, 5, 5, 6, 5, 6, 6, 7, 2, 3, 3, 4, 3, 4, 4, 5, 3, 4, 4, 5, 4, 5, 5, 6, 3, 4, 4, 5, 4, 5, 5, 6, 4, 5, 5, 6, 5, 6, 6, 7, 3, 4, 4, 5, 4, 5, 5, 6, 4, 5, 5, 6, 5, 6, 6, 7, 4, 5, 5, 6, 5, 6, 6, 7, 5, 6, 6, 7, 6, 7, 7, 8]⟩
def ntzT : ByteArray := ⟨#[8, 0, 1, 0, 2, 0, 1, 0, 3, 0, 1, 0, 2, 0, 1, 0, 4, 0, 1, 0, 2, 0, 1, 0, 3, 0, 1, 0, 2, 0, 1, 0, 5, 0, 1, 0, 2, 0, 1, 0, 3, 0, 1, 0, 2, 0, 1, 0, 4, 0, 1, 0, 2, 0, 1, 0, 3, 0, 1, 0, 2, 0, 1, 0, 6, 0, 1, 0, 2, 0, 1, 0, 3, 0, 1, 0, 2, 0, 1, 0, 4, 0, 1, 0, 2, 0, 1, 0, 3, 0, 1, 0, 2, 0, 1, 0, 5, 0, 1, 0, 2, 0, 1, 0, 3, 0, 1, 0, 2, 0, 1, 0, 4, 0, 1, 0, 2, 0, 1, 0, 3, 0, 1, 0, 2, 0, 1, 0, 7, 0, 1, 0, 2, 0, 1, 0, 3, 0, 1, 0, 2, 0, 1, 0, 4, 0, 1, 0, 2, 0, 1, 0, 3, 0, 1, 0, 2, 0, 1, 0, 5, 0, 1, 0, 2, 0, 1, 0, 3, 0, 1, 0, 2, 0, 1, 0, 4, 0, 1, 0, 2, 0, 1, 0, 3, 0, 1, 0, 2, 0, 1, 0, 6, 0, 1, 0, 2, 0, 1, 0, 3, 0, 1, 0, 2, 0, 1, 0, 4, 0, 1, 0, 2, 0, 1, 0, 3, 0, 1, 0, 2, 0, 1, 0, 5, 0, 1, 0, 2, 0, 1, 0, 3, 0, 1, 0, 2, 0, 1, 0, 4, 0, 1, 0, 2, 0, 1, 0, 3, 0, 1, 0, 2, 0, 1, 0]⟩
def lenT : ByteArray := ⟨#[0, 1, 2, 2, 3, 3, 3, 3, 4, 4, 4, 4, 4, 4, 4, 4, 5, 5, 5, 5, 5, 5, 5, 5, 5, 5, 5, 5, 5, 5, 5, 5, 6, 6, 6, 6, 6, 6, 6, 6, 6, 6, 6, 6, 6, 6, 6, 6, 6, 6, 6, 6, 6, 6, 6, 6, 6, 6, 6, 6, 6, 6, 6, 6, 7, 7, 7, 7, 7, 7, 7, 7, 7, 7, 7, 7, 7, 7, 7, 7, 7, 7, 7, 7, 7, 7, 7, 7, 7, 7, 7, 7, 7, 7, 7, 7, 7, 7, 7, 7, 7, 7, 7, 7, 7, 7, 7, 7, 7, 7, 7, 7, 7, 7, 7, 7, 7, 7, 7, 7, 7, 7, 7, 7, 7, 7, 7, 7, 8, 8, 8, 8, 8, 8, 8, 8, 8, 8, 8, 8, 8, 8, 8, 8, 8, 8, 8, 8, 8, 8, 8, 8, 8, 8, 8, 8, 8, 8, 8, 8, 8, 8, 8, 8, 8, 8, 8, 8, 8, 8, 8, 8, 8, 8, 8, 8, 8, 8, 8, 8, 8, 8, 8, 8, 8, 8, 8, 8, 8, 8, 8, 8, 8, 8, 8, 8, 8, 8, 8, 8, 8, 8, 8, 8, 8, 8, 8, 8, 8, 8, 8, 8, 8, 8, 8, 8, 8, 8, 8, 8, 8, 8, 8, 8, 8, 8, 8, 8, 8, 8, 8, 8, 8, 8, 8, 8, 8, 8, 8, 8, 8, 8, 8, 8, 8, 8, 8, 8, 8, 8, 8, 8, 8, 8, 8, 8]⟩
theorem pop_tab : ∀ x : By, popT[((x.toNat : Int)).toNat]? = some (UInt8.ofNat (pop8 x)) := all8 (by decide +kernel)
theorem ntz_tab : ∀ x : By, ntzT[((x.toNat : Int)).toNat]? = some (UInt8.ofNat (ntz8 x)) := all8 (by decide +kernel)
theorem len_tab : ∀ x : By, lenT[((x.toNat : Int)).toNat]? = some (UInt8.ofNat (len8 x)) := all8 (by decide +kernel)
theorem pop_i64 : ∀ x : By, IntKind.i64.wrap ((UInt8.ofNat (pop8 x)).toNat : Int) = pop8 x := all8 (by decide +kernel)
theorem ntz_i64 : ∀ x : By, IntKind.i64.wrap ((UInt8.ofNat (ntz8 x)).toNat : Int) = ntz8 x := all8 (by decide +kernel)
theorem len_i64 : ∀ x : By, IntKind.i64.wrap ((UInt8.ofNat (len8 x)).toNat : Int) = len8 x := all8 (by decide +kernel)

theorem wrap_u8 (x : By) : IntKind.u8.wrap (x.toNat : Int) = x.toNat := by
  have := x.isLt
  simp [IntKind.wrap, IntKind.signed, IntKind.bits]; omega
theorem ofInt_by (x : By) : BitVec.ofInt 8 (x.toNat : Int) = x := by simp
theorem and_by (x y : By) : ibits .and .u8 x.toNat y.toNat = ((x &&& y).toNat : Int) := by
  show IntKind.u8.wrap (((BitVec.ofInt 8 (x.toNat : Int)) &&& (BitVec.ofInt 8 (y.toNat : Int))).toNat : Int) = _
  rw [ofInt_by, ofInt_by, wrap_u8]
theorem xor_by (x y : By) : ibits .xor .u8 x.toNat y.toNat = ((x ^^^ y).toNat : Int) := by
  show IntKind.u8.wrap (((BitVec.ofInt 8 (x.toNat : Int)) ^^^ (BitVec.ofInt 8 (y.toNat : Int))).toNat : Int) = _
  rw [ofInt_by, ofInt_by, wrap_u8]
theorem or_by (x y : By) : ibits .or .u8 x.toNat y.toNat = ((x ||| y).toNat : Int) := by
  show IntKind.u8.wrap (((BitVec.ofInt 8 (x.toNat : Int)) ||| (BitVec.ofInt 8 (y.toNat : Int))).toNat : Int) = _
  rw [ofInt_by, ofInt_by, wrap_u8]
def at0 (xs : List Int) (i : Int) : Int := xs.getD i.toNat 0
/-- the place of a number, or -1 -/
def idx (xs : List Int) (v : Int) : Int := match xs.findIdx? (· == v) with | some k => k | none => -1
theorem idx_at {xs : List Int} {v : Int} (i : Int) (h0 : 0 ≤ i) (h1 : i < xs.length) (hn : ∀ k : Int, 0 ≤ k → k < i → at0 xs k ≠ v) (he : at0 xs i = v) : idx xs v = i := by
  have : xs.findIdx? (· == v) = some i.toNat := by
    rw [List.findIdx?_eq_some_iff_getElem]
    refine ⟨by omega, ?_, ?_⟩
    · simpa [at0, List.getD_eq_getElem?_getD, show i.toNat < xs.length by omega] using he
    · intro j hj
      have := hn j (by omega) (by omega)
      simpa [at0, List.getD_eq_getElem?_getD, show j < xs.length by omega] using this
  simp [idx, this]; omega
theorem idx_none {xs : List Int} {v : Int} (hn : ∀ k : Int, 0 ≤ k → k < xs.length → at0 xs k ≠ v) : idx xs v = -1 := by
  have : xs.findIdx? (· == v) = none := by
    rw [List.findIdx?_eq_none_iff]
    intro x hx
    obtain ⟨k, hk, rfl⟩ := List.getElem_of_mem hx
    have := hn k (by omega) (by omega)
    simpa [at0, List.getD_eq_getElem?_getD, hk] using this
  simp [idx, this]
theorem step_all {p : Int → Prop} {i : Int} (h : ∀ k : Int, 0 ≤ k → k < i → p k) (hi : p i) : ∀ k : Int, 0 ≤ k → k < i + 1 → p k := by
  intro k h0 h1
  by_cases hk : k < i
  · exact h k h0 hk
  · have : k = i := by omega
    rw [this]; exact hi
def hasI (xs : List Int) (v : Int) : Bool := decide (0 ≤ idx xs v)
theorem at0_get {xs : List Int} {i : Int} (h0 : 0 ≤ i) (h1 : i < xs.length) : xs[i.toNat]? = some (at0 xs i) := by
  have : i.toNat < xs.length := by omega
  simp [at0, List.getD_eq_getElem?_getD, this]
end Go.Proofs.YtkfcpjohblddmaaGreat
end
section
/- Walks of math/bits, and of slices. -/
namespace Go.Proofs.YtkfcpjohblddmaaGreat
open Go.K
set_option linter.unusedVariables false
set_option linter.unusedSimpArgs false

instance und3 : Und Tryz.prog 3 (.int .i64) := ⟨Tryz.underlying3⟩
instance agg3 : Agg Tryz.prog 3 false := ⟨⟨_, Tryz.underlying3, rfl⟩⟩
instance siz3 : Siz Tryz.prog 3 1 := ⟨by kernel_rfl⟩
instance und5 : Und Tryz.prog 5 (.int .u8) := ⟨Tryz.underlying5⟩
instance agg5 : Agg Tryz.prog 5 false := ⟨⟨_, Tryz.underlying5, rfl⟩⟩
instance siz5 : Siz Tryz.prog 5 1 := ⟨by kernel_rfl⟩
instance und9 : Und Tryz.prog 9 .string := ⟨Tryz.underlying9⟩
instance agg9 : Agg Tryz.prog 9 false := ⟨⟨_, Tryz.underlying9, rfl⟩⟩
instance siz9 : Siz Tryz.prog 9 1 := ⟨by kernel_rfl⟩
instance und52 : Und Tryz.prog 52 (.slice 3) := ⟨Tryz.underlying52⟩
instance agg52 : Agg Tryz.prog 52 false := ⟨⟨_, Tryz.underlying52, rfl⟩⟩
instance siz52 : Siz Tryz.prog 52 1 := ⟨by kernel_rfl⟩
instance ent40 : Ent Tryz.prog 40 := ⟨fun _ _ => by kernel_rfl⟩
instance ent67 : Ent Tryz.prog 67 := ⟨fun _ _ => by kernel_rfl⟩
instance ent97 : Ent Tryz.prog 97 := ⟨fun _ _ => by kernel_rfl⟩
instance ent104 : Ent Tryz.prog 104 := ⟨fun _ _ => by kernel_rfl⟩
instance wide : Wide Tryz.prog := ⟨by kernel_rfl⟩

theorem ones8_fn {x : By} : Does Tryz.prog 97 [.int .u8 x.toNat] [] (Is (.int .i64 (pop8 x)) []) := by
  refine fn_enter (n := 6) Tryz.func97 Tryz.ntmps97 rfl (Nat.le_of_ble_eq_true rfl) <| s_seq <| s_region0 fun ops => oA rfl <| o_nil <| n_K <| s_seq <| s_region0 fun ops => oM rfl ?_
  refine oR (rd_ixStr rfl rfl (Int.natCast_nonneg _) (pop_tab x)) ?_
  refine oR (rd_convI rfl) <| oA rfl <| o_nil <| n_K <| s_ret ?_
  refine leaf_is (rets1 Tryz.results97 (rv_tmp rfl)) ?_ sP
  exact congrArg (Value.int .i64) (pop_i64 x)
theorem ntz8_fn {x : By} : Does Tryz.prog 104 [.int .u8 x.toNat] [] (Is (.int .i64 (ntz8 x)) []) := by
  refine fn_enter (n := 6) Tryz.func104 Tryz.ntmps104 rfl (Nat.le_of_ble_eq_true rfl) <| s_seq <| s_region0 fun ops => oA rfl <| o_nil <| n_K <| s_seq <| s_region0 fun ops => oM rfl ?_
  refine oR (rd_ixStr rfl rfl (Int.natCast_nonneg _) (ntz_tab x)) ?_
  refine oR (rd_convI rfl) <| oA rfl <| o_nil <| n_K <| s_ret ?_
  refine leaf_is (rets1 Tryz.results104 (rv_tmp rfl)) ?_ sP
  exact congrArg (Value.int .i64) (ntz_i64 x)
abbrev tI : TypeId := 3
theorem index_fn {v : Int} {s : Sl Int} {T : TypeId} :
    Does Tryz.prog 67 [s.val, .int .i64 v] (s.hp T) (Is (.int .i64 (idx s.list v)) (s.hp T)) := by
  refine fn_enter (n := 19) Tryz.func67 Tryz.ntmps67 rfl (Nat.le_of_ble_eq_true rfl) <| s_seq <| s_region0 fun ops => oA rfl <| o_nil <| n_K <| s_seq <| s_seq <| s_region0 fun ops => oM rfl <| oR (rd_lenS rfl) <| oM rfl <| o_nil <| n_K ?_
  refine s_block ?_
  have hsm := s.small
  refine s_loop2E [0, 1, 7] kQ (fun i => [(8, .int .i64 i)]) (fun i => 0 ≤ i ∧ i ≤ s.list.length ∧ ∀ k : Int, 0 ≤ k → k < i → at0 s.list k ≠ v) (fun i => ((s.list.length : Int) - i).toNat) ((0 : Int)) ⟨by omega, by omega, by intro k h0 h1; omega⟩ kP ?_
  rintro i ⟨h0, h1, h2⟩
  refine s_seq <| s_region0 fun ops => oR (rd_bin rfl rfl rfl) <| o_nil <| n_K <| s_seq ?_
  refine s_cond rfl (fun c9 => ?_) (fun c9 => ?_)
  · try simp at c9
    refine s_skip <| n_K <| s_seq <| s_block <| s_seq <| s_region0 fun ops => oM rfl <| oA rfl <| o_nil <| n_K <| s_seq <| s_region0 fun ops => oM rfl <| oM rfl ?_
    refine oM rfl ?_
    refine oR (rd_ixSl rfl rfl ⟨h0, c9⟩) ?_
    refine oR (rd_ldSl (o := 0) rfl pL (at0_get h0 c9) rfl rfl) ?_
    refine oR (rd_bin rfl rfl rfl) <| o_nil <| n_K ?_
    refine s_cond rfl (fun c16 => ?_) (fun c16 => ?_)
    · simp at c16
      refine s_seq <| s_region0 fun ops => oM rfl <| oA rfl <| o_nil <| n_K <| s_ret <| r_blk <| r_K <| r_K <| r_blk <| r_K ?_
      refine leaf_is (rets1 Tryz.results67 (rv_tmp rfl)) ?_ sP
      rw [idx_at i h0 c9 h2 c16.symm]
    · simp at c16
      refine s_skip <| n_blk <| n_K <| s_region0 fun ops => ?_
      refine oR (rd_add64 rfl rfl (by omega)) ?_
      refine oM rfl <| o_nil <| n_K ?_
      exact ⟨i + 1, ⟨by omega, by omega, step_all h2 (fun e => c16 e.symm)⟩, (by omega), lZ⟩
  · try simp at c9
    refine s_exit <| x_K <| x_K <| x_blk <| n_K <| s_seq <| s_region0 fun ops => oA rfl <| o_nil <| n_K <| s_ret ?_
    refine leaf_is (rets1 Tryz.results67 (rv_tmp rfl)) ?_ sP
    rw [idx_none (fun k k0 k1 => h2 k k0 (by omega))]
theorem contains_fn {v : Int} {s : Sl Int} {T : TypeId} :
    Does Tryz.prog 40 [s.val, .int .i64 v] (s.hp T) (Is (.bool (hasI s.list v)) (s.hp T)) := by
  refine fn_enter (n := 9) Tryz.func40 Tryz.ntmps40 rfl (Nat.le_of_ble_eq_true rfl) <| s_seq <| s_region0 fun ops => oA rfl <| o_nil <| n_K <| s_seq <| s_region0 fun ops => oM rfl <| oM rfl ?_
  refine c_is rfl (index_fn) sP rfl aQ ?_
  refine oR (rd_bin rfl rfl rfl) <| oA rfl <| o_nil <| n_K <| s_ret ?_
  refine leaf_is (rets1 Tryz.results40 (rv_tmp rfl)) ?_ sP
  rfl
end Go.Proofs.YtkfcpjohblddmaaGreat
end
section
/- The plain model of a chip: pages, blocks, power. -/
namespace Go.Proofs.YtkfcpjohblddmaaGreat
open Go.K
set_option linter.unusedVariables false
set_option linter.unusedSimpArgs false

/-- Cells of bytes. -/
def vbc {n : Nat} (p : Vector By n) : List Value := p.toList.map bv
section
variable {n : Nat} {p : Vector By n}
theorem vbc_len : (vbc p).length = n := by simp [vbc]
theorem cut_vb : cut (vbc p) 0 n = some (vbc p) := by have := cut_whole (vbc p); rwa [vbc_len] at this
theorem vc_vb : vcells (.agg (vbc p).toArray) = some (vbc p) := by
  have : (vbc p).all (·.oneCell') = true := List.all_eq_true.2 fun x hx => by
    obtain ⟨y, _, rfl⟩ := List.mem_map.1 hx; rfl
  simp [vcells, this]
theorem spl_vb {cs : List Value} (h : cs.length = n) : splice cs 0 (vbc p) = some (vbc p) := splice_whole (by rw [vbc_len, h])
theorem nth_vb {i : Nat} (h : i < n) : nth (vbc p) i = some (bv p[i]) := by
  unfold vbc
  rw [nth_map]
  simp [h]
theorem toList_set {n : Nat} (p : Vector By n) (i : Nat) (y : By) (h : i < n) : (p.set i y).toList = p.toList.set i y := by
  apply List.ext_getElem
  · simp
  · intro j h1 h2
    simp [Vector.getElem_set, List.getElem_set]
theorem spl1_vb {i : Nat} (h : i < n) (y : By) : splice (vbc p) i [bv y] = some (vbc (p.set i y)) := by
  have := splice_one (g := bv) (l := p.toList) (y := y) (i := i) (by simpa using h)
  have e : (p.set i y).toList = p.toList.set i y := toList_set p i y h
  rw [vbc, this, vbc, e]
end
abbrev Pg := Vector By 258
/-- a page that holds nothing -/
def blankP : Pg := Vector.replicate 258 255#8
def fillF (i : Nat) : Pg := Vector.ofFn fun j => if j.val < i then 255#8 else 0#8
theorem fillF_0 : List.replicate 258 (Value.int .u8 0) = vbc (fillF 0) := by kernel_rfl
theorem fillF_end : fillF 258 = blankP := by
  apply Vector.ext
  intro i hi
  simp [fillF, blankP, hi]
theorem fillF_step {i : Nat} (h : i < 258) : splice (vbc (fillF i)) i [.int .u8 255] = some (vbc (fillF (i + 1))) := by
  have h1 := spl1_vb (p := fillF i) h 255#8
  have h2 : (fillF i).set i 255#8 = fillF (i + 1) := by
    apply Vector.ext
    intro j hj
    rw [Vector.getElem_set]
    by_cases hij : i = j
    · subst hij; simp [fillF]
    · have : (j < i) ↔ (j < i + 1) := by omega
      simp [hij, fillF, this]
  rw [h2] at h1
  exact h1
structure Blk where
  pages : Vector Pg 8
  next : Int
  bad : Bool
def pgsc (v : Vector Pg 8) : List Value := v.toList.flatMap vbc
def blkc (b : Blk) : List Value := pgsc b.pages ++ [.int .i64 b.next, .bool b.bad]
def rowc (l : List Blk) : List Value := l.flatMap blkc
theorem pgsc_len (v : Vector Pg 8) : (pgsc v).length = 2064 := by
  have := row_len (f := vbc) (n := 258) v.toList (fun x _ => vbc_len)
  rw [pgsc, this]; simp
theorem blkc_len (b : Blk) : (blkc b).length = 2066 := by simp [blkc, pgsc_len]

/-- A chip: what it is, and where it lies (its power's block, its own, its blocks'; which acts fail). -/
structure Chip where
  off : Bool
  after : Int
  keep : Int
  blocks : List Blk
  dead : Bool
  out : Bool
  pc : Int
  wc : Int
  count : Int
  aP : Nat
  aC : Nat
  aB : Nat
  pf : Sl Int
  wf : Sl Int
abbrev pwc (c : Chip) : List Value := [.bool c.off, .int .i64 c.after, .int .i64 c.keep]
abbrev chc (c : Chip) : List Value :=
  [.pointer (some ⟨c.aP, 0, none⟩), .slice (some ⟨c.aB, 0, none⟩) c.blocks.length c.blocks.length, .bool c.dead, .bool c.out, c.pf.val, .int .i64 c.pc, c.wf.val, .int .i64 c.wc, .int .i64 c.count]
def thereB (c : Chip) (i : Int) : Bool := decide (0 ≤ i) && decide (i < c.blocks.length)
def mayE (c : Chip) (i j : Int) : Int := if c.off = true then 30 else if (!(!c.dead && !c.out)) = true then 31 else if ((!thereB c i || decide (j < 0)) || decide (8 ≤ j)) = true then 1 else 0
def zeroP : Pg := Vector.replicate 258 0#8
theorem zeroP_eq : List.replicate 258 (Value.int .u8 0) = vbc zeroP := by kernel_rfl
def pageAt (c : Chip) (i j : Int) : Pg := match c.blocks[i.toNat]? with | some b => b.pages.toList.getD j.toNat zeroP | none => zeroP
def readP (c : Chip) (i j : Int) : Pg := if mayE c i j = 0 then pageAt c i j else zeroP
theorem may_in {c : Chip} {i j : Int} (h : mayE c i j = 0) : 0 ≤ i ∧ i < c.blocks.length ∧ 0 ≤ j ∧ j < 8 ∧ c.off = false ∧ c.dead = false ∧ c.out = false := by
  unfold mayE thereB at h
  split at h
  · omega
  · split at h
    · omega
    · split at h
      · omega
      · rename_i h1 h2 h3
        simp at h1 h2 h3
        refine ⟨by omega, by omega, by omega, by omega, h1, ?_, ?_⟩ <;> simp [h2]
theorem cut_page {c : Chip} {i j : Int} (h0 : 0 ≤ i) (h1 : i < c.blocks.length) (h2 : 0 ≤ j) (h3 : j < 8) : cut (rowc c.blocks) (i.toNat * 2066 + j.toNat * 258) 258 = some (vbc (pageAt c i j)) := by
  have hi : i.toNat < c.blocks.length := by omega
  have hb : c.blocks[i.toNat]? = some c.blocks[i.toNat] := List.getElem?_eq_getElem hi
  have hj : j.toNat < c.blocks[i.toNat].pages.toList.length := by simp; omega
  have hp : c.blocks[i.toNat].pages.toList[j.toNat]? = some (pageAt c i j) := by
    unfold pageAt
    rw [hb]
    simp only [List.getD_eq_getElem?_getD, List.getElem?_eq_getElem hj, Option.getD_some]
  refine cut_row (fun b _ => blkc_len b) hb ?_
  refine cut_left ?_ _
  have := cut_row (f := vbc) (n := 258) (o := 0) (m := 258) (fun x _ => vbc_len) hp cut_vb
  rw [Nat.add_zero] at this; exact this

/-- An act is counted: does the power end in it? -/
def endsC (c : Chip) : Chip := { c with off := if c.after < 0 then c.off else decide (c.after = 0), after := if c.after < 0 then c.after else w64 (c.after - 1) }
theorem pwc_pos {c : Chip} (h : c.after < 0) : pwc (endsC c) = pwc c := by simp [pwc, endsC, h]
theorem pwc_neg {c : Chip} (h : 0 ≤ c.after) : pwc (endsC c) = [.bool (decide (c.after = 0)), .int .i64 (w64 (c.after - 1)), .int .i64 c.keep] := by
  have : ¬ c.after < 0 := by omega
  simp [pwc, endsC, this]
def endsB (c : Chip) : Bool := if c.after < 0 then false else decide (c.after = 0)

/-- the first m bytes are written onto a page -/
def andP (m : Nat) (p d : Pg) : Pg := Vector.ofFn fun j => if j.val < m then p[j] &&& d[j] else p[j]
theorem andP_0 (p d : Pg) : andP 0 p d = p := by
  apply Vector.ext; intro j hj; simp [andP]
theorem andP_step {m : Nat} (h : m < 258) (p d : Pg) : (andP m p d).set m (p[m] &&& d[m]) = andP (m + 1) p d := by
  apply Vector.ext
  intro j hj
  rw [Vector.getElem_set]
  by_cases hij : m = j
  · subst hij; simp [andP]
  · have : (j < m) ↔ (j < m + 1) := by omega
    simp [hij, andP, this]
theorem andP_at {m : Nat} (h : m < 258) (p d : Pg) : (andP m p d)[m] = p[m] := by simp [andP]
def setPg (b : Blk) (i : Nat) (p : Pg) : Blk := { b with pages := b.pages.setIfInBounds i p }
theorem pages_at {b : Blk} {i : Nat} (hi : i < 8) : b.pages.toList[i]? = some b.pages[i] := by
  rw [List.getElem?_eq_getElem (by simpa using hi)]; simp
theorem toList_setPg (b : Blk) {i : Nat} (hi : i < 8) (p : Pg) : (setPg b i p).pages.toList = b.pages.toList.set i p := by
  apply List.ext_getElem
  · simp [setPg]
  · intro j h1 h2
    simp [setPg, Vector.getElem_setIfInBounds, List.getElem_set]
theorem row_byte {l : List Blk} {k i j : Nat} {b : Blk} (hk : l[k]? = some b) (hi : i < 8) (hj : j < 258) : nth (rowc l) (k * 2066 + (i * 258 + j)) = some (bv b.pages[i][j]) := by
  rw [rowc, nth_row (n := 2066) (fun b _ => blkc_len b) hk (by omega), blkc, nth_left (by rw [pgsc_len]; omega), pgsc, nth_row (n := 258) (fun x _ => vbc_len) (pages_at hi) hj, nth_vb hj]
theorem row_setPg {l : List Blk} {k i o : Nat} {b : Blk} {vs : List Value} {q : Pg} (hk : l[k]? = some b) (hi : i < 8) (hs : splice (vbc b.pages[i]) o vs = some (vbc q)) : splice (rowc l) (k * 2066 + (i * 258 + o)) vs = some (rowc (l.set k (setPg b i q))) := by
  refine splice_row (f := blkc) (n := 2066) (fun b _ => blkc_len b) hk ?_
  have h1 : splice (pgsc b.pages) (i * 258 + o) vs = some (pgsc (setPg b i q).pages) := by
    rw [pgsc, pgsc, toList_setPg b hi q]
    exact splice_row (f := vbc) (n := 258) (fun x _ => vbc_len) (pages_at hi) hs
  exact splice_left h1 _
/-- how many bytes, or pages: within the bounds -/
def clampN (n m : Int) : Nat := (min (max n 0) m).toNat
/-- the block behind a write of the first bytes of a page -/
def wrB (b : Blk) (i m : Nat) (d : Pg) (hi : i < 8) : Blk := setPg b i (andP m b.pages[i] d)
theorem wrB_0 (b : Blk) (i : Nat) (d : Pg) (hi : i < 8) : wrB b i 0 d hi = b := by
  unfold wrB setPg
  rw [andP_0]
  have : b.pages.setIfInBounds i b.pages[i] = b.pages := by
    apply Vector.ext
    intro j hj
    rw [Vector.getElem_setIfInBounds]
    split
    · rename_i h; subst h; rfl
    · rfl
  rw [this]
theorem wr_at {l : List Blk} {k i j : Nat} {b : Blk} {d : Pg} (hk : l[k]? = some b) (hi : i < 8) (hj : j < 258) : nth (rowc (l.set k (wrB b i j d hi))) (k * 2066 + (i * 258 + j)) = some (bv b.pages[i][j]) := by
  have hkl := (List.getElem?_eq_some_iff.1 hk).1
  have h2 : (l.set k (wrB b i j d hi))[k]? = some (wrB b i j d hi) := by simp [hkl]
  rw [row_byte h2 hi hj]
  have : (wrB b i j d hi).pages[i] = andP j b.pages[i] d := by simp [wrB, setPg]
  rw [this, andP_at hj]
theorem wr_step {l : List Blk} {k i j : Nat} {b : Blk} {d : Pg} (hk : l[k]? = some b) (hi : i < 8) (hj : j < 258) : splice (rowc (l.set k (wrB b i j d hi))) (k * 2066 + (i * 258 + j)) [bv (b.pages[i][j] &&& d[j])] = some (rowc (l.set k (wrB b i (j + 1) d hi))) := by
  have hkl := (List.getElem?_eq_some_iff.1 hk).1
  have h2 : (l.set k (wrB b i j d hi))[k]? = some (wrB b i j d hi) := by simp [hkl]
  have h3 : (wrB b i j d hi).pages[i] = andP j b.pages[i] d := by simp [wrB, setPg]
  have h4 := row_setPg (o := j) (vs := [bv (b.pages[i][j] &&& d[j])]) (q := andP (j + 1) b.pages[i] d) h2 hi (by rw [h3, ← andP_step hj]; exact spl1_vb hj _)
  rw [h4]
  simp [wrB, setPg]
/-- the block whose first pages hold nothing -/
def wipeB (b : Blk) (m : Nat) : Blk := { b with pages := Vector.ofFn fun j => if j.val < m then blankP else b.pages[j] }
theorem wipeB_0 (b : Blk) : wipeB b 0 = b := by
  unfold wipeB
  have : (Vector.ofFn fun j : Fin 8 => if j.val < 0 then blankP else b.pages[j]) = b.pages := by
    apply Vector.ext; intro j hj; simp
  rw [this]
theorem wipeB_step (b : Blk) {m : Nat} (h : m < 8) : setPg (wipeB b m) m blankP = wipeB b (m + 1) := by
  unfold wipeB setPg
  congr 1
  apply Vector.ext
  intro j hj
  rw [Vector.getElem_setIfInBounds]
  by_cases hij : m = j
  · subst hij; simp
  · have : (j < m) ↔ (j < m + 1) := by omega
    simp [hij, this]
theorem wipe_step {l : List Blk} {k j : Nat} {b : Blk} (hk : l[k]? = some b) (hj : j < 8) : splice (rowc (l.set k (wipeB b j))) (k * 2066 + (j * 258 + 0)) (vbc blankP) = some (rowc (l.set k (wipeB b (j + 1)))) := by
  have hkl := (List.getElem?_eq_some_iff.1 hk).1
  have h2 : (l.set k (wipeB b j))[k]? = some (wipeB b j) := by simp [hkl]
  have h4 := row_setPg (o := 0) (vs := vbc blankP) (q := blankP) h2 hj (spl_vb vbc_len)
  rw [h4, wipeB_step b hj]
  simp
theorem row_next {l : List Blk} {k : Nat} {b : Blk} (hk : l[k]? = some b) : nth (rowc l) (k * 2066 + 2064) = some (.int .i64 b.next) := by
  rw [rowc, nth_row (n := 2066) (fun b _ => blkc_len b) hk (by omega), blkc]
  have := nth_right (b := pgsc b.pages) (d := [.int .i64 b.next, .bool b.bad]) (o := 0)
  rw [pgsc_len] at this
  exact this
theorem row_bad {l : List Blk} {k : Nat} {b : Blk} (hk : l[k]? = some b) : nth (rowc l) (k * 2066 + 2065) = some (.bool b.bad) := by
  rw [rowc, nth_row (n := 2066) (fun b _ => blkc_len b) hk (by omega), blkc]
  have := nth_right (b := pgsc b.pages) (d := [.int .i64 b.next, .bool b.bad]) (o := 1)
  rw [pgsc_len] at this
  exact this
theorem row_setNext {l : List Blk} {k : Nat} {b : Blk} (n : Int) (hk : l[k]? = some b) : splice (rowc l) (k * 2066 + 2064) [.int .i64 n] = some (rowc (l.set k { b with next := n })) := by
  refine splice_row (f := blkc) (n := 2066) (fun b _ => blkc_len b) hk ?_
  have := splice_right (a := pgsc b.pages) (d := [.int .i64 b.next, .bool b.bad]) (o := 0) (c := [.int .i64 n]) (r := [.int .i64 n, .bool b.bad]) rfl
  rw [pgsc_len] at this
  exact this
theorem row_setBad {l : List Blk} {k : Nat} {b : Blk} (v : Bool) (hk : l[k]? = some b) : splice (rowc l) (k * 2066 + 2065) [.bool v] = some (rowc (l.set k { b with bad := v })) := by
  refine splice_row (f := blkc) (n := 2066) (fun b _ => blkc_len b) hk ?_
  have := splice_right (a := pgsc b.pages) (d := [.int .i64 b.next, .bool b.bad]) (o := 1) (c := [.bool v]) (r := [.int .i64 b.next, .bool v]) rfl
  rw [pgsc_len] at this
  exact this
theorem there_in {c : Chip} {i : Int} (h : thereB c i = true) : 0 ≤ i ∧ i < c.blocks.length := by
  unfold thereB at h; simp at h; omega
theorem there_get {c : Chip} {i : Int} (h : thereB c i = true) : ∃ b, c.blocks[i.toNat]? = some b := by
  have := there_in h
  exact ⟨_, List.getElem?_eq_getElem (by omega)⟩
def badAt (c : Chip) (i : Int) : Bool := match c.blocks[i.toNat]? with | some b => b.bad | none => false
theorem bad_at {c : Chip} {i : Int} (h : thereB c i = true) : nth (rowc c.blocks) (i.toNat * 2066 + 2065) = some (.bool (badAt c i)) := by
  obtain ⟨b, hb⟩ := there_get h
  rw [row_bad hb, badAt, hb]
/-- An act of a kind is counted: does it fail? -/
def actP (c : Chip) : Chip := { c with pc := w64 (c.pc + 1) }
def failP (c : Chip) : Bool := hasI c.pf.list (w64 (w64 (c.pc + 1) - 1))
def actW (c : Chip) : Chip := { c with wc := w64 (c.wc + 1) }
def failW (c : Chip) : Bool := hasI c.wf.list (w64 (w64 (c.wc + 1) - 1))
def cnt (c : Chip) : Chip := { c with count := w64 (c.count + 1) }
def setB (c : Chip) (i : Nat) (b : Blk) : Chip := { c with blocks := c.blocks.set i b }
/-- A program: the error's number, and the chip behind it. -/
def progC (c : Chip) (i j : Int) (d : Pg) : Int × Chip :=
  if mayE c i j = 0 then
    match c.blocks[i.toNat]? with
    | none => (1, c)
    | some b =>
      if j = b.next then
        let b1 : Blk := { b with next := w64 (b.next + 1) }
        let c1 : Chip := endsC (actP (cnt c))
        let wr (m : Nat) : Chip := setB c1 i.toNat (if h : j.toNat < 8 then wrB b1 j.toNat m d h else b1)
        if endsB c = true then (30, wr (clampN c.keep 258)) else if (failP c || b.bad) = true then (33, wr 129) else (0, wr 258)
      else (32, c)
  else (mayE c i j, c)
/-- An erase. -/
def eraseC (c : Chip) (i : Int) : Int × Chip :=
  if mayE c i 0 = 0 then
    match c.blocks[i.toNat]? with
    | none => (1, c)
    | some b =>
      let b1 : Blk := { b with next := 8 }
      let c1 : Chip := endsC (actW (cnt c))
      if endsB c = true then (30, setB c1 i.toNat (wipeB b1 (clampN c.keep 8))) else if (failW c || b.bad) = true then (33, setB c1 i.toNat b1) else (0, setB c1 i.toNat { wipeB b1 8 with next := 0 })
  else (mayE c i 0, c)
def zeroB : Blk := ⟨Vector.replicate 8 zeroP, 0, false⟩
theorem zeroB_eq : List.replicate 2064 (Value.int .u8 0) ++ [.int .i64 0, .bool false] = blkc zeroB := by kernel_rfl
theorem zrep_row (n : Nat) : zrep n (blkc zeroB) = rowc (List.replicate n zeroB) := by
  induction n with
  | zero => rfl
  | succ n ih => simp only [zrep, ih, List.replicate_succ, rowc, List.flatMap_cons]
/-- A blank block. -/
def newB (bad : Bool) : Blk := ⟨Vector.replicate 8 blankP, 0, bad⟩
def newBs (n : Nat) (bad : List Int) (i : Nat) : List Blk := (List.range n).map fun j => if j < i then newB (hasI bad j) else zeroB
theorem newBs_0 (n : Nat) (bad : List Int) : newBs n bad 0 = List.replicate n zeroB := by
  apply List.ext_getElem
  · simp [newBs]
  · intro j h1 h2; simp [newBs]
theorem newBs_len (n : Nat) (bad : List Int) (i : Nat) : (newBs n bad i).length = n := by simp [newBs]
theorem newBs_at {n i : Nat} (bad : List Int) (h : i < n) : (newBs n bad i)[i]? = some zeroB := by simp [newBs, h]
theorem newBs_step {n i : Nat} (bad : List Int) (h : i < n) : (newBs n bad i).set i (newB (hasI bad i)) = newBs n bad (i + 1) := by
  apply List.ext_getElem
  · simp [newBs]
  · intro j h1 h2
    rw [List.getElem_set]
    by_cases hij : i = j
    · subst hij; simp [newBs]
    · have : (j < i) ↔ (j < i + 1) := by omega
      simp [hij, newBs, this]
theorem wipe_zero (b : Bool) : wipeB { zeroB with bad := b } 8 = newB b := by
  unfold wipeB newB zeroB
  congr 1
def okNew (n : Int) (bad : List Int) : Bool := !(decide (n < 16) || decide (40 < n)) && bad.all fun x => decide (0 ≤ x) && decide (x < n)
def newC (off : Bool) (after keep : Int) (aP aC aB : Nat) (n : Nat) (bad : List Int) : Chip := ⟨off, after, keep, newBs n bad n, false, false, 0, 0, 0, aP, aC, aB, .nil, .nil⟩
def idxF (xs : List Int) (p : Int → Bool) : Int := match xs.findIdx? p with | some k => k | none => -1
theorem idxF_at {xs : List Int} {p : Int → Bool} (i : Int) (h0 : 0 ≤ i) (h1 : i < xs.length) (hn : ∀ k : Int, 0 ≤ k → k < i → p (at0 xs k) = false) (he : p (at0 xs i) = true) : idxF xs p = i := by
  have : xs.findIdx? p = some i.toNat := by
    rw [List.findIdx?_eq_some_iff_getElem]
    refine ⟨by omega, ?_, ?_⟩
    · simpa [at0, List.getD_eq_getElem?_getD, show i.toNat < xs.length by omega] using he
    · intro j hj
      have := hn j (by omega) (by omega)
      simpa [at0, List.getD_eq_getElem?_getD, show j < xs.length by omega] using this
  simp [idxF, this]; omega
theorem idxF_none {xs : List Int} {p : Int → Bool} (hn : ∀ k : Int, 0 ≤ k → k < xs.length → p (at0 xs k) = false) : idxF xs p = -1 := by
  have : xs.findIdx? p = none := by
    rw [List.findIdx?_eq_none_iff]
    intro x hx
    obtain ⟨k, hk, rfl⟩ := List.getElem_of_mem hx
    have := hn k (by omega) (by omega)
    simpa [at0, List.getD_eq_getElem?_getD, hk] using this
  simp [idxF, this]
theorem idxF_any (xs : List Int) (p : Int → Bool) : decide (0 ≤ idxF xs p) = xs.any p := by
  unfold idxF
  cases h : xs.findIdx? p with
  | none =>
    rw [List.findIdx?_eq_none_iff] at h
    have : xs.any p = false := by rw [List.any_eq_false]; intro x hx; simpa using h x hx
    rw [this]; rfl
  | some k =>
    rw [List.findIdx?_eq_some_iff_getElem] at h
    obtain ⟨h1, h2, _⟩ := h
    have : xs.any p = true := List.any_eq_true.2 ⟨_, List.getElem_mem h1, h2⟩
    rw [this]; simp
theorem prog_may {c : Chip} {i j : Int} {d : Pg} (h : ¬ mayE c i j = 0) : progC c i j d = (mayE c i j, c) := by unfold progC; rw [if_neg h]
theorem prog_order {c : Chip} {i j : Int} {d : Pg} {b : Blk} (h : mayE c i j = 0) (hb : c.blocks[i.toNat]? = some b) (hn : ¬ j = b.next) : progC c i j d = (32, c) := by
  unfold progC; rw [if_pos h, hb]; simp only []; rw [if_neg hn]
def wrC (c : Chip) (i j : Int) (d : Pg) (b : Blk) (m : Nat) (h : j.toNat < 8) : Chip := setB (endsC (actP (cnt c))) i.toNat (wrB { b with next := w64 (b.next + 1) } j.toNat m d h)
theorem prog_down {c : Chip} {i j : Int} {d : Pg} {b : Blk} (h : mayE c i j = 0) (h8 : j.toNat < 8) (hb : c.blocks[i.toNat]? = some b) (hn : j = b.next) (he : endsB c = true) : progC c i j d = (30, wrC c i j d b (clampN c.keep 258) h8) := by
  unfold progC; rw [if_pos h, hb]; simp only []; rw [if_pos hn, if_pos he, dif_pos h8]; rfl
theorem prog_fail {c : Chip} {i j : Int} {d : Pg} {b : Blk} (h : mayE c i j = 0) (h8 : j.toNat < 8) (hb : c.blocks[i.toNat]? = some b) (hn : j = b.next) (he : endsB c = false) (hf : (failP c || b.bad) = true) : progC c i j d = (33, wrC c i j d b 129 h8) := by
  unfold progC; rw [if_pos h, hb]; simp only []; rw [if_pos hn, if_neg (by rw [he]; exact Bool.false_ne_true), if_pos hf, dif_pos h8]; rfl
theorem prog_ok {c : Chip} {i j : Int} {d : Pg} {b : Blk} (h : mayE c i j = 0) (h8 : j.toNat < 8) (hb : c.blocks[i.toNat]? = some b) (hn : j = b.next) (he : endsB c = false) (hf : (failP c || b.bad) = false) : progC c i j d = (0, wrC c i j d b 258 h8) := by
  unfold progC; rw [if_pos h, hb]; simp only []; rw [if_pos hn, if_neg (by rw [he]; exact Bool.false_ne_true), if_neg (by rw [hf]; exact Bool.false_ne_true), dif_pos h8]; rfl
theorem erase_may {c : Chip} {i : Int} (h : ¬ mayE c i 0 = 0) : eraseC c i = (mayE c i 0, c) := by unfold eraseC; rw [if_neg h]
theorem erase_down {c : Chip} {i : Int} {b : Blk} (h : mayE c i 0 = 0) (hb : c.blocks[i.toNat]? = some b) (he : endsB c = true) : eraseC c i = (30, setB (endsC (actW (cnt c))) i.toNat (wipeB { b with next := 8 } (clampN c.keep 8))) := by
  unfold eraseC; rw [if_pos h, hb]; simp only []; rw [if_pos he]
theorem erase_fail {c : Chip} {i : Int} {b : Blk} (h : mayE c i 0 = 0) (hb : c.blocks[i.toNat]? = some b) (he : endsB c = false) (hf : (failW c || b.bad) = true) : eraseC c i = (33, setB (endsC (actW (cnt c))) i.toNat { b with next := 8 }) := by
  unfold eraseC; rw [if_pos h, hb]; simp only []; rw [if_neg (by rw [he]; exact Bool.false_ne_true), if_pos hf]
theorem erase_ok {c : Chip} {i : Int} {b : Blk} (h : mayE c i 0 = 0) (hb : c.blocks[i.toNat]? = some b) (he : endsB c = false) (hf : (failW c || b.bad) = false) : eraseC c i = (0, setB (endsC (actW (cnt c))) i.toNat { wipeB { b with next := 8 } 8 with next := 0 }) := by
  unfold eraseC; rw [if_pos h, hb]; simp only []; rw [if_neg (by rw [he]; exact Bool.false_ne_true), if_neg (by rw [hf]; exact Bool.false_ne_true)]
end Go.Proofs.YtkfcpjohblddmaaGreat
end
section
/- Walks of package nand. -/
namespace Go.Proofs.YtkfcpjohblddmaaGreat
open Go.K
set_option linter.unusedVariables false
set_option linter.unusedSimpArgs false
instance und4 : Und Tryz.prog 4 .bool := ⟨Tryz.underlying4⟩
instance agg4 : Agg Tryz.prog 4 false := ⟨⟨_, Tryz.underlying4, rfl⟩⟩
instance siz4 : Siz Tryz.prog 4 1 := ⟨by kernel_rfl⟩
instance und63 : Und Tryz.prog 63 (.pointer 98) := ⟨Tryz.underlying63⟩
instance agg63 : Agg Tryz.prog 63 false := ⟨⟨_, Tryz.underlying63, rfl⟩⟩
instance siz63 : Siz Tryz.prog 63 1 := ⟨by kernel_rfl⟩
instance und69 : Und Tryz.prog 69 (.array 258 5) := ⟨Tryz.underlying69⟩
instance agg69 : Agg Tryz.prog 69 true := ⟨⟨_, Tryz.underlying69, rfl⟩⟩
instance siz69 : Siz Tryz.prog 69 258 := ⟨by kernel_rfl⟩
instance und83 : Und Tryz.prog 83 (.array 8 69) := ⟨Tryz.underlying83⟩
instance agg83 : Agg Tryz.prog 83 true := ⟨⟨_, Tryz.underlying83, rfl⟩⟩
instance siz83 : Siz Tryz.prog 83 2064 := ⟨by kernel_rfl⟩
instance agg85 : Agg Tryz.prog 85 true := ⟨⟨_, Tryz.underlying85, rfl⟩⟩
instance siz85 : Siz Tryz.prog 85 2066 := ⟨by kernel_rfl⟩
instance und86 : Und Tryz.prog 86 (.slice 85) := ⟨Tryz.underlying86⟩
instance agg86 : Agg Tryz.prog 86 false := ⟨⟨_, Tryz.underlying86, rfl⟩⟩
instance siz86 : Siz Tryz.prog 86 1 := ⟨by kernel_rfl⟩
instance agg90 : Agg Tryz.prog 90 true := ⟨⟨_, Tryz.underlying90, rfl⟩⟩
instance siz90 : Siz Tryz.prog 90 9 := ⟨by kernel_rfl⟩
instance agg98 : Agg Tryz.prog 98 true := ⟨⟨_, Tryz.underlying98, rfl⟩⟩
instance siz98 : Siz Tryz.prog 98 3 := ⟨by kernel_rfl⟩
instance zer69 : Zer Tryz.prog 69 (List.replicate 258 (.int .u8 0)) := ⟨by kernel_rfl⟩
instance fld85_0 : Fld Tryz.prog 85 0 0 := ⟨⟨_, _, 2063, Tryz.underlying85, rfl, by kernel_rfl, rfl⟩⟩
instance fld85_2 : Fld Tryz.prog 85 2 2065 := ⟨⟨_, _, 0, Tryz.underlying85, rfl, by kernel_rfl, rfl⟩⟩
instance fld88_0 : Fld Tryz.prog 88 0 0 := ⟨⟨_, _, 0, Tryz.underlying88, rfl, by kernel_rfl, rfl⟩⟩
instance fld88_1 : Fld Tryz.prog 88 1 1 := ⟨⟨_, _, 0, Tryz.underlying88, rfl, by kernel_rfl, rfl⟩⟩
instance fld90_0 : Fld Tryz.prog 90 0 0 := ⟨⟨_, _, 0, Tryz.underlying90, rfl, by kernel_rfl, rfl⟩⟩
instance fld90_1 : Fld Tryz.prog 90 1 1 := ⟨⟨_, _, 0, Tryz.underlying90, rfl, by kernel_rfl, rfl⟩⟩
instance fld90_2 : Fld Tryz.prog 90 2 2 := ⟨⟨_, _, 0, Tryz.underlying90, rfl, by kernel_rfl, rfl⟩⟩
instance fld90_3 : Fld Tryz.prog 90 3 3 := ⟨⟨_, _, 0, Tryz.underlying90, rfl, by kernel_rfl, rfl⟩⟩
instance fld98_0 : Fld Tryz.prog 98 0 0 := ⟨⟨_, _, 0, Tryz.underlying98, rfl, by kernel_rfl, rfl⟩⟩
instance fld98_1 : Fld Tryz.prog 98 1 1 := ⟨⟨_, _, 0, Tryz.underlying98, rfl, by kernel_rfl, rfl⟩⟩
instance ent36 : Ent Tryz.prog 36 := ⟨fun _ _ => by kernel_rfl⟩
instance ent41 : Ent Tryz.prog 41 := ⟨fun _ _ => by kernel_rfl⟩
instance ent56 : Ent Tryz.prog 56 := ⟨fun _ _ => by kernel_rfl⟩
instance ent68 : Ent Tryz.prog 68 := ⟨fun _ _ => by kernel_rfl⟩
instance ent70 : Ent Tryz.prog 70 := ⟨fun _ _ => by kernel_rfl⟩
instance ent71 : Ent Tryz.prog 71 := ⟨fun _ _ => by kernel_rfl⟩
instance ent95 : Ent Tryz.prog 95 := ⟨fun _ _ => by kernel_rfl⟩
instance ent109 : Ent Tryz.prog 109 := ⟨fun _ _ => by kernel_rfl⟩
instance ent110 : Ent Tryz.prog 110 := ⟨fun _ _ => by kernel_rfl⟩
instance ent111 : Ent Tryz.prog 111 := ⟨fun _ _ => by kernel_rfl⟩
instance ent123 : Ent Tryz.prog 123 := ⟨fun _ _ => by kernel_rfl⟩
instance ent124 : Ent Tryz.prog 124 := ⟨fun _ _ => by kernel_rfl⟩

theorem blank_fn : Does Tryz.prog 68 [] [] (Is (.agg (vbc blankP).toArray) []) := by
  refine fn_enter (n := 9) Tryz.func68 Tryz.ntmps68 rfl (Nat.le_of_ble_eq_true rfl) <| s_seq <| s_region0 fun ops => ?_
  refine o_alloc rfl fun b0 => ?_
  refine o_nil <| n_K <| s_seq <| s_seq <| s_region0 fun ops => oM rfl <| o_nil <| n_K <| s_block ?_
  rw [fillF_0]
  refine s_loop2 [0] kQ (fun (s : Nat) => [(2, .int .i64 s)]) (fun (s : Nat) => [(b0, true, C (vbc (fillF s)) 69)]) (fun (s : Nat) => s ≤ 258) (fun (s : Nat) => 258 - s) ((0 : Nat)) (by omega) kP sP ?_
  rintro i h0
  refine s_seq <| s_region0 fun ops => oR (rd_bin rfl rfl rfl) <| o_nil <| n_K <| s_seq ?_
  refine s_cond rfl (fun c3 => ?_) (fun c3 => ?_)
  · try simp at c3
    refine s_skip <| n_K <| s_seq <| s_block <| s_seq <| s_region0 fun ops => oM rfl <| oA rfl <| o_nil <| n_K <| s_region0 fun ops => oM rfl ?_
    refine oR (rd_ixA rfl rfl (by omega)) ?_
    refine o_store (cs' := vbc (fillF (i + 1))) rfl rfl uD rfl rfl (by simpa using fillF_step (i := i) (by omega)) ?_
    refine o_nil <| n_blk <| n_K <| s_region0 fun ops => ?_
    refine oR (rd_add64 rfl rfl (by omega)) ?_
    refine oM rfl <| o_nil <| n_K ?_
    exact ⟨i + 1, (by omega), (by omega), lZ⟩
  · try simp at c3
    refine s_exit <| x_K <| x_K <| x_blk <| n_K <| s_seq <| s_region0 fun ops => ?_
    refine oR (rd_ldA rfl mM (by first | exact cut_vb | rfl)) ?_
    first | refine o_store rfl rfl uD (vc_vb) (vbc_len) (spl_vb (by first | exact vbc_len | exact List.length_replicate ..)) ?_ | refine o_store rfl rfl uD rfl rfl rfl ?_
    refine o_nil <| n_K <| s_ret ?_
    refine leaf_is (rets1 Tryz.results68 (rv_cell rfl mM (by first | exact cut_vb | rfl))) ?_ sP
    rw [show i = 258 by omega, fillF_end]
abbrev tPw : TypeId := 98
abbrev tCh : TypeId := 90
abbrev tBk : TypeId := 85
abbrev ptr (p : Nat) : Value := .pointer (some ⟨p, 0, none⟩)
@[irreducible] def chH (c : Chip) : Hp := (c.aP, true, C (pwc c) tPw) :: (c.aC, true, C (chc c) tCh) :: (c.aB, true, C (rowc c.blocks) tBk) :: (c.pf.hp tI ++ (c.wf.hp tI ++ []))
theorem chH_eq (c : Chip) : chH c = (c.aP, true, C (pwc c) tPw) :: (c.aC, true, C (chc c) tCh) :: (c.aB, true, C (rowc c.blocks) tBk) :: (c.pf.hp tI ++ (c.wf.hp tI ++ [])) := by unfold chH; rfl
section
variable {c : Chip} {i j : Int}
theorem off_fn : Does Tryz.prog 123 [ptr c.aP] [(c.aP, true, C (pwc c) tPw)] (Is (.bool c.off) [(c.aP, true, C (pwc c) tPw)]) := by
  refine fn_enter (n := 7) Tryz.func123 Tryz.ntmps123 rfl (Nat.le_of_ble_eq_true rfl) <| s_seq <| s_region0 fun ops => oA rfl <| o_nil <| n_K <| s_seq <| s_region0 fun ops => oM rfl <| oN rfl <| oF rfl ?_
  refine oR (rd_ld rfl mM rfl) ?_
  refine oA rfl <| o_nil <| n_K <| s_ret ?_
  refine leaf_is (rets1 Tryz.results123 (rv_tmp rfl)) ?_ sP
  rfl
theorem live_fn : Does Tryz.prog 124 [ptr c.aC] [(c.aC, true, C (chc c) tCh)] (Is (.bool (!c.dead && !c.out)) [(c.aC, true, C (chc c) tCh)]) := by
  refine fn_enter (n := 15) Tryz.func124 Tryz.ntmps124 rfl (Nat.le_of_ble_eq_true rfl) <| s_seq <| s_region0 fun ops => oA rfl <| o_nil <| n_K <| s_seq ?_
  refine s_region [(5, 8)] rfl fun ops y => ?_
  refine oM rfl <| oN rfl <| oF rfl ?_
  refine oR (rd_ld rfl mM rfl) ?_
  refine oR (rd_not rfl) <| oM rfl ?_
  refine' o_and (j := 5) (k := 5) y rfl rfl rfl rfl rfl rfl rfl (fun hg8 => ?_) ?_
  rotate_left
  · try (simp at hg8; show _)
    refine o_g y rfl rfl ?_
    refine oM rfl ?_
    refine o_g y rfl rfl ?_
    refine oN rfl ?_
    refine o_g y rfl rfl ?_
    refine oF rfl ?_
    refine o_g y rfl rfl ?_
    refine oR (rd_ld rfl mM rfl) ?_
    refine o_g y rfl rfl ?_
    refine oR (rd_not rfl) ?_
    exact o_nil ⟨rfl, rfl, ⟨_, sP⟩⟩
  refine oA rfl <| o_nil <| n_K <| s_ret ?_
  refine leaf_is (rets1 Tryz.results124 (rv_tmp rfl)) ?_ sP
  rfl
theorem blocks_fn0 : Does Tryz.prog 70 [ptr c.aC] [(c.aC, true, C (chc c) tCh)] (Is (.int .i64 c.blocks.length) [(c.aC, true, C (chc c) tCh)]) := by
  refine fn_enter (n := 8) Tryz.func70 Tryz.ntmps70 rfl (Nat.le_of_ble_eq_true rfl) <| s_seq <| s_region0 fun ops => oA rfl <| o_nil <| n_K <| s_seq <| s_region0 fun ops => oM rfl <| oN rfl <| oF rfl ?_
  refine oR (rd_ld rfl mM rfl) ?_
  refine oR (rd_lenS rfl) <| oA rfl <| o_nil <| n_K <| s_ret ?_
  refine leaf_is (rets1 Tryz.results70 (rv_tmp rfl)) ?_ sP
  rfl
theorem there_fn : Does Tryz.prog 36 [ptr c.aC, .int .i64 i] [(c.aC, true, C (chc c) tCh)] (Is (.bool (thereB c i)) [(c.aC, true, C (chc c) tCh)]) := by
  refine fn_enter (n := 16) Tryz.func36 Tryz.ntmps36 rfl (Nat.le_of_ble_eq_true rfl) <| s_seq <| s_region0 fun ops => oA rfl <| o_nil <| n_K <| s_seq ?_
  refine s_region [(2, 7)] rfl fun ops y => ?_
  refine oM rfl <| oR (rd_bin rfl rfl rfl) <| oM rfl ?_
  refine' o_and (j := 2) (k := 7) y rfl rfl rfl rfl rfl rfl rfl (fun hg7 => ?_) ?_
  rotate_left
  · try (simp at hg7; show _)
    refine o_g y rfl rfl ?_
    refine oM rfl ?_
    refine o_g y rfl rfl ?_
    refine oM rfl ?_
    refine o_g y rfl rfl ?_
    refine oN rfl ?_
    refine o_g y rfl rfl ?_
    refine oF rfl ?_
    refine o_g y rfl rfl ?_
    refine oR (rd_ld rfl mM rfl) ?_
    refine o_g y rfl rfl ?_
    refine oR (rd_lenS rfl) ?_
    refine o_g y rfl rfl ?_
    refine oR (rd_bin rfl rfl rfl) ?_
    exact o_nil ⟨rfl, rfl, ⟨_, sP⟩⟩
  refine oA rfl <| o_nil <| n_K <| s_ret ?_
  refine leaf_is (rets1 Tryz.results36 (rv_tmp rfl)) ?_ sP
  rfl
theorem nmay_fn : Does Tryz.prog 95 [ptr c.aC, .int .i64 i, .int .i64 j] [(c.aP, true, C (pwc c) tPw), (c.aC, true, C (chc c) tCh)] (Is (.int .i64 (mayE c i j)) [(c.aP, true, C (pwc c) tPw), (c.aC, true, C (chc c) tCh)]) := by
  refine fn_enter (n := 30) Tryz.func95 Tryz.ntmps95 rfl (Nat.le_of_ble_eq_true rfl) <| s_seq <| s_region0 fun ops => oA rfl <| o_nil <| n_K <| s_seq <| s_block <| s_seq <| s_region0 fun ops => oM rfl <| oN rfl <| oF rfl ?_
  refine oR (rd_ld rfl mM rfl) ?_
  refine c_is rfl (off_fn) sP rfl aQ ?_
  refine oA rfl <| o_nil <| n_K ?_
  refine s_cond rfl (fun c7 => ?_) (fun c7 => ?_)
  · skip
    refine s_seq <| s_region0 fun ops => oA rfl <| o_nil <| n_K <| s_ret <| r_blk <| r_K ?_
    refine leaf_is (rets1 Tryz.results95 (rv_tmp rfl)) ?_ sP
    rw [mayE, if_pos c7]
  · skip
    refine s_seq <| s_region0 fun ops => oM rfl ?_
    refine c_is rfl (live_fn) sP rfl aQ ?_
    refine oR (rd_not rfl) <| oA rfl <| o_nil <| n_K ?_
    refine s_cond rfl (fun c13 => ?_) (fun c13 => ?_)
    · skip
      refine s_seq <| s_region0 fun ops => oA rfl <| o_nil <| n_K <| s_ret <| r_blk <| r_K ?_
      refine leaf_is (rets1 Tryz.results95 (rv_tmp rfl)) ?_ sP
      rw [mayE, if_neg (by rw [c7]; exact Bool.false_ne_true), if_pos c13]
    · skip
      refine s_seq ?_
      refine s_region [(4, 22), (8, 26)] rfl fun ops y => ?_
      refine oM rfl <| oM rfl ?_
      refine c_is rfl (there_fn) sP rfl aQ ?_
      refine oR (rd_not rfl) <| oM rfl ?_
      refine' o_or (j := 4) (k := 2) y rfl rfl rfl rfl rfl rfl rfl (fun hg22 => ?_) ?_
      rotate_left
      · try (simp at hg22; show _)
        refine o_g y rfl rfl ?_
        refine oM rfl ?_
        refine o_g y rfl rfl ?_
        refine oR (rd_bin rfl rfl rfl) ?_
        exact o_nil ⟨rfl, rfl, ⟨_, sP⟩⟩
      refine oM rfl ?_
      refine' o_or (j := 8) (k := 2) y rfl rfl rfl rfl rfl rfl rfl (fun hg26 => ?_) ?_
      rotate_left
      · try (simp at hg26; show _)
        refine o_g y rfl rfl ?_
        refine oM rfl ?_
        refine o_g y rfl rfl ?_
        refine oR (rd_bin rfl rfl rfl) ?_
        exact o_nil ⟨rfl, rfl, ⟨_, sP⟩⟩
      refine oA rfl <| o_nil <| n_K ?_
      refine s_cond rfl (fun c17 => ?_) (fun c17 => ?_)
      · skip
        refine s_seq <| s_region0 fun ops => oA rfl <| o_nil <| n_K <| s_ret <| r_blk <| r_K ?_
        refine leaf_is (rets1 Tryz.results95 (rv_tmp rfl)) ?_ sP
        rw [mayE, if_neg (by rw [c7]; exact Bool.false_ne_true), if_neg (by rw [c13]; exact Bool.false_ne_true), if_pos c17]
      · skip
        refine s_skip <| n_blk <| n_K <| s_seq <| s_region0 fun ops => oA rfl <| o_nil <| n_K <| s_ret ?_
        refine leaf_is (rets1 Tryz.results95 (rv_tmp rfl)) ?_ sP
        rw [mayE, if_neg (by rw [c7]; exact Bool.false_ne_true), if_neg (by rw [c13]; exact Bool.false_ne_true), if_neg (by rw [c17]; exact Bool.false_ne_true)]
theorem blocks_fn : Does Tryz.prog 70 [ptr c.aC] (chH c) (Is (.int .i64 c.blocks.length) (chH c)) := by
  rw [chH_eq]
  refine fn_enter (n := 8) Tryz.func70 Tryz.ntmps70 rfl (Nat.le_of_ble_eq_true rfl) <| s_seq <| s_region0 fun ops => oA rfl <| o_nil <| n_K <| s_seq <| s_region0 fun ops => oM rfl <| oN rfl <| oF rfl ?_
  refine oR (rd_ld rfl mM rfl) ?_
  refine oR (rd_lenS rfl) <| oA rfl <| o_nil <| n_K <| s_ret ?_
  refine leaf_is (rets1 Tryz.results70 (rv_tmp rfl)) ?_ sP
  rfl
theorem read_fn : Does Tryz.prog 56 [ptr c.aC, .int .i64 i, .int .i64 j] (chH c) (Is (.tuple #[.agg (vbc (readP c i j)).toArray, .int .i64 (mayE c i j)]) (chH c)) := by
  rw [chH_eq]
  refine fn_enter (n := 27) Tryz.func56 Tryz.ntmps56 rfl (Nat.le_of_ble_eq_true rfl) <| s_seq <| s_region0 fun ops => ?_
  refine o_alloc rfl fun b6 => ?_
  refine oA rfl <| o_nil <| n_K <| s_seq <| s_seq <| s_region0 fun ops => oM rfl <| oM rfl <| oM rfl ?_
  refine c_is rfl (nmay_fn) sP rfl aQ ?_
  refine oA rfl <| o_nil <| n_K <| s_seq <| s_region0 fun ops => oM rfl <| oR (rd_bin rfl rfl rfl) <| o_nil <| n_K ?_
  refine s_cond rfl (fun c14 => ?_) (fun c14 => ?_)
  · skip
    refine s_seq <| s_region0 fun ops => ?_
    refine oR (show Rd _ _ _ _ (.agg (vbc zeroP).toArray) from by (rw [← zeroP_eq]; exact rd_zeroA)) ?_
    refine oM rfl ?_
    first | refine o_store rfl rfl uD (vc_vb) (vbc_len) (spl_vb (by first | exact vbc_len | exact List.length_replicate ..)) ?_ | refine o_store rfl rfl uD rfl rfl rfl ?_
    refine oA rfl <| o_nil <| n_K <| s_ret <| r_K ?_
    refine leaf_is (rets2 Tryz.results56 (rv_cell rfl mM (by first | exact cut_vb | rfl)) (rv_tmp rfl)) ?_ sP
    (have hm : ¬ mayE c i j = 0 := by simpa using c14); rw [readP, if_neg hm]
  · skip
    have hm : mayE c i j = 0 := by simpa using c14
    obtain ⟨m0, m1, m2, m3, _⟩ := may_in hm
    refine s_skip <| n_K <| s_seq <| s_region0 fun ops => oM rfl <| oN rfl <| oF rfl ?_
    refine oR (rd_ld rfl mM rfl) ?_
    refine oM rfl <| oM rfl ?_
    refine oR (rd_ixS rfl rfl (by omega)) ?_
    refine oF rfl ?_
    refine oR (rd_ixA rfl rfl (by omega)) ?_
    refine oR (rd_ldA rfl mM (show cut (rowc c.blocks) _ 258 = _ by simpa using cut_page m0 m1 m2 m3)) ?_
    first | refine o_store rfl rfl uD (vc_vb) (vbc_len) (spl_vb (by first | exact vbc_len | exact List.length_replicate ..)) ?_ | refine o_store rfl rfl uD rfl rfl rfl ?_
    refine oA rfl <| o_nil <| n_K <| s_ret ?_
    refine leaf_is (rets2 Tryz.results56 (rv_cell rfl mM (by first | exact cut_vb | rfl)) (rv_tmp rfl)) ?_ sP
    rw [readP, if_pos hm, hm]
end
section
variable {c : Chip} {i j : Int}
theorem ends_fn : Does Tryz.prog 110 [ptr c.aP] [(c.aP, true, C (pwc c) tPw)] (Is (.bool (endsB c)) [(c.aP, true, C (pwc (endsC c)) tPw)]) := by
  refine fn_enter (n := 27) Tryz.func110 Tryz.ntmps110 rfl (Nat.le_of_ble_eq_true rfl) <| s_seq <| s_region0 fun ops => oA rfl <| o_nil <| n_K <| s_seq <| s_seq <| s_region0 fun ops => oM rfl <| oN rfl <| oF rfl ?_
  refine oR (rd_ld rfl mM rfl) ?_
  refine oR (rd_bin rfl rfl rfl) <| o_nil <| n_K ?_
  refine s_cond rfl (fun c7 => ?_) (fun c7 => ?_)
  · try simp at c7
    refine s_seq <| s_region0 fun ops => oA rfl <| o_nil <| n_K <| s_ret <| r_K ?_
    refine leaf_is (rets1 Tryz.results110 (rv_tmp rfl)) ?_ (by first | (rw [pwc_pos c7]; exact sP) | (rw [pwc_neg c7]; exact sP))
    simp [endsB, c7]
  · try simp at c7
    refine s_skip <| n_K <| s_seq <| s_region0 fun ops => oM rfl <| oM rfl <| oN rfl <| oF rfl ?_
    refine oR (rd_ld rfl mM rfl) ?_
    refine oR (rd_bin rfl rfl rfl) <| oN rfl <| oF rfl ?_
    refine o_store rfl rfl uD rfl rfl rfl ?_
    refine o_nil <| n_K <| s_seq <| s_region0 fun ops => oM rfl <| oN rfl <| oF rfl ?_
    refine oR (rd_ld rfl mM rfl) ?_
    refine oR (rd_bin rfl rfl rfl) <| oN rfl <| oF rfl ?_
    refine o_store rfl rfl uD rfl rfl rfl ?_
    refine o_nil <| n_K <| s_seq <| s_region0 fun ops => oM rfl <| oN rfl <| oF rfl ?_
    refine oR (rd_ld rfl mM rfl) ?_
    refine oA rfl <| o_nil <| n_K <| s_ret ?_
    refine leaf_is (rets1 Tryz.results110 (rv_tmp rfl)) ?_ (by first | (rw [pwc_pos c7]; exact sP) | (rw [pwc_neg c7]; exact sP))
    simp [endsB, c7]
theorem act1_fn : Does Tryz.prog 109 [.pointer (some ⟨c.aC, 4, none⟩)] ((c.aC, true, C (chc c) tCh) :: (c.pf.hp tI ++ [])) (Is (.bool (failP c)) ((c.aC, true, C (chc (actP c)) tCh) :: (c.pf.hp tI ++ []))) := by
  refine fn_enter (n := 20) Tryz.func109 Tryz.ntmps109 rfl (Nat.le_of_ble_eq_true rfl) <| s_seq <| s_region0 fun ops => oA rfl <| o_nil <| n_K <| s_seq <| s_region0 fun ops => oM rfl <| oN rfl <| oF rfl ?_
  refine oR (rd_ld rfl mM rfl) ?_
  refine oR (rd_bin rfl rfl rfl) <| oN rfl <| oF rfl ?_
  refine o_store rfl rfl uD rfl rfl rfl ?_
  refine o_nil <| n_K <| s_seq ?_
  refine s_draw [] [(9, [(0, false), (1, false), (2, false), (3, false), (4, false), (5, false), (6, false), (7, false), (8, false)]), (10, [(9, true)]), (11, [(10, false)])] (by kernel_rfl) rfl fun ops w0 H0 y => ?_
  refine p_all <| xM rfl <| xN rfl <| xF rfl ?_
  refine xR (rd_ld rfl mM rfl) ?_
  refine xM rfl <| xN rfl <| xF rfl ?_
  refine xR (rd_ld rfl mM rfl) ?_
  refine xR (rd_bin rfl rfl rfl) <| x_nil <| p_none <| x_so ?_
  refine c_is rfl (contains_fn) sP rfl aQ ?_
  refine o_nil ⟨rfl, ⟨_, sP⟩, ?_⟩
  refine x_nil <| p_all <| xA rfl <| x_nil <| p_end <| n_K <| s_ret ?_
  refine leaf_is (rets1 Tryz.results109 (rv_tmp rfl)) ?_ sP
  rfl
theorem act2_fn : Does Tryz.prog 109 [.pointer (some ⟨c.aC, 6, none⟩)] ((c.aC, true, C (chc c) tCh) :: (c.wf.hp tI ++ [])) (Is (.bool (failW c)) ((c.aC, true, C (chc (actW c)) tCh) :: (c.wf.hp tI ++ []))) := by
  refine fn_enter (n := 20) Tryz.func109 Tryz.ntmps109 rfl (Nat.le_of_ble_eq_true rfl) <| s_seq <| s_region0 fun ops => oA rfl <| o_nil <| n_K <| s_seq <| s_region0 fun ops => oM rfl <| oN rfl <| oF rfl ?_
  refine oR (rd_ld rfl mM rfl) ?_
  refine oR (rd_bin rfl rfl rfl) <| oN rfl <| oF rfl ?_
  refine o_store rfl rfl uD rfl rfl rfl ?_
  refine o_nil <| n_K <| s_seq ?_
  refine s_draw [] [(9, [(0, false), (1, false), (2, false), (3, false), (4, false), (5, false), (6, false), (7, false), (8, false)]), (10, [(9, true)]), (11, [(10, false)])] (by kernel_rfl) rfl fun ops w0 H0 y => ?_
  refine p_all <| xM rfl <| xN rfl <| xF rfl ?_
  refine xR (rd_ld rfl mM rfl) ?_
  refine xM rfl <| xN rfl <| xF rfl ?_
  refine xR (rd_ld rfl mM rfl) ?_
  refine xR (rd_bin rfl rfl rfl) <| x_nil <| p_none <| x_so ?_
  refine c_is rfl (contains_fn) sP rfl aQ ?_
  refine o_nil ⟨rfl, ⟨_, sP⟩, ?_⟩
  refine x_nil <| p_all <| xA rfl <| x_nil <| p_end <| n_K <| s_ret ?_
  refine leaf_is (rets1 Tryz.results109 (rv_tmp rfl)) ?_ sP
  rfl
end
theorem write_fn {pb k i : Nat} {n : Int} {l : List Blk} {b : Blk} {d : Pg} (hk : l[k]? = some b) (hi : i < 8) :
    Does Tryz.prog 111 [.pointer (some ⟨pb, k * 2066, none⟩), .int .i64 (i : Int), .int .i64 n, .agg (vbc d).toArray] [(pb, true, C (rowc l) tBk)]
      (Is (.tuple #[]) [(pb, true, C (rowc (l.set k (wrB b i (clampN n 258) d hi))) tBk)]) := by
  refine fn_enter (n := 32) Tryz.func111 Tryz.ntmps111 rfl (Nat.le_of_ble_eq_true rfl) <| s_seq <| s_region0 fun ops => ?_
  refine o_boxA rfl rfl fun b7 => ?_
  refine o_nil <| n_K <| s_seq <| s_region0 fun ops => oM rfl <| oR (rd_max rfl rfl) <| oR (rd_min rfl rfl) <| oM rfl <| o_nil <| n_K <| s_block ?_
  have hset : l.set k (wrB b i 0 d hi) = l := by (rw [wrB_0]; have := List.getElem?_eq_some_iff.1 hk; obtain ⟨h1, rfl⟩ := this; exact List.set_getElem_self h1)
  rw [← congrArg rowc hset]
  have hmm : (min (max n 0) 258) = (clampN n 258 : Nat) ∧ clampN n 258 ≤ 258 := by unfold clampN; omega
  refine s_loop2 [0, 1, 7, 11] kQ (fun (s : Nat) => [(12, .int .i64 s)]) (fun (s : Nat) => [(b7, true, C (vbc d) 69), (pb, true, C (rowc (l.set k (wrB b i s d hi))) tBk)]) (fun (s : Nat) => s ≤ clampN n 258) (fun (s : Nat) => clampN n 258 - s) ((0 : Nat)) (by omega) kP sP ?_
  rintro j h0
  refine s_seq <| s_region0 fun ops => oR (rd_bin rfl rfl rfl) <| o_nil <| n_K <| s_seq ?_
  refine s_cond rfl (fun c13 => ?_) (fun c13 => ?_)
  · simp only [decide_eq_true_eq, decide_eq_false_iff_not] at c13; rw [hmm.1] at c13
    have hj : j < 258 := by omega
    refine s_skip <| n_K <| s_seq <| s_block <| s_seq <| s_region0 fun ops => oM rfl <| oA rfl <| o_nil <| n_K ?_
    refine s_draw [] [(16, [(0, false), (1, false), (2, false), (3, false), (4, false), (5, false), (6, false), (7, false), (8, false), (9, false), (10, false), (11, false), (12, false), (13, false), (14, false), (15, false)]), (17, [(16, true)])] (by kernel_rfl) rfl fun ops w0 H0 y => ?_
    refine p_all <| xM rfl <| xM rfl <| xM rfl <| xN rfl <| xF rfl ?_
    refine xR (rd_ixA rfl rfl (by omega)) ?_
    refine xR (rd_ixA rfl rfl (by omega)) ?_
    refine xR (rd_ld rfl mM (show nth _ _ = some (bv b.pages[i][j]) by simpa [Nat.add_assoc] using wr_at hk hi hj)) ?_
    refine xM rfl ?_
    refine xR (rd_ixA rfl rfl (by omega)) ?_
    refine xR (rd_ld rfl mM (show nth _ _ = some (bv d[j]) by simpa using nth_vb (p := d) hj)) ?_
    refine xR (show Rd _ _ _ _ (bv (b.pages[i][j] &&& d[j])) from by (unfold bv; rw [← and_by]; exact rd_bin rfl rfl rfl)) ?_
    refine xN rfl <| xF rfl ?_
    refine xR (rd_ixA rfl rfl (by omega)) ?_
    refine xR (rd_ixA rfl rfl (by omega)) ?_
    refine x_nil <| p_none <| x_so ?_
    refine o_store (cs' := rowc (l.set k (wrB b i (j + 1) d hi))) rfl rfl uD rfl rfl (by simpa [Nat.add_assoc] using wr_step hk hi hj) ?_
    refine o_nil ⟨rfl, ⟨_, sP⟩, ?_⟩
    refine x_nil <| p_end <| n_blk <| n_K <| s_region0 fun ops => ?_
    refine oR (rd_add64 rfl rfl (by omega)) ?_
    refine oM rfl <| o_nil <| n_K ?_
    exact ⟨j + 1, (by omega), (by omega), lZ⟩
  · simp only [decide_eq_true_eq, decide_eq_false_iff_not] at c13; rw [hmm.1] at c13
    refine s_exit <| x_K <| x_K <| x_blk ?_
    refine leaf_isN (ret0 Tryz.results111) ?_ (by rw [show j = clampN n 258 by omega]; repeat (first | exact Split.nil | (apply Split.cons; next => repeat (first | exact Pick.here | apply Pick.there))))
    rfl
theorem wipe_fn {pb k : Nat} {n : Int} {l : List Blk} {b : Blk} (hk : l[k]? = some b) :
    Does Tryz.prog 41 [.pointer (some ⟨pb, k * 2066, none⟩), .int .i64 n] [(pb, true, C (rowc l) tBk)]
      (Is (.tuple #[]) [(pb, true, C (rowc (l.set k (wipeB b (clampN n 8)))) tBk)]) := by
  refine fn_enter (n := 18) Tryz.func41 Tryz.ntmps41 rfl (Nat.le_of_ble_eq_true rfl) <| s_seq <| s_region0 fun ops => oM rfl <| oR (rd_max rfl rfl) <| oR (rd_min rfl rfl) <| oM rfl <| o_nil <| n_K <| s_block ?_
  have hset : l.set k (wipeB b 0) = l := by (rw [wipeB_0]; have := List.getElem?_eq_some_iff.1 hk; obtain ⟨h1, rfl⟩ := this; exact List.set_getElem_self h1)
  rw [← congrArg rowc hset]
  have hmm : (min (max n 0) 8) = (clampN n 8 : Nat) ∧ clampN n 8 ≤ 8 := by unfold clampN; omega
  refine s_loop2 [0, 7] kQ (fun (s : Nat) => [(8, .int .i64 s)]) (fun (s : Nat) => [(pb, true, C (rowc (l.set k (wipeB b s))) tBk)]) (fun (s : Nat) => s ≤ clampN n 8) (fun (s : Nat) => clampN n 8 - s) ((0 : Nat)) (by omega) kP sP ?_
  rintro j h0
  refine s_seq <| s_region0 fun ops => oR (rd_bin rfl rfl rfl) <| o_nil <| n_K <| s_seq ?_
  refine s_cond rfl (fun c9 => ?_) (fun c9 => ?_)
  · simp only [decide_eq_true_eq, decide_eq_false_iff_not] at c9; rw [hmm.1] at c9
    have hj : j < 8 := by omega
    refine s_skip <| n_K <| s_seq <| s_block <| s_seq <| s_region0 fun ops => oM rfl <| oA rfl <| o_nil <| n_K ?_
    refine s_draw [] [(5, [(0, false), (1, false), (3, false), (4, false), (2, true)]), (6, [(5, false)]), (7, [(6, true)])] (by kernel_rfl) rfl fun ops w0 H0 y => ?_
    refine p_all <| xM rfl <| xM rfl <| xN rfl <| xF rfl <| x_so ?_
    refine c_is rfl (blank_fn) sP rfl aQ ?_
    refine o_nil ⟨rfl, ⟨_, sP⟩, ?_⟩
    refine x_nil <| p_all ?_
    refine xR (rd_ixA rfl rfl (by omega)) ?_
    refine x_nil <| p_none <| x_so ?_
    refine o_store (cs' := rowc (l.set k (wipeB b (j + 1)))) rfl rfl uD vc_vb vbc_len (by simpa [Nat.add_assoc] using wipe_step hk hj) ?_
    refine o_nil ⟨rfl, ⟨_, sP⟩, ?_⟩
    refine x_nil <| p_end <| n_blk <| n_K <| s_region0 fun ops => ?_
    refine oR (rd_add64 rfl rfl (by omega)) ?_
    refine oM rfl <| o_nil <| n_K ?_
    exact ⟨j + 1, (by omega), (by omega), lZ⟩
  · simp only [decide_eq_true_eq, decide_eq_false_iff_not] at c9; rw [hmm.1] at c9
    refine s_exit <| x_K <| x_K <| x_blk ?_
    refine leaf_isN (ret0 Tryz.results41) ?_ (by rw [show j = clampN n 8 by omega]; repeat (first | exact Split.nil | (apply Split.cons; next => repeat (first | exact Pick.here | apply Pick.there))))
    rfl
section
variable {c : Chip} {i j : Int}
theorem bad_fn : Does Tryz.prog 71 [ptr c.aC, .int .i64 i] (chH c) (Is (.bool (thereB c i && badAt c i)) (chH c)) := by
  rw [chH_eq]
  refine fn_enter (n := 18) Tryz.func71 Tryz.ntmps71 rfl (Nat.le_of_ble_eq_true rfl) <| s_seq <| s_region0 fun ops => oA rfl <| o_nil <| n_K <| s_seq ?_
  refine s_region [(3, 8)] rfl fun ops y => ?_
  refine oM rfl <| oM rfl ?_
  refine c_is rfl (there_fn) sP rfl aQ ?_
  refine oM rfl ?_
  refine' o_and (j := 3) (k := 8) y rfl rfl rfl rfl rfl rfl rfl (fun hg8 => ?_) ?_
  rotate_left
  · try (simp at hg8; show _)
    refine o_g y rfl rfl ?_
    refine oM rfl ?_
    refine o_g y rfl rfl ?_
    refine oN rfl ?_
    refine o_g y rfl rfl ?_
    refine oF rfl ?_
    refine o_g y rfl rfl ?_
    refine oR (rd_ld rfl mM rfl) ?_
    refine o_g y rfl rfl ?_
    refine oM rfl ?_
    refine o_g y rfl rfl ?_
    refine oR (rd_ixS rfl rfl (there_in hg8)) ?_
    refine o_g y rfl rfl ?_
    refine oF rfl ?_
    refine o_g y rfl rfl ?_
    refine oR (rd_ld rfl mM (show nth _ _ = some (.bool (badAt c i)) by simpa [Nat.add_assoc] using bad_at hg8)) ?_
    exact o_nil ⟨rfl, rfl, ⟨_, sP⟩⟩
  refine oA rfl <| o_nil <| n_K <| s_ret ?_
  refine leaf_is (rets1 Tryz.results71 (rv_tmp rfl)) ?_ sP
  rfl
end
end Go.Proofs.YtkfcpjohblddmaaGreat
end
