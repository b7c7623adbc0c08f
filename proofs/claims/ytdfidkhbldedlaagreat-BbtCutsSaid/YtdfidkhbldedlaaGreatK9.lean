/-
  The thin layer, ninth part: append, copy.
-/
import Derived.Test.YtdfidkhbldedlaaGreatK8
namespace Go.K
set_option linter.unusedVariables false
set_option linter.unusedSimpArgs false
section
variable {P : Program} {n : Nat} {E : Env} {H : Hp} {Q : Post} {ops : Array Oper} {rest : List Oper}
/-! ### append -/
theorem growBy_le (newLen : Nat) : ∀ (r c : Nat), Builtin.growBy newLen r c ≤ max c (newLen + (newLen + 768) / 4)
  | 0, c => by simp [Builtin.growBy]; omega
  | r + 1, c => by
    unfold Builtin.growBy
    split
    · omega
    · rename_i h
      have := growBy_le newLen r (c + (c + 768) / 4)
      omega
theorem nextcap_le (need cap : Nat) (h : cap < need) : Builtin.nextslicecap need cap ≤ 2 * need + 1024 := by
  unfold Builtin.nextslicecap
  have := growBy_le need 4 cap
  split
  · omega
  · split <;> omega

/-- Where the cells come from that are appended. -/
def Src (H : Hp) (size : Nat) (v : Value) (m : Nat) (new : List Value) : Prop :=
  (∃ b o c r cs T fr, v = .slice (some ⟨b, o, none⟩) m c ∧ (b, r, CF cs T fr) ∈ H ∧ cut cs o (m * size) = some new) ∨ (∃ p c, v = .slice p m c ∧ m = 0 ∧ new = [])
theorem src_blk {H : Hp} {size b o m c : Nat} {r : Bool} {cs new : List Value} {T : TypeId} {fr : Nat × Nat} (hm : (b, r, CF cs T fr) ∈ H) (hc : cut cs o (m * size) = some new) : Src H size (.slice (some ⟨b, o, none⟩) m c) m new := .inl ⟨b, o, c, r, cs, T, fr, rfl, hm, hc⟩
theorem src_nil {H : Hp} {size c : Nat} {p : Option Addr} : Src H size (.slice p 0 c) 0 [] := .inr ⟨p, c, rfl, rfl, rfl⟩
theorem run_load0 {a : Addr} {w : World} : (loadCells a 0).run P w = .ok (#[] : Array Value) w := by
  have := run_loadCells_list (P := P) w a [] (fun j u hu => by simp at hu)
  simpa using this

theorem run_firstCells {H : Hp} {w : World} {size : Nat} {v : Value} {m : Nat} {new : List Value} (h : HpOk H w) (hs : Src H size v m new) : (Builtin.firstCells size m v).run P w = .ok new.toArray w ∧ (Builtin.lenOf v).run P w = .ok m w ∧ new.length = m * size := by
  rcases hs with ⟨b, o, c, r, cs, T, fr, rfl, hm, hc⟩ | ⟨p, c, rfl, rfl, rfl⟩
  · obtain ⟨h1, h2, h3⟩ := cut_eq cs o _ new hc
    have hl : (loadCells ⟨b, o, none⟩ new.length).run P w = .ok new.toArray w := run_loadCells_list (P := P) w ⟨b, o, none⟩ new (fun j u hu => by
      rw [add_none, cell_C (h.here _ hm), nth_eq]
      subst h1
      rw [List.getElem?_take] at hu
      split at hu
      · simpa using hu
      · cases hu)
    rw [h3] at hl
    exact ⟨by simpa [Builtin.firstCells] using hl, by simp [Builtin.lenOf], h3⟩
  · refine ⟨?_, by simp [Builtin.lenOf], by simp⟩
    cases p with
    | none => simp [Builtin.firstCells]
    | some a => simpa [Builtin.firstCells] using run_load0 (P := P) (a := a) (w := w)

theorem src_one {H : Hp} {w : World} {size : Nat} {v : Value} {m : Nat} {new : List Value} (hs : Src H size v m new) (hc : ∀ x ∈ new, x.oneCell' = true) : True := trivial

/-- A block is no longer known. -/
theorem Trk.drop {w w' : World} {H G F : Hp} {x : Blk} (h : Trk w w' H G) (hp : Pick x G F) : Trk w w' H F :=
  have hperm := hp.perm
  h.sub ((h.ok.perm hperm).right (L := [x])) (fun y hy => hperm.mem_iff.2 (.tail _ hy))

theorem run_choose (w : World) (need cap : Nat) (e : TypeId) : (choose (.appendCap need cap e)).run P w = .ok ((Question.appendCap need cap e).cut (w.tape w.drawn (.appendCap need cap e))) { w with drawn := w.drawn + 1 } := by
  have h : (Question.appendCap need cap e).forced = false := rfl
  simp [choose, Sem.run, h]
theorem run_append_in {H : Hp} {w : World} {t u e ty : TypeId} {sz m l c : Nat} {p : Option Addr} {v : Value} {new : List Value} [ht : Und P t (.slice e)] [hu : Und P u (.slice e)] [hs : Siz P e sz] (h : HpOk H w) (hsrc : Src H sz v m new) (hcase : l + m ≤ c) :
    (Builtin.append_ #[t, u] ty #[.slice p l c, v]).run P w = ((match p with | some a => storeCells (a.add (l * sz)) new | none => pure ()).run P w).andThen fun _ w' => .ok (.slice p (l + m) c) w' := by
  obtain ⟨hf1, hf2, hf3⟩ := run_firstCells (P := P) h hsrc
  cases p <;> simp [Builtin.append_, run_underlying ht.eq, run_underlying hu.eq, run_sizeOf, hf1, hf2, hcase]
theorem run_append_new {H : Hp} {w : World} {t u e ty : TypeId} {sz bs m l c : Nat} {p : Option Addr} {v : Value} {old new zs : List Value} [ht : Und P t (.slice e)] [hu : Und P u (.slice e)] [hz : Zer P e zs] [hs : Siz P e sz] [hby : Byt P e bs]
    (h : HpOk H w) (hsrc : Src H sz v m new) (hold : ∀ k, (Builtin.firstCells sz l (.slice p l c)).run P { w with drawn := k } = .ok old.toArray { w with drawn := k }) (hcase : ¬ l + m ≤ c) (hzl : zs.length = sz) (hbs : 1 ≤ bs) (hroom : (2 * (l + m) + 1024) * bs ≤ 281474976710656) :
    ∃ nc, l + m ≤ nc ∧ (Builtin.append_ #[t, u] ty #[.slice p l c, v]).run P w = .ok (.slice (some ⟨w.heap.size, 0, none⟩) (l + m) nc) { w with heap := w.heap.push (C (old ++ new ++ zrep (nc - (l + m)) zs) e), drawn := w.drawn + 1 } := by
  obtain ⟨hf1, hf2, hf3⟩ := run_firstCells (P := P) h hsrc
  obtain ⟨z, hz1, hz2⟩ := run_zeroCells (P := P) (t := e) { w with drawn := w.drawn + 1 }
  have hnew : (Builtin.firstCells sz m v).run P { w with drawn := w.drawn + 1 } = .ok new.toArray { w with drawn := w.drawn + 1 } := (run_firstCells (P := P) (trk_drawn h (w.drawn + 1)).ok hsrc).1
  have hbytes := hby.eq
  refine ⟨(Question.appendCap (l + m) c e).cut (w.tape w.drawn (.appendCap (l + m) c e)), by simp only [Question.cut]; omega, ?_⟩
  generalize hnc : (Question.appendCap (l + m) c e).cut (w.tape w.drawn (.appendCap (l + m) c e)) = nc
  have hzc : Builtin.zeroCells z.cells (nc - (l + m)) = (zrep (nc - (l + m)) zs).toArray := by
    unfold Builtin.zeroCells
    have := zrep_eq (nc - (l + m)) z.cells zs hz2
    rw [← this]
    simp [hz2]
  cases hqi : P.info? e with
  | none => simp [hqi] at hbytes
  | some inf =>
    have hbb : inf.bytes = bs := by simpa [hqi] using hbytes
    have hbnd : ¬ Builtin.nextslicecap (l + m) c * inf.bytes > 2 ^ 48 := by
      have := nextcap_le (l + m) c (by omega)
      have h6 : Builtin.nextslicecap (l + m) c * inf.bytes ≤ (2 * (l + m) + 1024) * bs := by rw [hbb]; exact Nat.mul_le_mul_right _ this
      omega
    have hb0 : ¬ inf.bytes = 0 := by omega
    have hti : ∀ w' : World, (typeInfo e).run P w' = .ok inf w' := fun w' => by simp [typeInfo, hqi]
    have hfo : (Question.appendCap (l + m) c e).forced = false := rfl
    have hold' : (Builtin.firstCells sz l (.slice p l c)).run P w.drew = .ok old.toArray w.drew := hold _
    have hnew' : (Builtin.firstCells sz m v).run P w.drew = .ok new.toArray w.drew := hnew
    have hz1' : (zeroValue e).run P w.drew = .ok z w.drew := hz1
    simp [Builtin.append_, run_underlying ht.eq, run_underlying hu.eq, run_sizeOf, hf1, hf2, hcase, hti, hb0, hbnd, hfo, hnc, run_askRoom, hold', hnew', hz1', hzc, newRow, C, CF]
    rfl

theorem firstCells_nil {sz : Nat} {w : World} (k : Nat) : (Builtin.firstCells sz 0 (.slice none 0 0)).run P { w with drawn := k } = .ok ([] : List Value).toArray { w with drawn := k } := by simp [Builtin.firstCells]
theorem exec_append {a : Act} {w : World} {d : Option Tmp} {t u : TypeId} {x y : Operand} {ty : TypeId} {pos : String} {af : Array Edge} {gd : Option (Nat × Bool)} {vx vy r : Value} {w' : World} (h1 : a.eval x = vx) (h2 : a.eval y = vy)
    (h : (Builtin.append_ #[t, u] ty #[vx, vy]).run P w = .ok r w') : (execOp a.eval ⟨d, .call ⟨.builtin .append, #[x, y], #[t, u]⟩, ty, pos, af, gd⟩).run P w = .ok (.value r) w' := by
  simp only [execOp, deferred_builtin, Sem.run_bind, Result.andThen_ok, invoke, builtin]
  simp [h1, h2, h]
/-- append onto a slice that the call has to itself, of l elements -/
theorem o_append {d : Nat} {t u e : TypeId} {x y : Operand} {ty : TypeId} {pos : String} {af : Array Edge} {b l c m sz bs : Nat} {old spare new zs : List Value} {v : Value} {F : Hp}
    [ht : Und P t (.slice e)] [hu : Und P u (.slice e)] [hz : Zer P e zs] [hs : Siz P e sz] [hby : Byt P e bs]
    (hx : ev E x = some (.slice (some ⟨b, 0, none⟩) l c)) (hy : ev E y = some v) (hp : Pick (b, true, C (old ++ spare) e) H F) (hol : old.length = l * sz) (hcap : (c - l) * sz ≤ spare.length ∧ l ≤ c)
    (hsrc : Src H sz v m new) (h1c : (new.all (·.oneCell')) = true) (hzl : Nat.beq zs.length sz = true) (hbs : Nat.ble 1 bs = true) (hroom : (2 * (l + m) + 1024) * bs ≤ 281474976710656) (hd : Nat.blt d n = true)
    (k : ∀ b' c' (spare' : List Value), (c' - (l + m)) * sz ≤ spare'.length → l + m ≤ c' → SO P n ops rest ((d, .slice (some ⟨b', 0, none⟩) (l + m) c') :: E) ((b', true, C (old ++ new ++ spare') e) :: F) Q) :
    SO P n ops (⟨some d, .call ⟨.builtin .append, #[x, y], #[t, u]⟩, ty, pos, af, none⟩ :: rest) E H Q := by
  intro a w h1 h2 h3 h4
  refine wpList_plain rfl fun K hK => ?_
  have hzl' : zs.length = sz := Nat.eq_of_beq_eq_true hzl
  have hbs' : 1 ≤ bs := Nat.le_of_ble_eq_true hbs
  have hlt : d < a.tmps.size := by rw [h2]; exact Nat.le_of_ble_eq_true hd
  obtain ⟨_, _, hf3⟩ := run_firstCells (P := P) h4 hsrc
  have hmem : (b, true, C (old ++ spare) e) ∈ H := hp.perm.mem_iff.2 (.head _)
  have hall : ∀ z ∈ new, z.oneCell' = true := fun z hz => List.all_eq_true.1 h1c z hz
  have hcut : cut (old ++ spare) 0 (l * sz) = some old := cut_of (by rw [List.drop_zero, ← hol, List.take_left]) (by simp; omega)
  unfold Oper.wp
  by_cases hcase : l + m ≤ c
  · have hsp : splice (old ++ spare) (l * sz) new = some (old ++ new ++ spare.drop new.length) := splice_of (by
      rw [← hol]; simp) (by
      rw [List.length_append, hol, hf3]
      have : l * sz + (c - l) * sz = c * sz := by rw [← Nat.add_mul]; congr 1; omega
      have h2 := Nat.mul_le_mul_right sz hcase
      rw [Nat.add_mul] at h2
      have := hcap.1
      omega)
    have hst : (storeCells ((⟨b, 0, none⟩ : Addr).add (l * sz)) new).run P w = .ok () (setBlk w b (C (old ++ new ++ spare.drop new.length) e)) := by
      obtain ⟨e1, e2⟩ := splice_eq _ _ _ _ hsp
      have hst := run_storeCells_at P b (l * sz) e new 0 (old ++ spare).toArray w (h4.here _ hmem) (by simpa using e2) hall
      rw [add_none, Nat.zero_add, hst, ← setRow_setBlk w b _ (h4.here _ hmem), e1]
      simp
    have hrun := run_append_in (P := P) (t := t) (u := u) (ty := ty) (p := some ⟨b, 0, none⟩) (l := l) (c := c) h4 hsrc hcase
    simp only [hst, Result.andThen_ok] at hrun
    rw [exec_append (ev_ok h1 hx) (ev_ok h1 hy) hrun]
    have hup : ∃ G, Upd b (C (old ++ spare) e) (C (old ++ new ++ spare.drop new.length) e) H G ∧ Pick (b, true, C (old ++ new ++ spare.drop new.length) e) G F := by
      clear hK hrun hst hsp hcut hmem hcase hlt
      generalize hxx : ((b, true, C (old ++ spare) e) : Blk) = xx at hp
      clear k hsrc h4
      induction hp with
      | here => subst hxx; exact ⟨_, .here, .here⟩
      | there _ ih => obtain ⟨G, g1, g2⟩ := ih; exact ⟨_, .there g1, .there g2⟩
    obtain ⟨G, g1, g2⟩ := hup
    have htr := trk_setC h4 g1
    have hG : Trk w (setBlk w b (C (old ++ new ++ spare.drop new.length) e)) H ((b, true, C (old ++ new ++ spare.drop new.length) e) :: F) := htr.sub (htr.ok.perm g2.perm) (fun y hy => g2.perm.mem_iff.2 hy)
    have hlen : (c - (l + m)) * sz ≤ (spare.drop new.length).length := by
      have h2 : (c - (l + m)) * sz = (c - l) * sz - m * sz := by rw [← Nat.sub_mul]; congr 1; omega
      rw [List.length_drop, hf3, h2]
      have := hcap.1
      omega
    exact hK _ _ (wpList_up hG (k b c _ hlen hcase _ _ (h1.put hlt) (by simp [Act.put, h2]) h3 hG.ok))
  · obtain ⟨nc, hnc, hrun⟩ := run_append_new (P := P) (t := t) (u := u) (ty := ty) (p := some ⟨b, 0, none⟩) (l := l) (c := c) (old := old) h4 hsrc (fun k => by
      have ho := trk_drawn h4 k
      exact (run_firstCells (P := P) (H := H) (w := { w with drawn := k }) ho.ok (src_blk (r := true) (cs := old ++ spare) (T := e) hmem hcut)).1) hcase hzl' hbs' hroom
    rw [exec_append (ev_ok h1 hx) (ev_ok h1 hy) hrun]
    have ht' := trk_newC (cs := old ++ new ++ zrep (nc - (l + m)) zs) (T := e) (trk_drawn h4 (w.drawn + 1)).ok
    have htr := (trk_drawn h4 (w.drawn + 1)).trans ht'
    have hG := htr.drop (x := (b, true, C (old ++ spare) e)) (.there hp)
    exact hK _ _ (wpList_up hG (k _ nc _ (by rw [zrep_len, hzl']; exact Nat.le_refl _) hnc _ _ (h1.put hlt) (by simp [Act.put, h2]) h3 hG.ok))
/-- append onto nothing -/
theorem o_append_nil {d : Nat} {t u e : TypeId} {x y : Operand} {ty : TypeId} {pos : String} {af : Array Edge} {m sz bs : Nat} {new zs : List Value} {v : Value}
    [ht : Und P t (.slice e)] [hu : Und P u (.slice e)] [hz : Zer P e zs] [hs : Siz P e sz] [hby : Byt P e bs]
    (hx : ev E x = some (.slice none 0 0)) (hy : ev E y = some v) (hsrc : Src H sz v m new) (hm : 1 ≤ m) (hzl : Nat.beq zs.length sz = true) (hbs : Nat.ble 1 bs = true) (hroom : (2 * m + 1024) * bs ≤ 281474976710656) (hd : Nat.blt d n = true)
    (k : ∀ b' c' (spare' : List Value), spare'.length = (c' - m) * sz → m ≤ c' → SO P n ops rest ((d, .slice (some ⟨b', 0, none⟩) m c') :: E) ((b', true, C (new ++ spare') e) :: H) Q) :
    SO P n ops (⟨some d, .call ⟨.builtin .append, #[x, y], #[t, u]⟩, ty, pos, af, none⟩ :: rest) E H Q := by
  intro a w h1 h2 h3 h4
  refine wpList_plain rfl fun K hK => ?_
  have hzl' : zs.length = sz := Nat.eq_of_beq_eq_true hzl
  have hlt : d < a.tmps.size := by rw [h2]; exact Nat.le_of_ble_eq_true hd
  unfold Oper.wp
  obtain ⟨nc, hnc, hrun⟩ := run_append_new (P := P) (t := t) (u := u) (ty := ty) (p := none) (l := 0) (c := 0) (old := []) h4 hsrc (fun k => firstCells_nil k) (by omega) hzl' (Nat.le_of_ble_eq_true hbs) (by simpa using hroom)
  rw [exec_append (ev_ok h1 hx) (ev_ok h1 hy) hrun]
  rw [Nat.zero_add] at hnc
  have ht' := trk_newC (cs := [] ++ new ++ zrep (nc - (0 + m)) zs) (T := e) (trk_drawn h4 (w.drawn + 1)).ok
  have htr := (trk_drawn h4 (w.drawn + 1)).trans ht'
  have hfin := k w.heap.size nc (zrep (nc - m) zs) (by rw [zrep_len, hzl']) hnc
  have e2 : ([] ++ new ++ zrep (nc - (0 + m)) zs) = new ++ zrep (nc - m) zs := by simp
  have e3 : 0 + m = m := Nat.zero_add m
  rw [e2] at htr ⊢
  rw [e3]
  exact hK _ _ (wpList_up htr (hfin _ _ (h1.put hlt) (by simp [Act.put, h2]) h3 htr.ok))
/-- nothing appended onto nothing -/
theorem o_append_nil0 {d : Nat} {t u e : TypeId} {x y : Operand} {ty : TypeId} {pos : String} {af : Array Edge} {sz : Nat} {new : List Value} {v : Value}
    [ht : Und P t (.slice e)] [hu : Und P u (.slice e)] [hs : Siz P e sz]
    (hx : ev E x = some (.slice none 0 0)) (hy : ev E y = some v) (hsrc : Src H sz v 0 new) (hd : Nat.blt d n = true)
    (k : SO P n ops rest ((d, .slice none 0 0) :: E) H Q) :
    SO P n ops (⟨some d, .call ⟨.builtin .append, #[x, y], #[t, u]⟩, ty, pos, af, none⟩ :: rest) E H Q := by
  intro a w h1 h2 h3 h4
  refine wpList_plain rfl fun K hK => ?_
  have hlt : d < a.tmps.size := by rw [h2]; exact Nat.le_of_ble_eq_true hd
  unfold Oper.wp
  have hrun := run_append_in (P := P) (t := t) (u := u) (ty := ty) (p := none) (l := 0) (c := 0) h4 hsrc (by omega)
  simp only [Sem.run_pure, Result.andThen_ok] at hrun
  rw [exec_append (ev_ok h1 hx) (ev_ok h1 hy) hrun]
  exact hK _ _ (k _ _ (h1.put hlt) (by simp [Act.put, h2]) h3 h4)
end
end Go.K
