/-
  The row kit: what arguments of flat types read as; a row out of a contract.
-/
import Derived.Test.YtdfidkhbldedlaaGreatK7
import Derived.ProofKit
import Derived.OpenShut
namespace Go.K
open Go.ChangeShapes Go.WideShapes Go.ChangeAt Go.RowKit
set_option linter.unusedVariables false
set_option linter.unusedSimpArgs false

/-- A cell is of a kind. -/
def Cf : Kd → Value → Prop
  | some k, v => ∃ n, v = .int k n ∧ (Lit.int k n).wf = true
  | none, v => ∃ b, v = .bool b
def Conf : List Kd → List Value → Prop
  | [], [] => True
  | k :: ks, c :: cs => Cf k c ∧ Conf ks cs
  | _, _ => False
theorem Conf.len : ∀ {ks : List Kd} {cs : List Value}, Conf ks cs → cs.length = ks.length
  | [], [], _ => rfl
  | [], _ :: _, h => h.elim
  | _ :: _, [], h => h.elim
  | k :: ks, c :: cs, h => by simp [Conf.len h.2]
theorem Conf.append : ∀ {k1 k2 : List Kd} {c1 c2 : List Value}, Conf k1 c1 → Conf k2 c2 → Conf (k1 ++ k2) (c1 ++ c2)
  | [], k2, [], c2, _, h => h
  | [], _, _ :: _, _, h, _ => h.elim
  | _ :: _, _, [], _, h, _ => h.elim
  | k :: k1, k2, c :: c1, c2, h, h2 => ⟨h.1, Conf.append h.2 h2⟩
theorem Conf.get : ∀ {ks : List Kd} {cs : List Value}, Conf ks cs → ∀ (i : Nat) (k : Kd), ks[i]? = some k → ∃ v, cs[i]? = some v ∧ Cf k v
  | [], [], _, i, k, h => by simp at h
  | [], _ :: _, h, _, _, _ => h.elim
  | _ :: _, [], h, _, _, _ => h.elim
  | k :: ks, c :: cs, h, 0, k', hk => ⟨c, rfl, by simp at hk; subst hk; exact h.1⟩
  | k :: ks, c :: cs, h, i + 1, k', hk => by simpa using Conf.get h.2 i k' (by simpa using hk)

section
variable {H : Type} {enc : TypeId × Value → H} {P : Program} {w : World} {base : Nat} {spare : Nat → Bool} {held : Bool}

theorem mapM_mem {α β : Type} (f : α → Option β) : ∀ (l : List α) (r : List β), l.mapM f = some r → ∀ x ∈ l, ∃ y, f x = some y
  | [], r, h, x, hx => by cases hx
  | a :: l, r, h, x, hx => by
    rw [List.mapM_cons] at h
    cases ha : f a with
    | none => simp [ha] at h
    | some b =>
      cases hl : l.mapM f with
      | none => simp [ha, hl] at h
      | some r' =>
        cases hx with
        | head => exact ⟨b, ha⟩
        | tail _ hx => exact mapM_mem f l r' hl x hx

theorem cellsOf_of {t : TypeId} {n : Nat} (h : (P.info? t).map (·.size) = some n) : P.cellsOf t = n := by
  unfold Program.cellsOf; rw [h]; rfl

/-- A field's cells. -/
theorem flatFs_conf {d : Nat} (ih : ∀ (t : TypeId) (ks : List Kd), flatB P d t = some ks → P.cellsOf t = ks.length ∧ ∀ (fuel : Nat) (cs : List Value) (x : DataW H × List MemPlace), DataW.trod enc P w base spare held fuel t cs = some x → Conf ks cs) :
    ∀ (fs : List Field) (o : Nat) (ks : List Kd) (cs : List Value) (fuel : Nat), flatFs (flatB P d) fs o = some ks →
      (∀ f ∈ fs, ∃ y, DataW.trod enc P w base spare held fuel f.type ((cs.drop f.offset).take (P.cellsOf f.type)) = some y) → cs.length = o + ks.length → Conf ks (cs.drop o)
  | [], o, ks, cs, fuel, h, _, hl => by
    simp only [flatFs, Option.some.injEq] at h
    subst h
    rw [List.drop_of_length_le (by simp at hl; omega)]
    trivial
  | f :: fs, o, ks, cs, fuel, h, hr, hl => by
    simp only [flatFs] at h
    cases hf : flatB P d f.type with
    | none => simp [hf] at h
    | some s1 =>
      simp only [hf] at h
      split at h
      · rename_i hon
        cases hrs : flatFs (flatB P d) fs (o + s1.length) with
        | none => simp [hrs] at h
        | some s2 =>
          simp only [hrs, Option.some.injEq] at h
          subst h
          obtain ⟨y, hy⟩ := hr f (.head _)
          obtain ⟨i1, i2⟩ := ih f.type s1 hf
          rw [i1, hon.1] at hy
          have c1 := i2 fuel _ _ hy
          simp only [List.length_append] at hl
          have c2 := flatFs_conf ih fs (o + s1.length) s2 cs fuel hrs (fun g hg => hr g (.tail _ hg)) (by omega)
          have := c1.append c2
          rwa [← drop_take_add', List.take_of_length_le (by simp)] at this
      · cases h
where
  drop_take_add' {cs : List Value} {o a : Nat} : (cs.drop o).take (cs.length) = (cs.drop o).take a ++ cs.drop (o + a) := by
    rw [List.take_of_length_le (by simp), ← List.drop_drop, List.take_append_drop]

theorem elems_conf {d n : Nat} {e : TypeId} {s : List Kd} (hs : P.cellsOf e = s.length ∧ ∀ (fuel : Nat) (cs : List Value) (x : DataW H × List MemPlace), DataW.trod enc P w base spare held fuel e cs = some x → Conf s cs) (cs : List Value) (fuel : Nat) :
    ∀ (k i : Nat), (∀ j, i ≤ j → j < i + k → ∃ y, DataW.trod enc P w base spare held fuel e ((cs.drop (j * s.length)).take s.length) = some y) → cs.length = (i + k) * s.length → Conf (reps k s) (cs.drop (i * s.length))
  | 0, i, _, hl => by
    rw [List.drop_of_length_le (by simpa using Nat.le_of_eq hl)]
    trivial
  | k + 1, i, hr, hl => by
    obtain ⟨y, hy⟩ := hr i (Nat.le_refl _) (by omega)
    have c1 := hs.2 fuel _ _ hy
    have c2 := elems_conf (d := d) (n := n) hs cs fuel k (i + 1) (fun j h1 h2 => hr j (by omega) (by omega)) (by rw [hl]; congr 1; omega)
    have e1 : (i + 1) * s.length = i * s.length + s.length := by rw [Nat.add_mul, Nat.one_mul]
    rw [e1] at c2
    have := c1.append c2
    rw [← List.drop_drop, List.take_append_drop] at this
    exact this

theorem trod_flat : ∀ (d : Nat) (t : TypeId) (ks : List Kd), flatB P d t = some ks → P.cellsOf t = ks.length ∧ ∀ (fuel : Nat) (cs : List Value) (x : DataW H × List MemPlace), DataW.trod enc P w base spare held fuel t cs = some x → Conf ks cs := by
  intro d
  induction d with
  | zero => intro t ks h; cases h
  | succ d ih =>
    intro t ks h
    refine ⟨cellsOf_of (flatB_size h).2, fun fuel cs x hx => ?_⟩
    unfold flatB at h
    cases fuel with
    | zero => cases hx
    | succ fuel =>
    unfold DataW.trod at hx
    cases hu : P.underlying t with
    | none => rw [hu] at h; cases h
    | some u =>
      rw [hu] at h hx
      cases u <;> simp only at h <;> try (cases h; done)
      case bool =>
        split at h <;> cases h
        split at hx <;> simp_all [Conf, Cf]
      case int k =>
        split at h <;> cases h
        split at hx <;> simp_all [Conf, Cf]
      case array n e =>
        split at h
        · rename_i s' hs'
          split at h
          · rename_i hh
            cases h
            have hsz : P.cellsOf t = n * s'.length := cellsOf_of hh.2
            have hse : P.cellsOf e = s'.length := cellsOf_of hh.1
            obtain ⟨i1, i2⟩ := ih e s' hs'
            simp only at hx
            split at hx
            · rename_i hlen
              rw [hse] at hx
              cases hm : (List.range n).mapM (fun i => DataW.trod enc P w base spare held fuel e ((cs.drop (i * s'.length)).take s'.length)) with
              | none => rw [hm] at hx; cases hx
              | some r =>
                have hall := mapM_mem _ _ _ hm
                have := elems_conf (d := d) (n := n) ⟨i1, i2⟩ cs fuel n 0 (fun j _ hj => hall j (List.mem_range.2 (by omega))) (by rw [hlen, hsz]; simp)
                simpa using this
            · cases hx
          · cases h
        · cases h
      case struct fs =>
        split at h
        · split at h
          · rename_i s' hs'
            split at h
            · rename_i hh
              cases h
              have hsz : P.cellsOf t = ks.length := cellsOf_of hh
              simp only at hx
              split at hx
              · rename_i hlen
                cases hm : fs.toList.mapM (fun f => DataW.trod enc P w base spare held fuel f.type ((cs.drop f.offset).take (P.cellsOf f.type))) with
                | none => rw [hm] at hx; cases hx
                | some r =>
                  have hall := mapM_mem _ _ _ hm
                  have := flatFs_conf ih fs.toList 0 ks cs fuel hs' hall (by rw [hlen, hsz]; simp)
                  simpa using this
              · cases hx
            · cases h
          · cases h
        · cases h
/-- An argument of a flat type. -/
theorem open_flat {t : TypeId} {ks : List Kd} {v : Value} {d : DataW H} {ps : List MemPlace} (hf : flatB P 20 t = some ks) (h : DataW.Trod enc P w base spare held t v d ps) : Conf ks v.cells.toList := by
  obtain ⟨fuel, hx⟩ := h
  exact (trod_flat 20 t ks hf).2 fuel _ _ hx

theorem cells_get {a : Addr} {n : Nat} {cs : List Value} (h : w.cells? base a n = some cs) : ∀ i < n, ∃ v, w.cell? (a.add i) = some v ∧ cs[i]? = some v := by
  unfold World.cells? at h
  split at h
  · intro i hi
    have := mapM_get (fun i => w.cell? (a.add i)) (List.range n) cs h i (by simpa using hi)
    simpa using this
  · cases h
where
  mapM_get {α β : Type} (f : α → Option β) : ∀ (l : List α) (r : List β), l.mapM f = some r → ∀ i (h : i < l.length), ∃ y, f l[i] = some y ∧ r[i]? = some y
    | [], r, h, i, hi => by simp at hi
    | a :: l, r, h, i, hi => by
      rw [List.mapM_cons] at h
      cases ha : f a with
      | none => simp [ha] at h
      | some b =>
        cases hl : l.mapM f with
        | none => simp [ha, hl] at h
        | some r' =>
          simp [ha, hl] at h
          subst h
          cases i with
          | zero => exact ⟨b, ha, rfl⟩
          | succ i => simpa using mapM_get f l r' hl i (by simpa using hi)

/-- A slice's elements: each cell is there, and of its kind. -/
def SliceIn (w : World) (ks : List Kd) (p : Option Addr) (len cap : Nat) : Prop :=
  (p = none ∧ len = 0 ∧ cap = 0) ∨ ∃ a, p = some a ∧ len ≤ cap ∧ cap ≤ maxLen ∧ ∀ i < len, ∃ row, Conf ks row ∧ ∀ j < ks.length, ∃ v, w.cell? ((a.add (i * ks.length)).add j) = some v ∧ row[j]? = some v
theorem open_slice {t e : TypeId} {ks : List Kd} {v : Value} {d : DataW H} {ps : List MemPlace} (ht : P.underlying t = some (.slice e)) (hf : flatB P 20 e = some ks) (hv : ∃ a len cap, v = .slice a len cap)
    (h : DataW.Trod enc P w base spare held t v d ps) : ∃ p len cap, v = .slice p len cap ∧ SliceIn w ks p len cap := by
  obtain ⟨p, len, cap, rfl⟩ := hv
  refine ⟨p, len, cap, rfl, ?_⟩
  obtain ⟨fuel, hx⟩ := h
  cases fuel with
  | zero => cases hx
  | succ fuel =>
    unfold DataW.trod at hx
    rw [ht] at hx
    obtain ⟨hse, hfl⟩ := trod_flat (H := H) (enc := enc) (w := w) (base := base) (spare := spare) (held := held) 20 e ks hf
    cases p with
    | none =>
      left
      simp only [Value.cells] at hx
      cases len with
      | zero => cases cap with
        | zero => exact ⟨rfl, rfl, rfl⟩
        | succ c => simp at hx
      | succ l => simp at hx
    | some a =>
      right
      simp only [Value.cells] at hx
      split at hx
      · rename_i hb
        refine ⟨a, rfl, hb.2.1, hb.2.2, fun i hi => ?_⟩
        cases hm : (List.range len).mapM (fun i => (w.cells? base (a.add (i * P.cellsOf e)) (P.cellsOf e)).bind (DataW.trod enc P w base spare held fuel e)) with
        | none => simp only [hm] at hx; cases hx
        | some r =>
          obtain ⟨y, hy⟩ := mapM_mem _ _ _ hm i (List.mem_range.2 hi)
          cases hc : w.cells? base (a.add (i * P.cellsOf e)) (P.cellsOf e) with
          | none => rw [hc] at hy; cases hy
          | some row =>
            rw [hc] at hy
            simp only [Option.bind_some] at hy
            rw [hse] at hc
            refine ⟨row, hfl fuel row y hy, fun j hj => cells_get hc j hj⟩
      · cases hx

/-! ### The row -/
theorem trodAll_stays (hl : laidOutB P = true) {W W' : World} (hb : Below W.heap.size W W') {sp : Nat → Bool} : ∀ (ts : List TypeId) (vs : List Value) (ds : List (DataW H)) (ps : List MemPlace), (ts.all fun t => P.readableRec t && decide (t < P.types.size)) = true →
    DataW.TrodAll enc P W 0 (fun _ => true) true ts vs ds ps → (∀ p ∈ ps, p.block < W.heap.size) → (∀ p ∈ ps, sp p.block = true) → DataW.TrodAll enc P W' 0 sp true ts vs ds ps
  | [], vs, ds, ps, _, h, _, _ => by
    obtain ⟨rfl, rfl, rfl⟩ := trodAll_nil h
    exact trodAll_mk0
  | t :: ts, vs, ds, ps, hr, h, h1, h2 => by
    obtain ⟨v, vs', d, ds', p, q, rfl, rfl, rfl, h3, h4⟩ := trodAll_cons h
    simp only [List.all_cons, Bool.and_eq_true, decide_eq_true_eq] at hr
    refine trodAll_cons_mk ?_ (trodAll_stays hl hb ts vs' ds' q hr.2 h4 (fun x hx => h1 x (List.mem_append_right _ hx)) (fun x hx => h2 x (List.mem_append_right _ hx)))
    exact WideElems.Trod_stays hl hr.1.1 hr.1.2 h3 (fun x hx => hb.same (h1 x (List.mem_append_left _ hx))) (fun x hx => h2 x (List.mem_append_left _ hx))

theorem below_of {W W' : World} {L L' : Hp} (ht : Trk W W' L L') (hro : ∀ x ∈ L, x.2.1 = false) : Below W.heap.size W W' :=
  ⟨ht.os, ht.tape, ht.out, ht.size, fun k hk => ht.same k hk (fun ⟨x, hx, _, hr⟩ => by rw [hro x hx] at hr; cases hr)⟩

theorem law_post {f : Func} {s : ChangeSpec} {apart : Bool} {W W' : World} {args : Array Value} {ds gs : List (DataW H)} {before : List MemPlace} {bt : TypeId} {L L' : Hp}
    (hl : laidOutB P = true) (hW : DataW.Whole enc P f.params.toList s.vars apart W args.toList ds gs before) (hvars : s.vars = []) (hread : (f.params.toList.all fun t => P.readableRec t && decide (t < P.types.size)) = true)
    (hbt : P.underlying bt = some .bool) (hres : f.resultTypes = #[bt]) (ht : Trk W W' L L') (hro : ∀ x ∈ L, x.2.1 = false)
    (hspec : s.fn H (ds ++ gs) = { results := [.lit (.bool true)], args := ds }) : s.post enc P f apart true false false W args (.bool true) W' := by
  have hb := below_of ht hro
  have hW' := hW
  obtain ⟨p, q, hA, hV, rfl, hfz, hnd⟩ := hW
  rw [hvars] at hV
  have hq : gs = [] ∧ q = [] := by
    cases gs with
    | nil => exact ⟨rfl, hV⟩
    | cons g gs => exact hV.elim
  obtain ⟨rfl, rfl⟩ := hq
  have hlt : ∀ x ∈ p, x.block < W.heap.size := fun x hx => hW'.lt x (List.mem_append_left _ hx)
  refine post_of_same (pa := p) (pv := []) hW' (fun b sp hd => ?_) (fun sp hsp => ?_) (fun sp hsp => ?_) rfl (hb.frame _) ht.fz (ok_one hres rfl (okWide_bool_mk hbt _))
  · rw [hspec, hres]
    exact trodAll_cons_mk (shut_bool hbt _) trodAll_mk0
  · rw [hspec]
    exact trodAll_stays hl hb _ _ _ _ hread hA hlt (fun x hx => hsp x (List.mem_append_left _ hx))
  · rw [hspec, hvars]
    rfl

theorem okWide_agg {r : Reach} {t : TypeId} {u : TypeDesc} {v : Value} (hu : P.underlying t = some u) (ha : agg u = true) (h : Value.okWide P w r base t v) : ∃ cs : List Value, v = .agg cs.toArray := by
  unfold Value.okWide at h
  rw [hu] at h
  cases u <;> simp [agg] at ha <;> (obtain ⟨cs, rfl, _⟩ := h; exact ⟨cs.toList, by simp⟩)

/-- What a slice that came in holds: nothing, or rows of cells in one block. -/
theorem slice_rows {ks : List Kd} {p : Option Addr} {len cap : Nat} (hk : 0 < ks.length) (h : SliceIn w ks p len cap) : len ≤ 9223372036854775807 ∧ ((len = 0 ∧ (p = none → cap = 0)) ∨ ∃ b o cs T fr, ∃ rows : List (List Value), p = some ⟨b, o, none⟩ ∧ len ≤ cap ∧ HpOk [(b, false, CF cs T fr)] w ∧ rows.length = len ∧
    ∀ (i : Nat) (row : List Value), rows[i]? = some row → Conf ks row ∧ cut cs (o + i * ks.length) ks.length = some row) := by
  rcases h with ⟨_, rfl, hc⟩ | ⟨a, rfl, hlc, hcap, hr⟩
  · exact ⟨by omega, .inl ⟨rfl, fun _ => hc⟩⟩
  · refine ⟨by have : maxLen = 9223372036854775807 := rfl; omega, ?_⟩
    by_cases h0 : len = 0
    · exact .inl ⟨h0, fun e => by cases e⟩
    · right
      obtain ⟨row0, _, hj0⟩ := hr 0 (by omega)
      obtain ⟨v0, hv0, _⟩ := hj0 0 hk
      obtain ⟨b, o, sp⟩ := a
      have hadd : ∀ n, (⟨b, o, sp⟩ : Addr).add n = if n = 0 then ⟨b, o, sp⟩ else ⟨b, o + n, none⟩ := fun n => rfl
      have hsp : sp = none := by
        simp only [Nat.zero_mul, Addr.add, if_true] at hv0
        cases sp with
        | none => rfl
        | some s => simp [World.cell?] at hv0; split at hv0 <;> cases hv0
      subst hsp
      rw [add_none, add_none] at hv0
      have hblk : ∃ cs T fr, w.heap[b]? = some (CF cs T fr) := by
        simp only [World.cell?] at hv0
        split at hv0
        · rename_i c T fr hh; exact ⟨c.toList, T, fr, by rw [hh]; simp [CF]⟩
        · cases hv0
      obtain ⟨cs, T, fr, hh⟩ := hblk
      have hrow : ∀ i, i < len → ∃ row, Conf ks row ∧ cut cs (o + i * ks.length) ks.length = some row := by
        intro i hi
        obtain ⟨row, hc, hj⟩ := hr i hi
        refine ⟨row, hc, ?_⟩
        have hlen := hc.len
        have hget : ∀ j < ks.length, cs[o + i * ks.length + j]? = row[j]? := by
          intro j hj'
          obtain ⟨v, h1, h2⟩ := hj j hj'
          rw [add_none, add_none, cell_C hh, nth_eq] at h1
          rw [h1, h2]
        refine cut_of ?_ ?_
        · apply List.ext_getElem?
          intro j
          by_cases hj' : j < ks.length
          · rw [List.getElem?_take, if_pos hj', List.getElem?_drop, hget j hj']
          · rw [List.getElem?_eq_none (by omega), List.getElem?_eq_none (by simp; omega)]
        · have hlast := hget (ks.length - 1) (by omega)
          have hsome : ∃ v, row[ks.length - 1]? = some v := ⟨row[ks.length - 1]'(by omega), List.getElem?_eq_getElem (by omega)⟩
          obtain ⟨v, hv⟩ := hsome
          rw [hv] at hlast
          have := (List.getElem?_eq_some_iff.1 hlast).1
          omega
      refine ⟨b, o, cs, T, fr, (List.range len).map (fun i => (cut cs (o + i * ks.length) ks.length).getD []), rfl, hlc, ⟨by simp, fun x hx => by simp at hx; subst hx; exact hh⟩, by simp, fun i row hrow' => ?_⟩
      simp only [List.getElem?_map] at hrow'
      have hi : i < len := by
        rcases Nat.lt_or_ge i len with h | h
        · exact h
        · rw [List.getElem?_eq_none (by simpa using h)] at hrow'; cases hrow'
      obtain ⟨row', h1, h2⟩ := hrow i hi
      rw [List.getElem?_range hi] at hrow'
      simp only [Option.map_some, h2, Option.getD_some, Option.some.injEq] at hrow'
      subst hrow'
      exact ⟨h1, h2⟩

/-- A slice of whole numbers. -/
theorem slice_ints {k : IntKind} {p : Option Addr} {len cap : Nat} (h : SliceIn w [some k] p len cap) : len ≤ 9223372036854775807 ∧ ((len = 0 ∧ (p = none → cap = 0)) ∨ ∃ b o cs T fr, ∃ xs : List Int, p = some ⟨b, o, none⟩ ∧ len ≤ cap ∧ HpOk [(b, false, CF cs T fr)] w ∧ xs.length = len ∧
    (∀ x ∈ xs, (Lit.int k x).wf = true) ∧ ∀ (i : Int), 0 ≤ i → i < xs.length → nth cs (o + i.toNat * 1) = some (.int k (xs.getD i.toNat 0))) := by
  obtain ⟨h1, h2⟩ := slice_rows (by simp) h
  refine ⟨h1, h2.imp id ?_⟩
  rintro ⟨b, o, cs, T, fr, rows, rfl, hlc, hok, hlen, hr⟩
  have hone : ∀ row : List Value, Conf [some k] row → ∃ n, row = [.int k n] ∧ (Lit.int k n).wf = true := by
    intro row hc
    match row, hc with
    | [v], hc => obtain ⟨n, rfl, hw⟩ := hc.1; exact ⟨n, rfl, hw⟩
  let f : List Value → Int := fun row => match row with | [.int _ n] => n | _ => 0
  refine ⟨b, o, cs, T, fr, rows.map f, rfl, hlc, hok, by simp [hlen], ?_, ?_⟩
  · intro x hx
    obtain ⟨row, hm, rfl⟩ := List.mem_map.1 hx
    obtain ⟨i, hi, e⟩ := List.getElem_of_mem hm
    obtain ⟨c1, _⟩ := hr i row (by rw [List.getElem?_eq_getElem hi, e])
    obtain ⟨n, rfl, hw⟩ := hone row c1
    exact hw
  · intro i h0 hi
    simp only [List.length_map] at hi
    have hlt : i.toNat < rows.length := by omega
    obtain ⟨c1, c2⟩ := hr i.toNat rows[i.toNat] (List.getElem?_eq_getElem hlt)
    obtain ⟨n, e, hw⟩ := hone _ c1
    rw [e] at c2
    obtain ⟨e1, e2, _⟩ := cut_eq _ _ _ _ c2
    have : cs[o + i.toNat * 1]? = some (.int k n) := by
      have h3 := congrArg (fun l => l[0]?) e1
      simp only [List.length_singleton, List.getElem?_take, List.getElem?_drop] at h3
      simpa using h3.symm
    rw [nth_eq, this]
    simp only [List.getD_eq_getElem?_getD, List.getElem?_map, List.getElem?_eq_getElem hlt, Option.map_some, Option.getD_some, e, f]
end
end Go.K
