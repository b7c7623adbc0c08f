/- The laws of views, as rows. -/
import Derived.Test.YtocfdkjoklgecaaR1
import Derived.Test.YtocfdkjoklgecaaV2
namespace Go.Proofs.Ytocfdkjoklgecaa
open Go.ChangeShapes Go.WideShapes Go.ChangeAt Go.RowKit Go.K
set_option linter.unusedVariables false
set_option linter.unusedSimpArgs false

theorem own : ownKnob Try.prog.godebug = none := by kernel_rfl
theorem laidOut : laidOutB Try.prog = true := by kernel_rfl

section
variable {H : Type} {enc : TypeId × Value → H} {W : World} {base b1 : Nat} {sp : Nat → Bool} {held : Bool} {v : Value} {d : DataW H} {ps : List MemPlace}

theorem view_arg (ho : Value.okWide Try.prog W .any base 24 v) (h : DataW.Trod enc Try.prog W b1 sp held 24 v d ps) : ∃ n m b, v = vv n m b ∧ (0 ≤ n ∧ n < 18446744073709551616) ∧ (0 ≤ b ∧ b < 18446744073709551616) := by
  obtain ⟨cs, rfl⟩ := okWide_agg Try.underlying24 rfl ho
  have hc := open_flat (ks := [some .u64, some .i64, some .u64]) (by kernel_rfl) h
  have hl := Conf.len hc
  simp only [Value.cells] at hc hl
  match cs, hl, hc with
  | [c0, c1, c2], _, ⟨⟨n, hn, wn⟩, ⟨m, hm, wm⟩, ⟨b, hb, wb⟩, _⟩ =>
    subst hn; subst hm; subst hb
    refine ⟨n, m, b, rfl, ?_, ?_⟩ <;> simp [Lit.wf, IntKind.min, IntKind.max, IntKind.bits, IntKind.signed] at wn wb <;> omega
theorem ints_arg (ho : Value.okWide Try.prog W .any base 25 v) (h : DataW.Trod enc Try.prog W b1 sp held 25 v d ps) :
    ∃ p len c, v = .slice p len c ∧ len ≤ 9223372036854775807 ∧ (len = 0 ∨ ∃ bl o cs T fr, ∃ xs : List Int, p = some ⟨bl, o, none⟩ ∧ HpOk [(bl, false, CF cs T fr)] W ∧ xs.length = len ∧ Ints cs o xs) := by
  obtain ⟨p, len, c, rfl, hs⟩ := open_slice Try.underlying25 (ks := [some .i64]) (by kernel_rfl) (okWide_slice Try.underlying25 ho) h
  obtain ⟨hl, hx⟩ := slice_ints hs
  refine ⟨p, len, c, rfl, hl, ?_⟩
  rcases hx with ⟨h0, _⟩ | ⟨b, o, cs, T, fr, xs, hp, _, hok, hlen, _, hi⟩
  · exact .inl h0
  · exact .inr ⟨b, o, cs, T, fr, xs, hp, hok, hlen, hi⟩
theorem u64_arg (ho : Value.okWide Try.prog W .any base 22 v) : ∃ n, v = .int .u64 n := okWide_int Try.underlying22 ho
theorem i64_arg (ho : Value.okWide Try.prog W .any base 3 v) : ∃ n, v = .int .i64 n := okWide_int Try.underlying3 ho
end

theorem done_of {f : FuncId} {args : List Value} {L : Hp} {W : World} (hL : HpOk L W) (hro : ∀ x ∈ L, x.2.1 = false) (h : Does Try.prog f args L (Is (.bool true) L)) :
    Calls Try.prog f args.toArray W fun e W' => e = .returned (.bool true) ∧ ∃ L L', Trk W W' L L' ∧ ∀ x ∈ L, x.2.1 = false :=
  (h W hL).mono fun e W' ⟨v, L', he, ⟨hv, hL'⟩, ht⟩ => ⟨by rw [he, hv], L, L', ht, hro⟩
theorem hpok_nil {W : World} : HpOk [] W := ⟨by constructor, by intro x hx; cases hx⟩

section
variable {H : Type}
theorem steps_main (W : World) (enc : TypeId × Value → H) (base : Nat) {v0 v1 v2 : Value} {d0 d1 d2 : DataW H} {p0 p1 p2 : List MemPlace}
    (o0 : Value.okWide Try.prog W .any base 24 v0) (h0 : DataW.Trod enc Try.prog W 0 (fun _ => true) true 24 v0 d0 p0)
    (o1 : Value.okWide Try.prog W .any base 25 v1) (h1 : DataW.Trod enc Try.prog W 0 (fun _ => true) true 25 v1 d1 p1)
    (o2 : Value.okWide Try.prog W .any base 22 v2) (h2 : DataW.Trod enc Try.prog W 0 (fun _ => true) true 22 v2 d2 p2) :
    Calls Try.prog 3 #[v0, v1, v2] W fun e W' => e = .returned (.bool true) ∧ ∃ L L', Trk W W' L L' ∧ ∀ x ∈ L, x.2.1 = false := by
  obtain ⟨n, m, b, rfl, _⟩ := view_arg o0 h0
  obtain ⟨p, len, c, rfl, hl, hx⟩ := ints_arg o1 h1
  obtain ⟨k, rfl⟩ := u64_arg o2
  rcases hx with rfl | ⟨bl, o, cs, T, fr, xs, rfl, hok, rfl, hi⟩
  · exact done_of hpok_nil (by simp) steps_nil
  · exact done_of hok (by simp) (steps_fn hi hl)
theorem views_arg {base b1 : Nat} {sp : Nat → Bool} {held : Bool} {v : Value} {d : DataW H} {ps : List MemPlace} {W : World} {enc : TypeId × Value → H} (ho : Value.okWide Try.prog W .any base 37 v) (h : DataW.Trod enc Try.prog W b1 sp held 37 v d ps) :
    ∃ p len c, v = .slice p len c ∧ len ≤ 9223372036854775807 ∧ (len = 0 ∨ ∃ bl o cs T fr, p = some ⟨bl, o, none⟩ ∧ HpOk [(bl, false, CF cs T fr)] W ∧ Views cs o len) := by
  obtain ⟨p, len, c, rfl, hs⟩ := open_slice Try.underlying37 (ks := [some .u64, some .i64, some .u64]) (by kernel_rfl) (okWide_slice Try.underlying37 ho) h
  obtain ⟨hl, hx⟩ := slice_rows (by simp) hs
  refine ⟨p, len, c, rfl, hl, ?_⟩
  rcases hx with ⟨h0, _⟩ | ⟨b, o, cs, T, fr, rows, hp, _, hok, hlen, hi⟩
  · exact .inl h0
  · refine .inr ⟨b, o, cs, T, fr, hp, hok, fun i h0 h1 => ?_⟩
    have hlt : i.toNat < rows.length := by omega
    obtain ⟨hc, he⟩ := hi i.toNat _ (List.getElem?_eq_getElem hlt)
    generalize rows[i.toNat] = row at hc he
    have hl := Conf.len hc
    match row, hl, hc with
    | [c0, c1, c2], _, ⟨⟨n, hn, _⟩, ⟨m, hm, _⟩, ⟨b, hb, _⟩, _⟩ =>
      subst hn; subst hm; subst hb
      exact ⟨n, m, b, he⟩
theorem ties_main (W : World) (enc : TypeId × Value → H) (base : Nat) {v0 : Value} {d0 : DataW H} {p0 : List MemPlace}
    (o0 : Value.okWide Try.prog W .any base 37 v0) (h0 : DataW.Trod enc Try.prog W 0 (fun _ => true) true 37 v0 d0 p0) :
    Calls Try.prog 4 #[v0] W fun e W' => e = .returned (.bool true) ∧ ∃ L L', Trk W W' L L' ∧ ∀ x ∈ L, x.2.1 = false := by
  obtain ⟨p, len, c, rfl, hl, hx⟩ := views_arg o0 h0
  rcases hx with rfl | ⟨bl, o, cs, T, fr, rfl, hok, hi⟩
  · exact done_of hpok_nil (by simp) ties_nil
  · exact done_of hok (by simp) (ties_fn hi hl)
theorem back_main (W : World) (enc : TypeId × Value → H) (base : Nat) {v0 v1 v2 : Value} {d0 d1 d2 : DataW H} {p0 p1 p2 : List MemPlace}
    (o0 : Value.okWide Try.prog W .any base 24 v0) (h0 : DataW.Trod enc Try.prog W 0 (fun _ => true) true 24 v0 d0 p0)
    (o1 : Value.okWide Try.prog W .any base 3 v1) (h1 : DataW.Trod enc Try.prog W 0 (fun _ => true) true 3 v1 d1 p1)
    (o2 : Value.okWide Try.prog W .any base 44 v2) (h2 : DataW.Trod enc Try.prog W 0 (fun _ => true) true 44 v2 d2 p2) :
    Calls Try.prog 5 #[v0, v1, v2] W fun e W' => e = .returned (.bool true) ∧ ∃ L L', Trk W W' L L' ∧ ∀ x ∈ L, x.2.1 = false := by
  obtain ⟨n, m, b, rfl, hn, _⟩ := view_arg o0 h0
  obtain ⟨c, rfl⟩ := i64_arg o1
  obtain ⟨cs, rfl⟩ := okWide_agg Try.underlying44 rfl o2
  have hc := open_flat (ks := [some .u64, some .u64]) (by kernel_rfl) h2
  have hl := Conf.len hc
  simp only [Value.cells] at hc hl
  match cs, hl, hc with
  | [c0, c1], _, ⟨⟨b0, hb0, _⟩, ⟨b1, hb1, _⟩, _⟩ =>
    subst hb0; subst hb1
    exact done_of hpok_nil (by simp) (back_fn hn.1 hn.2)
end
set_option maxRecDepth 100000 in
theorem viewSteps_lifted (os : Os) (started : os.Started) (H : Type) (enc : TypeId × Value → H) :
    ReturnsInHanded {} Try.checked os 3 .any (Rows.viewStepsSpec.pre6 enc Try.prog Try.f3 Rows.viewStepsRow.domain false) (Rows.viewStepsSpec.post enc Try.prog Try.f3 false true false false) := by
  refine returnsInHanded_of_change (C := Try.checked) own started (by kernel_rfl) Try.func3
    (ChangeSpec.witness6 (enc := enc) (C := Try.checked) false ⟨#[], #[.agg ([.int .u64 0, .int .i64 0, .int .u64 0]).toArray, .slice none 0 0, .int .u64 0], []⟩ 8 (by kernel_rfl) (by kernel_rfl) (by kernel_rfl) (by kernel_rfl)) ?_
  intro W base args ds gs before hval0 hW hcnd _
  have hval : ∀ (j : Nat) t v, Try.f3.params[j]? = some t → args[j]? = some v → Value.okWide Try.prog W .any base t v := hval0
  have hW' := hW
  obtain ⟨p, q, hA0, hV, hbq, hfz, hnd⟩ := hW
  have hA : DataW.TrodAll enc Try.prog W 0 (fun _ => true) true Try.f3.params.toList args.toList ds p := hA0
  rw [Try.params3] at hA hval
  obtain ⟨v0, vs0, d0, ds0, p0, q0, hargs, rfl, hp0, h0, r0⟩ := trodAll_cons hA
  obtain ⟨v1, vs1, d1, ds1, p1, q1, rfl, rfl, hp1, h1, r1⟩ := trodAll_cons r0
  obtain ⟨v2, vs2, d2, ds2, p2, q2, rfl, rfl, hp2, h2, r2⟩ := trodAll_cons r1
  obtain ⟨rfl, rfl, hpl⟩ := trodAll_nil r2
  obtain rfl : args = #[v0, v1, v2] := by cases args; simp_all
  have hgs : gs = [] := by cases gs with | nil => rfl | cons g gs => exact hV.elim
  subst hgs
  refine (steps_main W enc base (hval 0 24 v0 rfl rfl) h0 (hval 1 25 v1 rfl rfl) h1 (hval 2 22 v2 rfl rfl) h2).mono fun e W' ⟨he, L, L', ht, hro⟩ => ?_
  subst he
  exact ⟨_, rfl, law_post laidOut hW' rfl (by kernel_rfl) Try.underlying4 (by kernel_rfl) ht hro rfl⟩
theorem viewSteps_over : Rows.viewStepsRow.holds Try.pinned (OpenSpec.ofChange Rows.viewStepsSpec) :=
  OpenClaim.holds_of_wide 3 Try.f3 rfl rfl rfl rfl rfl rfl rfl ⟨rfl, rfl, rfl, rfl, rfl⟩ rfl rfl rfl rfl rfl (by kernel_rfl) Try.func3 (by kernel_rfl)
    (of_decide_eq_true (by kernel_rfl)) (by unfold Func.isWrapper; first | (rw [if_pos (by decide +kernel)]; kernel_rfl) | (rw [if_neg (by decide +kernel)]; exact ⟨rfl, rfl⟩))
    (fun os started H enc _ => viewSteps_lifted os started H enc)
/-- THE STATEMENT. -/
theorem viewSteps_proved : Rows.ViewStepsSaid := viewSteps_over
set_option maxRecDepth 100000 in
theorem viewTies_lifted (os : Os) (started : os.Started) (H : Type) (enc : TypeId × Value → H) :
    ReturnsInHanded {} Try.checked os 4 .any (Rows.viewTiesSpec.pre6 enc Try.prog Try.f4 Rows.viewTiesRow.domain false) (Rows.viewTiesSpec.post enc Try.prog Try.f4 false true false false) := by
  refine returnsInHanded_of_change (C := Try.checked) own started (by kernel_rfl) Try.func4
    (ChangeSpec.witness6 (enc := enc) (C := Try.checked) false ⟨#[], #[.slice none 0 0], []⟩ 8 (by kernel_rfl) (by kernel_rfl) (by kernel_rfl) (by kernel_rfl)) ?_
  intro W base args ds gs before hval0 hW hcnd _
  have hval : ∀ (j : Nat) t v, Try.f4.params[j]? = some t → args[j]? = some v → Value.okWide Try.prog W .any base t v := hval0
  have hW' := hW
  obtain ⟨p, q, hA0, hV, hbq, hfz, hnd⟩ := hW
  have hA : DataW.TrodAll enc Try.prog W 0 (fun _ => true) true Try.f4.params.toList args.toList ds p := hA0
  rw [Try.params4] at hA hval
  obtain ⟨v0, vs0, d0, ds0, p0, q0, hargs, rfl, hp0, h0, r0⟩ := trodAll_cons hA
  obtain ⟨rfl, rfl, hpl⟩ := trodAll_nil r0
  obtain rfl : args = #[v0] := by cases args; simp_all
  have hgs : gs = [] := by cases gs with | nil => rfl | cons g gs => exact hV.elim
  subst hgs
  refine (ties_main W enc base (hval 0 37 v0 rfl rfl) h0).mono fun e W' ⟨he, L, L', ht, hro⟩ => ?_
  subst he
  exact ⟨_, rfl, law_post laidOut hW' rfl (by kernel_rfl) Try.underlying4 (by kernel_rfl) ht hro rfl⟩
theorem viewTies_over : Rows.viewTiesRow.holds Try.pinned (OpenSpec.ofChange Rows.viewTiesSpec) :=
  OpenClaim.holds_of_wide 4 Try.f4 rfl rfl rfl rfl rfl rfl rfl ⟨rfl, rfl, rfl, rfl, rfl⟩ rfl rfl rfl rfl rfl (by kernel_rfl) Try.func4 (by kernel_rfl)
    (of_decide_eq_true (by kernel_rfl)) (by unfold Func.isWrapper; first | (rw [if_pos (by decide +kernel)]; kernel_rfl) | (rw [if_neg (by decide +kernel)]; exact ⟨rfl, rfl⟩))
    (fun os started H enc _ => viewTies_lifted os started H enc)
/-- THE STATEMENT. -/
theorem viewTies_proved : Rows.ViewTiesSaid := viewTies_over
set_option maxRecDepth 100000 in
theorem viewBack_lifted (os : Os) (started : os.Started) (H : Type) (enc : TypeId × Value → H) :
    ReturnsInHanded {} Try.checked os 5 .any (Rows.viewBackSpec.pre6 enc Try.prog Try.f5 Rows.viewBackRow.domain false) (Rows.viewBackSpec.post enc Try.prog Try.f5 false true false false) := by
  refine returnsInHanded_of_change (C := Try.checked) own started (by kernel_rfl) Try.func5
    (ChangeSpec.witness6 (enc := enc) (C := Try.checked) false ⟨#[], #[.agg ([.int .u64 0, .int .i64 0, .int .u64 0]).toArray, .int .i64 0, .agg ([.int .u64 0, .int .u64 0]).toArray], []⟩ 8 (by kernel_rfl) (by kernel_rfl) (by kernel_rfl) (by kernel_rfl)) ?_
  intro W base args ds gs before hval0 hW hcnd _
  have hval : ∀ (j : Nat) t v, Try.f5.params[j]? = some t → args[j]? = some v → Value.okWide Try.prog W .any base t v := hval0
  have hW' := hW
  obtain ⟨p, q, hA0, hV, hbq, hfz, hnd⟩ := hW
  have hA : DataW.TrodAll enc Try.prog W 0 (fun _ => true) true Try.f5.params.toList args.toList ds p := hA0
  rw [Try.params5] at hA hval
  obtain ⟨v0, vs0, d0, ds0, p0, q0, hargs, rfl, hp0, h0, r0⟩ := trodAll_cons hA
  obtain ⟨v1, vs1, d1, ds1, p1, q1, rfl, rfl, hp1, h1, r1⟩ := trodAll_cons r0
  obtain ⟨v2, vs2, d2, ds2, p2, q2, rfl, rfl, hp2, h2, r2⟩ := trodAll_cons r1
  obtain ⟨rfl, rfl, hpl⟩ := trodAll_nil r2
  obtain rfl : args = #[v0, v1, v2] := by cases args; simp_all
  have hgs : gs = [] := by cases gs with | nil => rfl | cons g gs => exact hV.elim
  subst hgs
  refine (back_main W enc base (hval 0 24 v0 rfl rfl) h0 (hval 1 3 v1 rfl rfl) h1 (hval 2 44 v2 rfl rfl) h2).mono fun e W' ⟨he, L, L', ht, hro⟩ => ?_
  subst he
  exact ⟨_, rfl, law_post laidOut hW' rfl (by kernel_rfl) Try.underlying4 (by kernel_rfl) ht hro rfl⟩
theorem viewBack_over : Rows.viewBackRow.holds Try.pinned (OpenSpec.ofChange Rows.viewBackSpec) :=
  OpenClaim.holds_of_wide 5 Try.f5 rfl rfl rfl rfl rfl rfl rfl ⟨rfl, rfl, rfl, rfl, rfl⟩ rfl rfl rfl rfl rfl (by kernel_rfl) Try.func5 (by kernel_rfl)
    (of_decide_eq_true (by kernel_rfl)) (by unfold Func.isWrapper; first | (rw [if_pos (by decide +kernel)]; kernel_rfl) | (rw [if_neg (by decide +kernel)]; exact ⟨rfl, rfl⟩))
    (fun os started H enc _ => viewBack_lifted os started H enc)
/-- THE STATEMENT. -/
theorem viewBack_proved : Rows.ViewBackSaid := viewBack_over
end Go.Proofs.Ytocfdkjoklgecaa
