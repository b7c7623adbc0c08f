/- The laws of views, as rows. -/
import Derived.Test.YtocfdkjoklgecaaR1
import Derived.Test.YtocfdkjoklgecaaV2
namespace Go.Proofs.Ytocfdkjoklgecaa
open Go.ChangeShapes Go.WideShapes Go.ChangeAt Go.RowKit Go.K
set_option linter.unusedVariables false
set_option linter.unusedSimpArgs false

theorem own : ownKnob Try.prog.godebug = none := by kernel_rfl
theorem laidOut : laidOutB Try.prog = true := by kernel_rfl

section
variable {H : Type} {enc : TypeId × Value → H} {W : World} {base b1 : Nat} {sp : Nat → Bool} {held : Bool} {v : Value} {d : DataW H} {ps : List MemPlace}

theorem view_arg (ho : Value.okWide Try.prog W .any base 24 v) (h : DataW.Trod enc Try.prog W b1 sp held 24 v d ps) : ∃ n m b, v = vv n m b ∧ (0 ≤ n ∧ n < 18446744073709551616) ∧ (0 ≤ b ∧ b < 18446744073709551616) := by
  obtain ⟨cs, rfl⟩ := okWide_agg Try.underlying24 rfl ho
  have hc := open_flat (ks := [some .u64, some .i64, some .u64]) (by kernel_rfl) h
  have hl := Conf.len hc
  simp only [Value.cells] at hc hl
  match cs, hl, hc with
  | [c0, c1, c2], _, ⟨⟨n, hn, wn⟩, ⟨m, hm, wm⟩, ⟨b, hb, wb⟩, _⟩ =>
    subst hn; subst hm; subst hb
    refine ⟨n, m, b, rfl, ?_, ?_⟩ <;> simp [Lit.wf, IntKind.min, IntKind.max, IntKind.bits, IntKind.signed] at wn wb <;> omega
theorem ints_arg (ho : Value.okWide Try.prog W .any base 25 v) (h : DataW.Trod enc Try.prog W b1 sp held 25 v d ps) :
    ∃ p len c, v = .slice p len c ∧ len ≤ 9223372036854775807 ∧ (len = 0 ∨ ∃ bl o cs T fr, ∃ xs : List Int, p = some ⟨bl, o, none⟩ ∧ HpOk [(bl, false, CF cs T fr)] W ∧ xs.length = len ∧ Ints cs o xs) := by
  obtain ⟨p, len, c, rfl, hs⟩ := open_slice Try.underlying25 (ks := [some .i64]) (by kernel_rfl) (okWide_slice Try.underlying25 ho) h
  obtain ⟨hl, hx⟩ := slice_ints hs
  refine ⟨p, len, c, rfl, hl, ?_⟩
  rcases hx with ⟨h0, _⟩ | ⟨b, o, cs, T, fr, xs, hp, _, hok, hlen, _, hi⟩
  · exact .inl h0
  · exact .inr ⟨b, o, cs, T, fr, xs, hp, hok, hlen, hi⟩
theorem u64_arg (ho : Value.okWide Try.prog W .any base 22 v) : ∃ n, v = .int .u64 n := okWide_int Try.underlying22 ho
theorem i64_arg (ho : Value.okWide Try.prog W .any base 3 v) : ∃ n, v = .int .i64 n := okWide_int Try.underlying3 ho
end

theorem done_of {f : FuncId} {args : List Value} {L : Hp} {W : World} (hL : HpOk L W) (hro : ∀ x ∈ L, x.2.1 = false) (h : Does Try.prog f args L (Is (.bool true) L)) :
    Calls Try.prog f args.toArray W fun e W' => e = .returned (.bool true) ∧ ∃ L L', Trk W W' L L' ∧ ∀ x ∈ L, x.2.1 = false :=
  (h W hL).mono fun e W' ⟨v, L', he, ⟨hv, hL'⟩, ht⟩ => ⟨by rw [he, hv], L, L', ht, hro⟩
theorem hpok_nil {W : World} : HpOk [] W := ⟨by constructor, by intro x hx; cases hx⟩

section
variable {H : Type}
theorem steps_main (W : World) (enc : TypeId × Value → H) (base : Nat) {v0 v1 v2 : Value} {d0 d1 d2 : DataW H} {p0 p1 p2 : List MemPlace}
    (o0 : Value.okWide Try.prog W .any base 24 v0) (h0 : DataW.Trod enc Try.prog W 0 (fun _ => true) true 24 v0 d0 p0)
    (o1 : Value.okWide Try.prog W .any base 25 v1) (h1 : DataW.Trod enc Try.prog W 0 (fun _ => true) true 25 v1 d1 p1)
    (o2 : Value.okWide Try.prog W .any base 22 v2) (h2 : DataW.Trod enc Try.prog W 0 (fun _ => true) true 22 v2 d2 p2) :
    Calls Try.prog 3 #[v0, v1, v2] W fun e W' => e = .returned (.bool true) ∧ ∃ L L', Trk W W' L L' ∧ ∀ x ∈ L, x.2.1 = false := by
  obtain ⟨n, m, b, rfl, _⟩ := view_arg o0 h0
  obtain ⟨p, len, c, rfl, hl, hx⟩ := ints_arg o1 h1
  obtain ⟨k, rfl⟩ := u64_arg o2
  rcases hx with rfl | ⟨bl, o, cs, T, fr, xs, rfl, hok, rfl, hi⟩
  · exact done_of hpok_nil (by simp) steps_nil
  · exact done_of hok (by simp) (steps_fn hi hl)
end
set_option maxRecDepth 100000 in
theorem viewSteps_lifted (os : Os) (started : os.Started) (H : Type) (enc : TypeId × Value → H) :
    ReturnsInHanded {} Try.checked os 3 .any (Rows.viewStepsSpec.pre6 enc Try.prog Try.f3 Rows.viewStepsRow.domain false) (Rows.viewStepsSpec.post enc Try.prog Try.f3 false true false false) := by
  refine returnsInHanded_of_change (C := Try.checked) own started (by kernel_rfl) Try.func3
    (ChangeSpec.witness6 (enc := enc) (C := Try.checked) false ⟨#[], #[.agg ([.int .u64 0, .int .i64 0, .int .u64 0]).toArray, .slice none 0 0, .int .u64 0], []⟩ 8 (by kernel_rfl) (by kernel_rfl) (by kernel_rfl) (by kernel_rfl)) ?_
  intro W base args ds gs before hval0 hW hcnd _
  have hval : ∀ (j : Nat) t v, Try.f3.params[j]? = some t → args[j]? = some v → Value.okWide Try.prog W .any base t v := hval0
  have hW' := hW
  obtain ⟨p, q, hA0, hV, hbq, hfz, hnd⟩ := hW
  have hA : DataW.TrodAll enc Try.prog W 0 (fun _ => true) true Try.f3.params.toList args.toList ds p := hA0
  rw [Try.params3] at hA hval
  obtain ⟨v0, vs0, d0, ds0, p0, q0, hargs, rfl, hp0, h0, r0⟩ := trodAll_cons hA
  obtain ⟨v1, vs1, d1, ds1, p1, q1, rfl, rfl, hp1, h1, r1⟩ := trodAll_cons r0
  obtain ⟨v2, vs2, d2, ds2, p2, q2, rfl, rfl, hp2, h2, r2⟩ := trodAll_cons r1
  obtain ⟨rfl, rfl, hpl⟩ := trodAll_nil r2
  obtain rfl : args = #[v0, v1, v2] := by cases args; simp_all
  have hgs : gs = [] := by cases gs with | nil => rfl | cons g gs => exact hV.elim
  subst hgs
  refine (steps_main W enc base (hval 0 24 v0 rfl rfl) h0 (hval 1 25 v1 rfl rfl) h1 (hval 2 22 v2 rfl rfl) h2).mono fun e W' ⟨he, L, L', ht, hro⟩ => ?_
  subst he
  exact ⟨_, rfl, law_post laidOut hW' rfl (by kernel_rfl) Try.underlying4 (by kernel_rfl) ht hro rfl⟩
theorem viewSteps_over : Rows.viewStepsRow.holds Try.pinned (OpenSpec.ofChange Rows.viewStepsSpec) :=
  OpenClaim.holds_of_wide 3 Try.f3 rfl rfl rfl rfl rfl rfl rfl ⟨rfl, rfl, rfl, rfl, rfl⟩ rfl rfl rfl rfl rfl (by kernel_rfl) Try.func3 (by kernel_rfl)
    (of_decide_eq_true (by kernel_rfl)) (by unfold Func.isWrapper; first | (rw [if_pos (by decide +kernel)]; kernel_rfl) | (rw [if_neg (by decide +kernel)]; exact ⟨rfl, rfl⟩))
    (fun os started H enc _ => viewSteps_lifted os started H enc)
/-- THE STATEMENT. -/
theorem viewSteps_proved : Rows.ViewStepsSaid := viewSteps_over
end Go.Proofs.Ytocfdkjoklgecaa
