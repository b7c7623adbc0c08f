/-
  No cell of these rows narrows 'for every input' (looked for: loops, veiled, ifaces, maps, wideKeys, modest, calm, conditions, laid).
  DERIVED. THE GIVEN ROWS OF THIS SEAT. 7 by the template 'for every input the law returns true; each argument reads behind the call as it read before'; 0 by the template 'total and deterministic' (their statements: YtocfdkjoklgecaaTotals.lean).
  GIVEN WITH THE SEED: the statements are not yours to turn. If you find one false, say at which input.
  Laid BY PROGRAM, IN A SANDBOX (cutbox-rows.mjs): the forced cells as the released guide's own fill.sh prints them over the translation e5c97f02eb97d609… (all of the seat's roots in one cut). By AI agents, Wed Nov 11 2026. No macro, syntax, notation, axiom, sorry.
-/
import Derived.Test.YtocfdkjoklgecaaChecked
import GoSem.Claim
import GoSem.ClaimJoined
import GoSem.ClaimMapViews
import Derived.JoinedTies
import Derived.KernelRfl
namespace Go.Proofs.Ytocfdkjoklgecaa
/- THE CELL 'sum', in the pinned program and in every row, IS THE sha256 OF THE DUMP (.gsa) THAT YtocfdkjoklgecaaProg.lean LOADS. Nothing in Lean hashes anything: it is a label: what it is worth is what the hold of that sum in a sandbox is worth. -/
noncomputable def Try.pinned : Pinned := { name := "ytocfdkjoklgecaa", sum := "e5c97f02eb97d6091cc34fede01c27e44be9d6afec58d0ce79a92473ed64ff93", checked := Try.checked }
namespace Rows
def none {H : Type} : Left H := { results := [], args := [] }

/-- 'keelsonlaw12.ViewSteps': WHATEVER THE INPUT: true; the input reads as it did. -/
def viewStepsSpec : ChangeSpec := { name := "viewSteps", fn := fun _ => fun
  | [d1, d2, d3] => { results := [.lit (.bool true)], args := [d1, d2, d3] }
  | _ => none }
def viewStepsRow : OpenClaim := { program := "ytocfdkjoklgecaa", sum := "e5c97f02eb97d6091cc34fede01c27e44be9d6afec58d0ce79a92473ed64ff93", func := "keelson/keelsonlaw12.ViewSteps", spec := "viewSteps", apart := false }
def ViewStepsSaid : Prop := viewStepsRow.holds Try.pinned (OpenSpec.ofChange viewStepsSpec)

/-- ITS FALSE NEIGHBOUR: 'it returns false'. Refute it at one input. -/
def viewStepsWrong : ChangeSpec := { name := "viewSteps", fn := fun _ => fun
  | [d1, d2, d3] => { results := [.lit (.bool false)], args := [d1, d2, d3] }
  | _ => none }
def ViewStepsWrongFalsely : Prop := viewStepsRow.holds Try.pinned (OpenSpec.ofChange viewStepsWrong)

/-- 'keelsonlaw12.ViewTies': WHATEVER THE INPUT: true; the input reads as it did. -/
def viewTiesSpec : ChangeSpec := { name := "viewTies", fn := fun _ => fun
  | [d] => { results := [.lit (.bool true)], args := [d] }
  | _ => none }
def viewTiesRow : OpenClaim := { program := "ytocfdkjoklgecaa", sum := "e5c97f02eb97d6091cc34fede01c27e44be9d6afec58d0ce79a92473ed64ff93", func := "keelson/keelsonlaw12.ViewTies", spec := "viewTies", apart := false }
def ViewTiesSaid : Prop := viewTiesRow.holds Try.pinned (OpenSpec.ofChange viewTiesSpec)

/-- ITS FALSE NEIGHBOUR: 'it returns false'. Refute it at one input. -/
def viewTiesWrong : ChangeSpec := { name := "viewTies", fn := fun _ => fun
  | [d] => { results := [.lit (.bool false)], args := [d] }
  | _ => none }
def ViewTiesWrongFalsely : Prop := viewTiesRow.holds Try.pinned (OpenSpec.ofChange viewTiesWrong)

/-- 'keelsonlaw12.ViewBack': WHATEVER THE INPUT: true; the input reads as it did. -/
def viewBackSpec : ChangeSpec := { name := "viewBack", fn := fun _ => fun
  | [d1, d2, d3] => { results := [.lit (.bool true)], args := [d1, d2, d3] }
  | _ => none }
def viewBackRow : OpenClaim := { program := "ytocfdkjoklgecaa", sum := "e5c97f02eb97d6091cc34fede01c27e44be9d6afec58d0ce79a92473ed64ff93", func := "keelson/keelsonlaw12.ViewBack", spec := "viewBack", apart := false }
def ViewBackSaid : Prop := viewBackRow.holds Try.pinned (OpenSpec.ofChange viewBackSpec)

/-- ITS FALSE NEIGHBOUR: 'it returns false'. Refute it at one input. -/
def viewBackWrong : ChangeSpec := { name := "viewBack", fn := fun _ => fun
  | [d1, d2, d3] => { results := [.lit (.bool false)], args := [d1, d2, d3] }
  | _ => none }
def ViewBackWrongFalsely : Prop := viewBackRow.holds Try.pinned (OpenSpec.ofChange viewBackWrong)

/-- 'keelsonlaw13.ElectChooses': WHATEVER THE INPUT: true; the input reads as it did. -/
def electChoosesSpec : ChangeSpec := { name := "electChooses", fn := fun _ => fun
  | [d1, d2, d3] => { results := [.lit (.bool true)], args := [d1, d2, d3] }
  | _ => none }
def electChoosesRow : OpenClaim := { program := "ytocfdkjoklgecaa", sum := "e5c97f02eb97d6091cc34fede01c27e44be9d6afec58d0ce79a92473ed64ff93", func := "keelson/keelsonlaw13.ElectChooses", spec := "electChooses", apart := false }
def ElectChoosesSaid : Prop := electChoosesRow.holds Try.pinned (OpenSpec.ofChange electChoosesSpec)

/-- ITS FALSE NEIGHBOUR: 'it returns false'. Refute it at one input. -/
def electChoosesWrong : ChangeSpec := { name := "electChooses", fn := fun _ => fun
  | [d1, d2, d3] => { results := [.lit (.bool false)], args := [d1, d2, d3] }
  | _ => none }
def ElectChoosesWrongFalsely : Prop := electChoosesRow.holds Try.pinned (OpenSpec.ofChange electChoosesWrong)

/-- 'keelsonlaw13.ElectSafe': WHATEVER THE INPUT: true; the input reads as it did. -/
def electSafeSpec : ChangeSpec := { name := "electSafe", fn := fun _ => fun
  | [d1, d2, d3] => { results := [.lit (.bool true)], args := [d1, d2, d3] }
  | _ => none }
def electSafeRow : OpenClaim := { program := "ytocfdkjoklgecaa", sum := "e5c97f02eb97d6091cc34fede01c27e44be9d6afec58d0ce79a92473ed64ff93", func := "keelson/keelsonlaw13.ElectSafe", spec := "electSafe", apart := false }
def ElectSafeSaid : Prop := electSafeRow.holds Try.pinned (OpenSpec.ofChange electSafeSpec)

/-- ITS FALSE NEIGHBOUR: 'it returns false'. Refute it at one input. -/
def electSafeWrong : ChangeSpec := { name := "electSafe", fn := fun _ => fun
  | [d1, d2, d3] => { results := [.lit (.bool false)], args := [d1, d2, d3] }
  | _ => none }
def ElectSafeWrongFalsely : Prop := electSafeRow.holds Try.pinned (OpenSpec.ofChange electSafeWrong)

/-- 'keelsonlaw13.ElectTurned': WHATEVER THE INPUT: true; the input reads as it did. -/
def electTurnedSpec : ChangeSpec := { name := "electTurned", fn := fun _ => fun
  | [d1, d2, d3] => { results := [.lit (.bool true)], args := [d1, d2, d3] }
  | _ => none }
def electTurnedRow : OpenClaim := { program := "ytocfdkjoklgecaa", sum := "e5c97f02eb97d6091cc34fede01c27e44be9d6afec58d0ce79a92473ed64ff93", func := "keelson/keelsonlaw13.ElectTurned", spec := "electTurned", apart := false }
def ElectTurnedSaid : Prop := electTurnedRow.holds Try.pinned (OpenSpec.ofChange electTurnedSpec)

/-- ITS FALSE NEIGHBOUR: 'it returns false'. Refute it at one input. -/
def electTurnedWrong : ChangeSpec := { name := "electTurned", fn := fun _ => fun
  | [d1, d2, d3] => { results := [.lit (.bool false)], args := [d1, d2, d3] }
  | _ => none }
def ElectTurnedWrongFalsely : Prop := electTurnedRow.holds Try.pinned (OpenSpec.ofChange electTurnedWrong)

/-- 'keelsonlaw13.ElectGone': WHATEVER THE INPUT: true; the input reads as it did. -/
def electGoneSpec : ChangeSpec := { name := "electGone", fn := fun _ => fun
  | [d1, d2, d3] => { results := [.lit (.bool true)], args := [d1, d2, d3] }
  | _ => none }
def electGoneRow : OpenClaim := { program := "ytocfdkjoklgecaa", sum := "e5c97f02eb97d6091cc34fede01c27e44be9d6afec58d0ce79a92473ed64ff93", func := "keelson/keelsonlaw13.ElectGone", spec := "electGone", apart := false }
def ElectGoneSaid : Prop := electGoneRow.holds Try.pinned (OpenSpec.ofChange electGoneSpec)

/-- ITS FALSE NEIGHBOUR: 'it returns false'. Refute it at one input. -/
def electGoneWrong : ChangeSpec := { name := "electGone", fn := fun _ => fun
  | [d1, d2, d3] => { results := [.lit (.bool false)], args := [d1, d2, d3] }
  | _ => none }
def ElectGoneWrongFalsely : Prop := electGoneRow.holds Try.pinned (OpenSpec.ofChange electGoneWrong)

/- THE SECOND FORM. 'bulk': how many values and letters a reading holds, each counted each time it is reached (what is shared counts as often as it is met; a slice's spare places count too). A statement '..UptoSaid' is the law's where the arguments, and the package variables that the reading takes, are together of bulk at most 1048576: NARROWER than '..Said'. Prove '..Said' where nothing that the law and all that it calls make is longer than what came in: it says more and counts as full. Else prove '..UptoSaid'. A law counts once. -/
mutual
def uptoBulk {H : Type} : DataW H → Nat
  | .lit (.string bytes) => bytes.length + 1
  | .lit _ => 1
  | .nil => 1
  | .ptr d => uptoBulk d + 1
  | .slice elems spare => uptoBulkAll elems + uptoBulkAll spare + 1
  | .agg parts => uptoBulkAll parts + 1
  | .iface _ d => uptoBulk d + 1
  | .map entries => uptoBulkEntries entries + 1
  | .held _ => 1
def uptoBulkAll {H : Type} : List (DataW H) → Nat
  | [] => 0
  | d :: r => uptoBulk d + uptoBulkAll r
def uptoBulkEntries {H : Type} : List (Lit × DataW H) → Nat
  | [] => 0
  | x :: r => uptoBulkEntry x + uptoBulkEntries r
def uptoBulkEntry {H : Type} : Lit × DataW H → Nat
  | (.string bytes, d) => bytes.length + uptoBulk d + 1
  | (_, d) => uptoBulk d + 1
 end
def uptoSmall : (H : Type) → List (DataW H) → Bool := fun _ ds => decide (uptoBulkAll ds ≤ 1048576)
def OpenSpec.upto (s : _root_.Go.ChangeSpec) : _root_.Go.OpenSpec := { _root_.Go.OpenSpec.ofChange s with cond := some uptoSmall }

/-- 'keelsonlaw12.ViewSteps', WHERE WHAT IT READS IS OF BULK AT MOST 1048576: true; the input reads as it did. -/
def viewStepsUptoRow : OpenClaim := { program := "ytocfdkjoklgecaa", sum := "e5c97f02eb97d6091cc34fede01c27e44be9d6afec58d0ce79a92473ed64ff93", func := "keelson/keelsonlaw12.ViewSteps", spec := "viewSteps", apart := false, narrowed := true }
def ViewStepsUptoSaid : Prop := viewStepsUptoRow.holds Try.pinned (OpenSpec.upto viewStepsSpec)

/-- 'keelsonlaw12.ViewTies', WHERE WHAT IT READS IS OF BULK AT MOST 1048576: true; the input reads as it did. -/
def viewTiesUptoRow : OpenClaim := { program := "ytocfdkjoklgecaa", sum := "e5c97f02eb97d6091cc34fede01c27e44be9d6afec58d0ce79a92473ed64ff93", func := "keelson/keelsonlaw12.ViewTies", spec := "viewTies", apart := false, narrowed := true }
def ViewTiesUptoSaid : Prop := viewTiesUptoRow.holds Try.pinned (OpenSpec.upto viewTiesSpec)

/-- 'keelsonlaw12.ViewBack', WHERE WHAT IT READS IS OF BULK AT MOST 1048576: true; the input reads as it did. -/
def viewBackUptoRow : OpenClaim := { program := "ytocfdkjoklgecaa", sum := "e5c97f02eb97d6091cc34fede01c27e44be9d6afec58d0ce79a92473ed64ff93", func := "keelson/keelsonlaw12.ViewBack", spec := "viewBack", apart := false, narrowed := true }
def ViewBackUptoSaid : Prop := viewBackUptoRow.holds Try.pinned (OpenSpec.upto viewBackSpec)

/-- 'keelsonlaw13.ElectChooses', WHERE WHAT IT READS IS OF BULK AT MOST 1048576: true; the input reads as it did. -/
def electChoosesUptoRow : OpenClaim := { program := "ytocfdkjoklgecaa", sum := "e5c97f02eb97d6091cc34fede01c27e44be9d6afec58d0ce79a92473ed64ff93", func := "keelson/keelsonlaw13.ElectChooses", spec := "electChooses", apart := false, narrowed := true }
def ElectChoosesUptoSaid : Prop := electChoosesUptoRow.holds Try.pinned (OpenSpec.upto electChoosesSpec)

/-- 'keelsonlaw13.ElectSafe', WHERE WHAT IT READS IS OF BULK AT MOST 1048576: true; the input reads as it did. -/
def electSafeUptoRow : OpenClaim := { program := "ytocfdkjoklgecaa", sum := "e5c97f02eb97d6091cc34fede01c27e44be9d6afec58d0ce79a92473ed64ff93", func := "keelson/keelsonlaw13.ElectSafe", spec := "electSafe", apart := false, narrowed := true }
def ElectSafeUptoSaid : Prop := electSafeUptoRow.holds Try.pinned (OpenSpec.upto electSafeSpec)

/-- 'keelsonlaw13.ElectTurned', WHERE WHAT IT READS IS OF BULK AT MOST 1048576: true; the input reads as it did. -/
def electTurnedUptoRow : OpenClaim := { program := "ytocfdkjoklgecaa", sum := "e5c97f02eb97d6091cc34fede01c27e44be9d6afec58d0ce79a92473ed64ff93", func := "keelson/keelsonlaw13.ElectTurned", spec := "electTurned", apart := false, narrowed := true }
def ElectTurnedUptoSaid : Prop := electTurnedUptoRow.holds Try.pinned (OpenSpec.upto electTurnedSpec)

/-- 'keelsonlaw13.ElectGone', WHERE WHAT IT READS IS OF BULK AT MOST 1048576: true; the input reads as it did. -/
def electGoneUptoRow : OpenClaim := { program := "ytocfdkjoklgecaa", sum := "e5c97f02eb97d6091cc34fede01c27e44be9d6afec58d0ce79a92473ed64ff93", func := "keelson/keelsonlaw13.ElectGone", spec := "electGone", apart := false, narrowed := true }
def ElectGoneUptoSaid : Prop := electGoneUptoRow.holds Try.pinned (OpenSpec.upto electGoneSpec)

end Rows
end Go.Proofs.Ytocfdkjoklgecaa
