/-
  No cell of these rows narrows 'for every input' (looked for: loops, veiled, ifaces, maps, wideKeys, modest, calm, conditions, laid).
  DERIVED. THE GIVEN ROWS OF THIS SEAT. 5 by the template 'for every input the law returns true; each argument reads behind the call as it read before'; 0 by the template 'total and deterministic' (their statements: YtkfcpjohblddmaaGreatTotals.lean).
  GIVEN WITH THE SEED: the statements are not yours to turn. If you find one false, say at which input.
  Laid BY PROGRAM, IN A SANDBOX (cutbox-rows.mjs): the forced cells as the released guide's own fill.sh prints them over the translation a4eeaa53f865b965… (all of the seat's roots in one cut). By AI agents, Wed Nov 11 2026. No macro, syntax, notation, axiom, sorry.
-/
import Derived.Test.YtkfcpjohblddmaaGreatChecked
import GoSem.Claim
import GoSem.ClaimJoined
import GoSem.ClaimMapViews
import Derived.JoinedTies
import Derived.KernelRfl
namespace Go.Proofs.YtkfcpjohblddmaaGreat
/- THE CELL 'sum', in the pinned program and in every row, IS THE sha256 OF THE DUMP (.gsa) THAT YtkfcpjohblddmaaGreatProg.lean LOADS. Nothing in Lean hashes anything: it is a label: what it is worth is what the hold of that sum in a sandbox is worth. -/
noncomputable def Tryz.pinned : Pinned := { name := "ytkfcpjohblddmaagreat", sum := "a4eeaa53f865b965a05a632873d2fba1b96e98423b8897d49df52d5f5131a4a7", checked := Tryz.checked }
namespace Rows
def none {H : Type} : Left H := { results := [], args := [] }

/-- 'keelsonlaw08.LogEmpty': WHATEVER THE INPUT: true; the input reads as it did. -/
def logEmptySpec : ChangeSpec := { name := "logEmpty", fn := fun _ => fun
  | [d1, d2] => { results := [.lit (.bool true)], args := [d1, d2] }
  | _ => none }
def logEmptyRow : OpenClaim := { program := "ytkfcpjohblddmaagreat", sum := "a4eeaa53f865b965a05a632873d2fba1b96e98423b8897d49df52d5f5131a4a7", func := "keelson/keelsonlaw08.LogEmpty", spec := "logEmpty", inPlace := ["internal/bytealg.MakeNoZero"], unfollowed := true, recurses := true, apart := false }
def LogEmptySaid : Prop := logEmptyRow.holds Tryz.pinned (OpenSpec.ofChange logEmptySpec)

/-- ITS FALSE NEIGHBOUR: 'it returns false'. Refute it at one input. -/
def logEmptyWrong : ChangeSpec := { name := "logEmpty", fn := fun _ => fun
  | [d1, d2] => { results := [.lit (.bool false)], args := [d1, d2] }
  | _ => none }
def LogEmptyWrongFalsely : Prop := logEmptyRow.holds Tryz.pinned (OpenSpec.ofChange logEmptyWrong)

/-- 'keelsonlaw08.LogRoom': WHATEVER THE INPUT: true; the input reads as it did. -/
def logRoomSpec : ChangeSpec := { name := "logRoom", fn := fun _ => fun
  | [d] => { results := [.lit (.bool true)], args := [d] }
  | _ => none }
def logRoomRow : OpenClaim := { program := "ytkfcpjohblddmaagreat", sum := "a4eeaa53f865b965a05a632873d2fba1b96e98423b8897d49df52d5f5131a4a7", func := "keelson/keelsonlaw08.LogRoom", spec := "logRoom", inPlace := ["internal/bytealg.MakeNoZero"], unfollowed := true, recurses := true, apart := false }
def LogRoomSaid : Prop := logRoomRow.holds Tryz.pinned (OpenSpec.ofChange logRoomSpec)

/-- ITS FALSE NEIGHBOUR: 'it returns false'. Refute it at one input. -/
def logRoomWrong : ChangeSpec := { name := "logRoom", fn := fun _ => fun
  | [d] => { results := [.lit (.bool false)], args := [d] }
  | _ => none }
def LogRoomWrongFalsely : Prop := logRoomRow.holds Tryz.pinned (OpenSpec.ofChange logRoomWrong)

/-- 'keelsonlaw08.LogFull': WHATEVER THE INPUT: true; the input reads as it did. -/
def logFullSpec : ChangeSpec := { name := "logFull", fn := fun _ => fun
  | [d1, d2] => { results := [.lit (.bool true)], args := [d1, d2] }
  | _ => none }
def logFullRow : OpenClaim := { program := "ytkfcpjohblddmaagreat", sum := "a4eeaa53f865b965a05a632873d2fba1b96e98423b8897d49df52d5f5131a4a7", func := "keelson/keelsonlaw08.LogFull", spec := "logFull", inPlace := ["internal/bytealg.MakeNoZero"], unfollowed := true, recurses := true, apart := false }
def LogFullSaid : Prop := logFullRow.holds Tryz.pinned (OpenSpec.ofChange logFullSpec)

/-- ITS FALSE NEIGHBOUR: 'it returns false'. Refute it at one input. -/
def logFullWrong : ChangeSpec := { name := "logFull", fn := fun _ => fun
  | [d1, d2] => { results := [.lit (.bool false)], args := [d1, d2] }
  | _ => none }
def LogFullWrongFalsely : Prop := logFullRow.holds Tryz.pinned (OpenSpec.ofChange logFullWrong)

/-- 'keelsonlaw08.LogMends': WHATEVER THE INPUT: true; the input reads as it did. -/
def logMendsSpec : ChangeSpec := { name := "logMends", fn := fun _ => fun
  | [d1, d2] => { results := [.lit (.bool true)], args := [d1, d2] }
  | _ => none }
def logMendsRow : OpenClaim := { program := "ytkfcpjohblddmaagreat", sum := "a4eeaa53f865b965a05a632873d2fba1b96e98423b8897d49df52d5f5131a4a7", func := "keelson/keelsonlaw08.LogMends", spec := "logMends", inPlace := ["internal/bytealg.MakeNoZero"], unfollowed := true, recurses := true, apart := false }
def LogMendsSaid : Prop := logMendsRow.holds Tryz.pinned (OpenSpec.ofChange logMendsSpec)

/-- ITS FALSE NEIGHBOUR: 'it returns false'. Refute it at one input. -/
def logMendsWrong : ChangeSpec := { name := "logMends", fn := fun _ => fun
  | [d1, d2] => { results := [.lit (.bool false)], args := [d1, d2] }
  | _ => none }
def LogMendsWrongFalsely : Prop := logMendsRow.holds Tryz.pinned (OpenSpec.ofChange logMendsWrong)

/-- 'keelsonlaw08.LogWear': WHATEVER THE INPUT: true; the input reads as it did. -/
def logWearSpec : ChangeSpec := { name := "logWear", fn := fun _ => fun
  | [d] => { results := [.lit (.bool true)], args := [d] }
  | _ => none }
def logWearRow : OpenClaim := { program := "ytkfcpjohblddmaagreat", sum := "a4eeaa53f865b965a05a632873d2fba1b96e98423b8897d49df52d5f5131a4a7", func := "keelson/keelsonlaw08.LogWear", spec := "logWear", inPlace := ["internal/bytealg.MakeNoZero"], unfollowed := true, recurses := true, apart := false }
def LogWearSaid : Prop := logWearRow.holds Tryz.pinned (OpenSpec.ofChange logWearSpec)

/-- ITS FALSE NEIGHBOUR: 'it returns false'. Refute it at one input. -/
def logWearWrong : ChangeSpec := { name := "logWear", fn := fun _ => fun
  | [d] => { results := [.lit (.bool false)], args := [d] }
  | _ => none }
def LogWearWrongFalsely : Prop := logWearRow.holds Tryz.pinned (OpenSpec.ofChange logWearWrong)

/- THE SECOND FORM. 'bulk': how many values and letters a reading holds, each counted each time it is reached (what is shared counts as often as it is met; a slice's spare places count too). A statement '..UptoSaid' is the law's where the arguments, and the package variables that the reading takes, are together of bulk at most 1048576: NARROWER than '..Said'. Prove '..Said' where nothing that the law and all that it calls make is longer than what came in: it says more and counts as full. Else prove '..UptoSaid'. A law counts once. -/
mutual
def uptoBulk {H : Type} : DataW H → Nat
  | .lit (.string bytes) => bytes.length + 1
  | .lit _ => 1
  | .nil => 1
  | .ptr d => uptoBulk d + 1
  | .slice elems spare => uptoBulkAll elems + uptoBulkAll spare + 1
  | .agg parts => uptoBulkAll parts + 1
  | .iface _ d => uptoBulk d + 1
  | .map entries => uptoBulkEntries entries + 1
  | .held _ => 1
def uptoBulkAll {H : Type} : List (DataW H) → Nat
  | [] => 0
  | d :: r => uptoBulk d + uptoBulkAll r
def uptoBulkEntries {H : Type} : List (Lit × DataW H) → Nat
  | [] => 0
  | x :: r => uptoBulkEntry x + uptoBulkEntries r
def uptoBulkEntry {H : Type} : Lit × DataW H → Nat
  | (.string bytes, d) => bytes.length + uptoBulk d + 1
  | (_, d) => uptoBulk d + 1
 end
def uptoSmall : (H : Type) → List (DataW H) → Bool := fun _ ds => decide (uptoBulkAll ds ≤ 1048576)
def OpenSpec.upto (s : _root_.Go.ChangeSpec) : _root_.Go.OpenSpec := { _root_.Go.OpenSpec.ofChange s with cond := some uptoSmall }

/-- 'keelsonlaw08.LogEmpty', WHERE WHAT IT READS IS OF BULK AT MOST 1048576: true; the input reads as it did. -/
def logEmptyUptoRow : OpenClaim := { program := "ytkfcpjohblddmaagreat", sum := "a4eeaa53f865b965a05a632873d2fba1b96e98423b8897d49df52d5f5131a4a7", func := "keelson/keelsonlaw08.LogEmpty", spec := "logEmpty", inPlace := ["internal/bytealg.MakeNoZero"], unfollowed := true, recurses := true, apart := false, narrowed := true }
def LogEmptyUptoSaid : Prop := logEmptyUptoRow.holds Tryz.pinned (OpenSpec.upto logEmptySpec)

/-- 'keelsonlaw08.LogRoom', WHERE WHAT IT READS IS OF BULK AT MOST 1048576: true; the input reads as it did. -/
def logRoomUptoRow : OpenClaim := { program := "ytkfcpjohblddmaagreat", sum := "a4eeaa53f865b965a05a632873d2fba1b96e98423b8897d49df52d5f5131a4a7", func := "keelson/keelsonlaw08.LogRoom", spec := "logRoom", inPlace := ["internal/bytealg.MakeNoZero"], unfollowed := true, recurses := true, apart := false, narrowed := true }
def LogRoomUptoSaid : Prop := logRoomUptoRow.holds Tryz.pinned (OpenSpec.upto logRoomSpec)

/-- 'keelsonlaw08.LogFull', WHERE WHAT IT READS IS OF BULK AT MOST 1048576: true; the input reads as it did. -/
def logFullUptoRow : OpenClaim := { program := "ytkfcpjohblddmaagreat", sum := "a4eeaa53f865b965a05a632873d2fba1b96e98423b8897d49df52d5f5131a4a7", func := "keelson/keelsonlaw08.LogFull", spec := "logFull", inPlace := ["internal/bytealg.MakeNoZero"], unfollowed := true, recurses := true, apart := false, narrowed := true }
def LogFullUptoSaid : Prop := logFullUptoRow.holds Tryz.pinned (OpenSpec.upto logFullSpec)

/-- 'keelsonlaw08.LogMends', WHERE WHAT IT READS IS OF BULK AT MOST 1048576: true; the input reads as it did. -/
def logMendsUptoRow : OpenClaim := { program := "ytkfcpjohblddmaagreat", sum := "a4eeaa53f865b965a05a632873d2fba1b96e98423b8897d49df52d5f5131a4a7", func := "keelson/keelsonlaw08.LogMends", spec := "logMends", inPlace := ["internal/bytealg.MakeNoZero"], unfollowed := true, recurses := true, apart := false, narrowed := true }
def LogMendsUptoSaid : Prop := logMendsUptoRow.holds Tryz.pinned (OpenSpec.upto logMendsSpec)

/-- 'keelsonlaw08.LogWear', WHERE WHAT IT READS IS OF BULK AT MOST 1048576: true; the input reads as it did. -/
def logWearUptoRow : OpenClaim := { program := "ytkfcpjohblddmaagreat", sum := "a4eeaa53f865b965a05a632873d2fba1b96e98423b8897d49df52d5f5131a4a7", func := "keelson/keelsonlaw08.LogWear", spec := "logWear", inPlace := ["internal/bytealg.MakeNoZero"], unfollowed := true, recurses := true, apart := false, narrowed := true }
def LogWearUptoSaid : Prop := logWearUptoRow.holds Tryz.pinned (OpenSpec.upto logWearSpec)

end Rows
end Go.Proofs.YtkfcpjohblddmaaGreat
