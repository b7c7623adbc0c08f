/-
  No cell of these rows narrows 'for every input' (looked for: loops, veiled, ifaces, maps, wideKeys, modest, calm, conditions, laid).
  DERIVED. THE GIVEN ROWS OF THIS SEAT. 9 by the template 'for every input the law returns true; each argument reads behind the call as it read before'; 0 by the template 'total and deterministic' (their statements: YtdfidkhbldedlaaGreatTotals.lean).
  GIVEN WITH THE SEED: the statements are not yours to turn. If you find one false, say at which input.
  Laid BY PROGRAM, IN A SANDBOX (cutbox-rows.mjs): the forced cells as the released guide's own fill.sh prints them over the translation eb12615e9533a373… (all of the seat's roots in one cut). By AI agents, Wed Nov 11 2026. No macro, syntax, notation, axiom, sorry.
-/
import Derived.Test.YtdfidkhbldedlaaGreatChecked
import GoSem.Claim
import GoSem.ClaimJoined
import GoSem.ClaimMapViews
import Derived.JoinedTies
import Derived.KernelRfl
namespace Go.Proofs.YtdfidkhbldedlaaGreat
/- THE CELL 'sum', in the pinned program and in every row, IS THE sha256 OF THE DUMP (.gsa) THAT YtdfidkhbldedlaaGreatProg.lean LOADS. Nothing in Lean hashes anything: it is a label: what it is worth is what the hold of that sum in a sandbox is worth. -/
noncomputable def Tryz.pinned : Pinned := { name := "ytdfidkhbldedlaagreat", sum := "eb12615e9533a373e1e1124e4def447a38d29e3fcd6fe336fd13e8b7145e4ebf", checked := Tryz.checked }
namespace Rows
def none {H : Type} : Left H := { results := [], args := [] }

/-- 'keelsonlaw06.BbtPlays': WHATEVER THE INPUT: true; the input reads as it did. -/
def bbtPlaysSpec : ChangeSpec := { name := "bbtPlays", fn := fun _ => fun
  | [d1, d2, d3] => { results := [.lit (.bool true)], args := [d1, d2, d3] }
  | _ => none }
def bbtPlaysRow : OpenClaim := { program := "ytdfidkhbldedlaagreat", sum := "eb12615e9533a373e1e1124e4def447a38d29e3fcd6fe336fd13e8b7145e4ebf", func := "keelson/keelsonlaw06.BbtPlays", spec := "bbtPlays", inPlace := ["internal/bytealg.MakeNoZero"], unfollowed := true, recurses := true, apart := false }
def BbtPlaysSaid : Prop := bbtPlaysRow.holds Tryz.pinned (OpenSpec.ofChange bbtPlaysSpec)

/-- ITS FALSE NEIGHBOUR: 'it returns false'. Refute it at one input. -/
def bbtPlaysWrong : ChangeSpec := { name := "bbtPlays", fn := fun _ => fun
  | [d1, d2, d3] => { results := [.lit (.bool false)], args := [d1, d2, d3] }
  | _ => none }
def BbtPlaysWrongFalsely : Prop := bbtPlaysRow.holds Tryz.pinned (OpenSpec.ofChange bbtPlaysWrong)

/-- 'keelsonlaw06.BbtCuts': WHATEVER THE INPUT: true; the input reads as it did. -/
def bbtCutsSpec : ChangeSpec := { name := "bbtCuts", fn := fun _ => fun
  | [d1, d2, d3] => { results := [.lit (.bool true)], args := [d1, d2, d3] }
  | _ => none }
def bbtCutsRow : OpenClaim := { program := "ytdfidkhbldedlaagreat", sum := "eb12615e9533a373e1e1124e4def447a38d29e3fcd6fe336fd13e8b7145e4ebf", func := "keelson/keelsonlaw06.BbtCuts", spec := "bbtCuts", inPlace := ["internal/bytealg.MakeNoZero"], unfollowed := true, recurses := true, apart := false }
def BbtCutsSaid : Prop := bbtCutsRow.holds Tryz.pinned (OpenSpec.ofChange bbtCutsSpec)

/-- ITS FALSE NEIGHBOUR: 'it returns false'. Refute it at one input. -/
def bbtCutsWrong : ChangeSpec := { name := "bbtCuts", fn := fun _ => fun
  | [d1, d2, d3] => { results := [.lit (.bool false)], args := [d1, d2, d3] }
  | _ => none }
def BbtCutsWrongFalsely : Prop := bbtCutsRow.holds Tryz.pinned (OpenSpec.ofChange bbtCutsWrong)

/-- 'keelsonlaw06.BbtFlips': WHATEVER THE INPUT: true; the input reads as it did. -/
def bbtFlipsSpec : ChangeSpec := { name := "bbtFlips", fn := fun _ => fun
  | [d1, d2] => { results := [.lit (.bool true)], args := [d1, d2] }
  | _ => none }
def bbtFlipsRow : OpenClaim := { program := "ytdfidkhbldedlaagreat", sum := "eb12615e9533a373e1e1124e4def447a38d29e3fcd6fe336fd13e8b7145e4ebf", func := "keelson/keelsonlaw06.BbtFlips", spec := "bbtFlips", inPlace := ["internal/bytealg.MakeNoZero"], unfollowed := true, recurses := true, apart := false }
def BbtFlipsSaid : Prop := bbtFlipsRow.holds Tryz.pinned (OpenSpec.ofChange bbtFlipsSpec)

/-- ITS FALSE NEIGHBOUR: 'it returns false'. Refute it at one input. -/
def bbtFlipsWrong : ChangeSpec := { name := "bbtFlips", fn := fun _ => fun
  | [d1, d2] => { results := [.lit (.bool false)], args := [d1, d2] }
  | _ => none }
def BbtFlipsWrongFalsely : Prop := bbtFlipsRow.holds Tryz.pinned (OpenSpec.ofChange bbtFlipsWrong)

/-- 'keelsonlaw07.DiskWorn': WHATEVER THE INPUT: true; the input reads as it did. -/
def diskWornSpec : ChangeSpec := { name := "diskWorn", fn := fun _ => fun
  | [d] => { results := [.lit (.bool true)], args := [d] }
  | _ => none }
def diskWornRow : OpenClaim := { program := "ytdfidkhbldedlaagreat", sum := "eb12615e9533a373e1e1124e4def447a38d29e3fcd6fe336fd13e8b7145e4ebf", func := "keelson/keelsonlaw07.DiskWorn", spec := "diskWorn", inPlace := ["internal/bytealg.MakeNoZero"], unfollowed := true, recurses := true, apart := false }
def DiskWornSaid : Prop := diskWornRow.holds Tryz.pinned (OpenSpec.ofChange diskWornSpec)

/-- ITS FALSE NEIGHBOUR: 'it returns false'. Refute it at one input. -/
def diskWornWrong : ChangeSpec := { name := "diskWorn", fn := fun _ => fun
  | [d] => { results := [.lit (.bool false)], args := [d] }
  | _ => none }
def DiskWornWrongFalsely : Prop := diskWornRow.holds Tryz.pinned (OpenSpec.ofChange diskWornWrong)

/-- 'keelsonlaw07.DiskMends': WHATEVER THE INPUT: true; the input reads as it did. -/
def diskMendsSpec : ChangeSpec := { name := "diskMends", fn := fun _ => fun
  | [d1, d2] => { results := [.lit (.bool true)], args := [d1, d2] }
  | _ => none }
def diskMendsRow : OpenClaim := { program := "ytdfidkhbldedlaagreat", sum := "eb12615e9533a373e1e1124e4def447a38d29e3fcd6fe336fd13e8b7145e4ebf", func := "keelson/keelsonlaw07.DiskMends", spec := "diskMends", inPlace := ["internal/bytealg.MakeNoZero"], unfollowed := true, recurses := true, apart := false }
def DiskMendsSaid : Prop := diskMendsRow.holds Tryz.pinned (OpenSpec.ofChange diskMendsSpec)

/-- ITS FALSE NEIGHBOUR: 'it returns false'. Refute it at one input. -/
def diskMendsWrong : ChangeSpec := { name := "diskMends", fn := fun _ => fun
  | [d1, d2] => { results := [.lit (.bool false)], args := [d1, d2] }
  | _ => none }
def DiskMendsWrongFalsely : Prop := diskMendsRow.holds Tryz.pinned (OpenSpec.ofChange diskMendsWrong)

/-- 'keelsonlaw07.DiskApart': WHATEVER THE INPUT: true; the input reads as it did. -/
def diskApartSpec : ChangeSpec := { name := "diskApart", fn := fun _ => fun
  | [d1, d2, d3] => { results := [.lit (.bool true)], args := [d1, d2, d3] }
  | _ => none }
def diskApartRow : OpenClaim := { program := "ytdfidkhbldedlaagreat", sum := "eb12615e9533a373e1e1124e4def447a38d29e3fcd6fe336fd13e8b7145e4ebf", func := "keelson/keelsonlaw07.DiskApart", spec := "diskApart", inPlace := ["internal/bytealg.MakeNoZero"], unfollowed := true, recurses := true, apart := false }
def DiskApartSaid : Prop := diskApartRow.holds Tryz.pinned (OpenSpec.ofChange diskApartSpec)

/-- ITS FALSE NEIGHBOUR: 'it returns false'. Refute it at one input. -/
def diskApartWrong : ChangeSpec := { name := "diskApart", fn := fun _ => fun
  | [d1, d2, d3] => { results := [.lit (.bool false)], args := [d1, d2, d3] }
  | _ => none }
def DiskApartWrongFalsely : Prop := diskApartRow.holds Tryz.pinned (OpenSpec.ofChange diskApartWrong)

/-- 'keelsonlaw07.DiskOrder': WHATEVER THE INPUT: true; the input reads as it did. -/
def diskOrderSpec : ChangeSpec := { name := "diskOrder", fn := fun _ => fun
  | [d1, d2] => { results := [.lit (.bool true)], args := [d1, d2] }
  | _ => none }
def diskOrderRow : OpenClaim := { program := "ytdfidkhbldedlaagreat", sum := "eb12615e9533a373e1e1124e4def447a38d29e3fcd6fe336fd13e8b7145e4ebf", func := "keelson/keelsonlaw07.DiskOrder", spec := "diskOrder", inPlace := ["internal/bytealg.MakeNoZero"], unfollowed := true, recurses := true, apart := false }
def DiskOrderSaid : Prop := diskOrderRow.holds Tryz.pinned (OpenSpec.ofChange diskOrderSpec)

/-- ITS FALSE NEIGHBOUR: 'it returns false'. Refute it at one input. -/
def diskOrderWrong : ChangeSpec := { name := "diskOrder", fn := fun _ => fun
  | [d1, d2] => { results := [.lit (.bool false)], args := [d1, d2] }
  | _ => none }
def DiskOrderWrongFalsely : Prop := diskOrderRow.holds Tryz.pinned (OpenSpec.ofChange diskOrderWrong)

/-- 'keelsonlaw07.DiskPlays': WHATEVER THE INPUT: true; the input reads as it did. -/
def diskPlaysSpec : ChangeSpec := { name := "diskPlays", fn := fun _ => fun
  | [d1, d2, d3] => { results := [.lit (.bool true)], args := [d1, d2, d3] }
  | _ => none }
def diskPlaysRow : OpenClaim := { program := "ytdfidkhbldedlaagreat", sum := "eb12615e9533a373e1e1124e4def447a38d29e3fcd6fe336fd13e8b7145e4ebf", func := "keelson/keelsonlaw07.DiskPlays", spec := "diskPlays", inPlace := ["internal/bytealg.MakeNoZero"], unfollowed := true, recurses := true, apart := false }
def DiskPlaysSaid : Prop := diskPlaysRow.holds Tryz.pinned (OpenSpec.ofChange diskPlaysSpec)

/-- ITS FALSE NEIGHBOUR: 'it returns false'. Refute it at one input. -/
def diskPlaysWrong : ChangeSpec := { name := "diskPlays", fn := fun _ => fun
  | [d1, d2, d3] => { results := [.lit (.bool false)], args := [d1, d2, d3] }
  | _ => none }
def DiskPlaysWrongFalsely : Prop := diskPlaysRow.holds Tryz.pinned (OpenSpec.ofChange diskPlaysWrong)

/-- 'keelsonlaw07.DiskCuts': WHATEVER THE INPUT: true; the input reads as it did. -/
def diskCutsSpec : ChangeSpec := { name := "diskCuts", fn := fun _ => fun
  | [d1, d2] => { results := [.lit (.bool true)], args := [d1, d2] }
  | _ => none }
def diskCutsRow : OpenClaim := { program := "ytdfidkhbldedlaagreat", sum := "eb12615e9533a373e1e1124e4def447a38d29e3fcd6fe336fd13e8b7145e4ebf", func := "keelson/keelsonlaw07.DiskCuts", spec := "diskCuts", inPlace := ["internal/bytealg.MakeNoZero"], unfollowed := true, recurses := true, apart := false }
def DiskCutsSaid : Prop := diskCutsRow.holds Tryz.pinned (OpenSpec.ofChange diskCutsSpec)

/-- ITS FALSE NEIGHBOUR: 'it returns false'. Refute it at one input. -/
def diskCutsWrong : ChangeSpec := { name := "diskCuts", fn := fun _ => fun
  | [d1, d2] => { results := [.lit (.bool false)], args := [d1, d2] }
  | _ => none }
def DiskCutsWrongFalsely : Prop := diskCutsRow.holds Tryz.pinned (OpenSpec.ofChange diskCutsWrong)

/- THE SECOND FORM. 'bulk': how many values and letters a reading holds, each counted each time it is reached (what is shared counts as often as it is met; a slice's spare places count too). A statement '..UptoSaid' is the law's where the arguments, and the package variables that the reading takes, are together of bulk at most 1048576: NARROWER than '..Said'. Prove '..Said' where nothing that the law and all that it calls make is longer than what came in: it says more and counts as full. Else prove '..UptoSaid'. A law counts once. -/
mutual
def uptoBulk {H : Type} : DataW H → Nat
  | .lit (.string bytes) => bytes.length + 1
  | .lit _ => 1
  | .nil => 1
  | .ptr d => uptoBulk d + 1
  | .slice elems spare => uptoBulkAll elems + uptoBulkAll spare + 1
  | .agg parts => uptoBulkAll parts + 1
  | .iface _ d => uptoBulk d + 1
  | .map entries => uptoBulkEntries entries + 1
  | .held _ => 1
def uptoBulkAll {H : Type} : List (DataW H) → Nat
  | [] => 0
  | d :: r => uptoBulk d + uptoBulkAll r
def uptoBulkEntries {H : Type} : List (Lit × DataW H) → Nat
  | [] => 0
  | x :: r => uptoBulkEntry x + uptoBulkEntries r
def uptoBulkEntry {H : Type} : Lit × DataW H → Nat
  | (.string bytes, d) => bytes.length + uptoBulk d + 1
  | (_, d) => uptoBulk d + 1
 end
def uptoSmall : (H : Type) → List (DataW H) → Bool := fun _ ds => decide (uptoBulkAll ds ≤ 1048576)
def OpenSpec.upto (s : _root_.Go.ChangeSpec) : _root_.Go.OpenSpec := { _root_.Go.OpenSpec.ofChange s with cond := some uptoSmall }

/-- 'keelsonlaw06.BbtPlays', WHERE WHAT IT READS IS OF BULK AT MOST 1048576: true; the input reads as it did. -/
def bbtPlaysUptoRow : OpenClaim := { program := "ytdfidkhbldedlaagreat", sum := "eb12615e9533a373e1e1124e4def447a38d29e3fcd6fe336fd13e8b7145e4ebf", func := "keelson/keelsonlaw06.BbtPlays", spec := "bbtPlays", inPlace := ["internal/bytealg.MakeNoZero"], unfollowed := true, recurses := true, apart := false, narrowed := true }
def BbtPlaysUptoSaid : Prop := bbtPlaysUptoRow.holds Tryz.pinned (OpenSpec.upto bbtPlaysSpec)

/-- 'keelsonlaw06.BbtCuts', WHERE WHAT IT READS IS OF BULK AT MOST 1048576: true; the input reads as it did. -/
def bbtCutsUptoRow : OpenClaim := { program := "ytdfidkhbldedlaagreat", sum := "eb12615e9533a373e1e1124e4def447a38d29e3fcd6fe336fd13e8b7145e4ebf", func := "keelson/keelsonlaw06.BbtCuts", spec := "bbtCuts", inPlace := ["internal/bytealg.MakeNoZero"], unfollowed := true, recurses := true, apart := false, narrowed := true }
def BbtCutsUptoSaid : Prop := bbtCutsUptoRow.holds Tryz.pinned (OpenSpec.upto bbtCutsSpec)

/-- 'keelsonlaw06.BbtFlips', WHERE WHAT IT READS IS OF BULK AT MOST 1048576: true; the input reads as it did. -/
def bbtFlipsUptoRow : OpenClaim := { program := "ytdfidkhbldedlaagreat", sum := "eb12615e9533a373e1e1124e4def447a38d29e3fcd6fe336fd13e8b7145e4ebf", func := "keelson/keelsonlaw06.BbtFlips", spec := "bbtFlips", inPlace := ["internal/bytealg.MakeNoZero"], unfollowed := true, recurses := true, apart := false, narrowed := true }
def BbtFlipsUptoSaid : Prop := bbtFlipsUptoRow.holds Tryz.pinned (OpenSpec.upto bbtFlipsSpec)

/-- 'keelsonlaw07.DiskWorn', WHERE WHAT IT READS IS OF BULK AT MOST 1048576: true; the input reads as it did. -/
def diskWornUptoRow : OpenClaim := { program := "ytdfidkhbldedlaagreat", sum := "eb12615e9533a373e1e1124e4def447a38d29e3fcd6fe336fd13e8b7145e4ebf", func := "keelson/keelsonlaw07.DiskWorn", spec := "diskWorn", inPlace := ["internal/bytealg.MakeNoZero"], unfollowed := true, recurses := true, apart := false, narrowed := true }
def DiskWornUptoSaid : Prop := diskWornUptoRow.holds Tryz.pinned (OpenSpec.upto diskWornSpec)

/-- 'keelsonlaw07.DiskMends', WHERE WHAT IT READS IS OF BULK AT MOST 1048576: true; the input reads as it did. -/
def diskMendsUptoRow : OpenClaim := { program := "ytdfidkhbldedlaagreat", sum := "eb12615e9533a373e1e1124e4def447a38d29e3fcd6fe336fd13e8b7145e4ebf", func := "keelson/keelsonlaw07.DiskMends", spec := "diskMends", inPlace := ["internal/bytealg.MakeNoZero"], unfollowed := true, recurses := true, apart := false, narrowed := true }
def DiskMendsUptoSaid : Prop := diskMendsUptoRow.holds Tryz.pinned (OpenSpec.upto diskMendsSpec)

/-- 'keelsonlaw07.DiskApart', WHERE WHAT IT READS IS OF BULK AT MOST 1048576: true; the input reads as it did. -/
def diskApartUptoRow : OpenClaim := { program := "ytdfidkhbldedlaagreat", sum := "eb12615e9533a373e1e1124e4def447a38d29e3fcd6fe336fd13e8b7145e4ebf", func := "keelson/keelsonlaw07.DiskApart", spec := "diskApart", inPlace := ["internal/bytealg.MakeNoZero"], unfollowed := true, recurses := true, apart := false, narrowed := true }
def DiskApartUptoSaid : Prop := diskApartUptoRow.holds Tryz.pinned (OpenSpec.upto diskApartSpec)

/-- 'keelsonlaw07.DiskOrder', WHERE WHAT IT READS IS OF BULK AT MOST 1048576: true; the input reads as it did. -/
def diskOrderUptoRow : OpenClaim := { program := "ytdfidkhbldedlaagreat", sum := "eb12615e9533a373e1e1124e4def447a38d29e3fcd6fe336fd13e8b7145e4ebf", func := "keelson/keelsonlaw07.DiskOrder", spec := "diskOrder", inPlace := ["internal/bytealg.MakeNoZero"], unfollowed := true, recurses := true, apart := false, narrowed := true }
def DiskOrderUptoSaid : Prop := diskOrderUptoRow.holds Tryz.pinned (OpenSpec.upto diskOrderSpec)

/-- 'keelsonlaw07.DiskPlays', WHERE WHAT IT READS IS OF BULK AT MOST 1048576: true; the input reads as it did. -/
def diskPlaysUptoRow : OpenClaim := { program := "ytdfidkhbldedlaagreat", sum := "eb12615e9533a373e1e1124e4def447a38d29e3fcd6fe336fd13e8b7145e4ebf", func := "keelson/keelsonlaw07.DiskPlays", spec := "diskPlays", inPlace := ["internal/bytealg.MakeNoZero"], unfollowed := true, recurses := true, apart := false, narrowed := true }
def DiskPlaysUptoSaid : Prop := diskPlaysUptoRow.holds Tryz.pinned (OpenSpec.upto diskPlaysSpec)

/-- 'keelsonlaw07.DiskCuts', WHERE WHAT IT READS IS OF BULK AT MOST 1048576: true; the input reads as it did. -/
def diskCutsUptoRow : OpenClaim := { program := "ytdfidkhbldedlaagreat", sum := "eb12615e9533a373e1e1124e4def447a38d29e3fcd6fe336fd13e8b7145e4ebf", func := "keelson/keelsonlaw07.DiskCuts", spec := "diskCuts", inPlace := ["internal/bytealg.MakeNoZero"], unfollowed := true, recurses := true, apart := false, narrowed := true }
def DiskCutsUptoSaid : Prop := diskCutsUptoRow.holds Tryz.pinned (OpenSpec.upto diskCutsSpec)

end Rows
end Go.Proofs.YtdfidkhbldedlaaGreat
