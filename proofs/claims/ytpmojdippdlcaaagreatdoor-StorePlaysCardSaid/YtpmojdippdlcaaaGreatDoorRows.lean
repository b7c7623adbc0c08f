/-
  NARROWER THAN 'FOR EVERY INPUT', by the rows' own cells (each row's printed sentence says how): StoreKeys: laid · StoreLast: laid · StoreLimit: laid · StoreViews: laid · StoreSame: laid · StorePlays: laid · StoreCuts: laid · StoreRepairs: laid · StoreRefreshes: laid · StoreBecomes: laid.
  DERIVED. THE GIVEN ROWS OF THIS SEAT. 10 by the template 'for every input the law returns true; each argument reads behind the call as it read before'; 0 by the template 'total and deterministic' (their statements: YtpmojdippdlcaaaGreatDoorTotals.lean).
  GIVEN WITH THE SEED: the statements are not yours to turn. If you find one false, say at which input.
  Laid BY PROGRAM, IN A SANDBOX (cutbox-rows.mjs): the forced cells as the released guide's own fill.sh prints them over the translation 518c82107f7ea2e1… (all of the seat's roots in one cut). By AI agents, Wed Nov 11 2026. No macro, syntax, notation, axiom, sorry.
-/
import Derived.Test.YtpmojdippdlcaaaGreatDoorChecked
import GoSem.Claim
import GoSem.ClaimJoined
import GoSem.ClaimMapViews
import Derived.JoinedTies
import Derived.KernelRfl
namespace Go.Proofs.YtpmojdippdlcaaaGreatDoor
/- THE CELL 'sum', in the pinned program and in every row, IS THE sha256 OF THE DUMP (.gsa) THAT YtpmojdippdlcaaaGreatDoorProg.lean LOADS. Nothing in Lean hashes anything: it is a label: what it is worth is what the hold of that sum in a sandbox is worth. -/
noncomputable def Tryz.pinned : Pinned := { name := "ytpmojdippdlcaaagreatdoor", sum := "518c82107f7ea2e1cc2a0d730630b35fc83bf9a322a9cbd4fecfb5fd58dfc543", checked := Tryz.checked }
namespace Rows
def none {H : Type} : Left H := { results := [], args := [] }

/- WHAT THE LISTED PACKAGE-LEVEL VARIABLES READ AS WHEN THE CALL BEGINS. Each datum BY PROGRAM (the guide's laid-datum.mjs) off the statement by which the dump's own 'gosem.cut.vars' lays the variable. In a bare row this is a premise. The card (YtpmojdippdlcaaaGreatDoorCards.lean) ties it to the program's text. -/
def laid_keelson_store_lost {H : Type} : DataW H := .agg [.lit (.int .i64 (-1)), .lit (.int .i64 (-1))]

/-- 'keelsonlaw11.StoreKeys': WHATEVER THE INPUT: true; the input reads as it did. -/
def storeKeysSpec : ChangeSpec := { name := "storeKeys", fn := fun _ => fun
  | [d1, d2, d3] => { results := [.lit (.bool true)], args := [d1, d2, d3] }
  | _ => none }
def storeKeysRow : OpenClaim := { program := "ytpmojdippdlcaaagreatdoor", sum := "518c82107f7ea2e1cc2a0d730630b35fc83bf9a322a9cbd4fecfb5fd58dfc543", func := "keelson/keelsonlaw11.StoreKeys", spec := "storeKeys", inPlace := ["internal/bytealg.MakeNoZero", "maps.clone"], unfollowed := true, recurses := true, named := ["keelson/store.lost"], plainKeys := false, apart := false, laid := [("keelson/store.lost", laid_keelson_store_lost)] }
def StoreKeysSaid : Prop := storeKeysRow.holds Tryz.pinned (OpenSpec.ofChange storeKeysSpec)

/-- ITS FALSE NEIGHBOUR: 'it returns false'. Refute it at one input. -/
def storeKeysWrong : ChangeSpec := { name := "storeKeys", fn := fun _ => fun
  | [d1, d2, d3] => { results := [.lit (.bool false)], args := [d1, d2, d3] }
  | _ => none }
def StoreKeysWrongFalsely : Prop := storeKeysRow.holds Tryz.pinned (OpenSpec.ofChange storeKeysWrong)

/-- 'keelsonlaw11.StoreLast': WHATEVER THE INPUT: true; the input reads as it did. -/
def storeLastSpec : ChangeSpec := { name := "storeLast", fn := fun _ => fun
  | [d] => { results := [.lit (.bool true)], args := [d] }
  | _ => none }
def storeLastRow : OpenClaim := { program := "ytpmojdippdlcaaagreatdoor", sum := "518c82107f7ea2e1cc2a0d730630b35fc83bf9a322a9cbd4fecfb5fd58dfc543", func := "keelson/keelsonlaw11.StoreLast", spec := "storeLast", inPlace := ["internal/bytealg.MakeNoZero", "maps.clone"], unfollowed := true, recurses := true, named := ["keelson/store.lost"], plainKeys := false, apart := false, laid := [("keelson/store.lost", laid_keelson_store_lost)] }
def StoreLastSaid : Prop := storeLastRow.holds Tryz.pinned (OpenSpec.ofChange storeLastSpec)

/-- ITS FALSE NEIGHBOUR: 'it returns false'. Refute it at one input. -/
def storeLastWrong : ChangeSpec := { name := "storeLast", fn := fun _ => fun
  | [d] => { results := [.lit (.bool false)], args := [d] }
  | _ => none }
def StoreLastWrongFalsely : Prop := storeLastRow.holds Tryz.pinned (OpenSpec.ofChange storeLastWrong)

/-- 'keelsonlaw11.StoreLimit': WHATEVER THE INPUT: true; the input reads as it did. -/
def storeLimitSpec : ChangeSpec := { name := "storeLimit", fn := fun _ => fun
  | [d] => { results := [.lit (.bool true)], args := [d] }
  | _ => none }
def storeLimitRow : OpenClaim := { program := "ytpmojdippdlcaaagreatdoor", sum := "518c82107f7ea2e1cc2a0d730630b35fc83bf9a322a9cbd4fecfb5fd58dfc543", func := "keelson/keelsonlaw11.StoreLimit", spec := "storeLimit", inPlace := ["internal/bytealg.MakeNoZero", "maps.clone"], unfollowed := true, recurses := true, named := ["keelson/store.lost"], plainKeys := false, apart := false, laid := [("keelson/store.lost", laid_keelson_store_lost)] }
def StoreLimitSaid : Prop := storeLimitRow.holds Tryz.pinned (OpenSpec.ofChange storeLimitSpec)

/-- ITS FALSE NEIGHBOUR: 'it returns false'. Refute it at one input. -/
def storeLimitWrong : ChangeSpec := { name := "storeLimit", fn := fun _ => fun
  | [d] => { results := [.lit (.bool false)], args := [d] }
  | _ => none }
def StoreLimitWrongFalsely : Prop := storeLimitRow.holds Tryz.pinned (OpenSpec.ofChange storeLimitWrong)

/-- 'keelsonlaw11.StoreViews': WHATEVER THE INPUT: true; the input reads as it did. -/
def storeViewsSpec : ChangeSpec := { name := "storeViews", fn := fun _ => fun
  | [d1, d2] => { results := [.lit (.bool true)], args := [d1, d2] }
  | _ => none }
def storeViewsRow : OpenClaim := { program := "ytpmojdippdlcaaagreatdoor", sum := "518c82107f7ea2e1cc2a0d730630b35fc83bf9a322a9cbd4fecfb5fd58dfc543", func := "keelson/keelsonlaw11.StoreViews", spec := "storeViews", inPlace := ["internal/bytealg.MakeNoZero", "maps.clone"], unfollowed := true, recurses := true, named := ["keelson/store.lost"], plainKeys := false, apart := false, laid := [("keelson/store.lost", laid_keelson_store_lost)] }
def StoreViewsSaid : Prop := storeViewsRow.holds Tryz.pinned (OpenSpec.ofChange storeViewsSpec)

/-- ITS FALSE NEIGHBOUR: 'it returns false'. Refute it at one input. -/
def storeViewsWrong : ChangeSpec := { name := "storeViews", fn := fun _ => fun
  | [d1, d2] => { results := [.lit (.bool false)], args := [d1, d2] }
  | _ => none }
def StoreViewsWrongFalsely : Prop := storeViewsRow.holds Tryz.pinned (OpenSpec.ofChange storeViewsWrong)

/-- 'keelsonlaw11.StoreSame': WHATEVER THE INPUT: true; the input reads as it did. -/
def storeSameSpec : ChangeSpec := { name := "storeSame", fn := fun _ => fun
  | [d] => { results := [.lit (.bool true)], args := [d] }
  | _ => none }
def storeSameRow : OpenClaim := { program := "ytpmojdippdlcaaagreatdoor", sum := "518c82107f7ea2e1cc2a0d730630b35fc83bf9a322a9cbd4fecfb5fd58dfc543", func := "keelson/keelsonlaw11.StoreSame", spec := "storeSame", inPlace := ["internal/bytealg.MakeNoZero", "maps.clone"], unfollowed := true, recurses := true, named := ["keelson/store.lost"], plainKeys := false, apart := false, laid := [("keelson/store.lost", laid_keelson_store_lost)] }
def StoreSameSaid : Prop := storeSameRow.holds Tryz.pinned (OpenSpec.ofChange storeSameSpec)

/-- ITS FALSE NEIGHBOUR: 'it returns false'. Refute it at one input. -/
def storeSameWrong : ChangeSpec := { name := "storeSame", fn := fun _ => fun
  | [d] => { results := [.lit (.bool false)], args := [d] }
  | _ => none }
def StoreSameWrongFalsely : Prop := storeSameRow.holds Tryz.pinned (OpenSpec.ofChange storeSameWrong)

/-- 'keelsonlaw11.StorePlays': WHATEVER THE INPUT: true; the input reads as it did. -/
def storePlaysSpec : ChangeSpec := { name := "storePlays", fn := fun _ => fun
  | [d1, d2, d3] => { results := [.lit (.bool true)], args := [d1, d2, d3] }
  | _ => none }
def storePlaysRow : OpenClaim := { program := "ytpmojdippdlcaaagreatdoor", sum := "518c82107f7ea2e1cc2a0d730630b35fc83bf9a322a9cbd4fecfb5fd58dfc543", func := "keelson/keelsonlaw11.StorePlays", spec := "storePlays", inPlace := ["internal/bytealg.MakeNoZero", "maps.clone"], unfollowed := true, recurses := true, named := ["keelson/store.lost"], plainKeys := false, apart := false, laid := [("keelson/store.lost", laid_keelson_store_lost)] }
def StorePlaysSaid : Prop := storePlaysRow.holds Tryz.pinned (OpenSpec.ofChange storePlaysSpec)

/-- ITS FALSE NEIGHBOUR: 'it returns false'. Refute it at one input. -/
def storePlaysWrong : ChangeSpec := { name := "storePlays", fn := fun _ => fun
  | [d1, d2, d3] => { results := [.lit (.bool false)], args := [d1, d2, d3] }
  | _ => none }
def StorePlaysWrongFalsely : Prop := storePlaysRow.holds Tryz.pinned (OpenSpec.ofChange storePlaysWrong)

/-- 'keelsonlaw11.StoreCuts': WHATEVER THE INPUT: true; the input reads as it did. -/
def storeCutsSpec : ChangeSpec := { name := "storeCuts", fn := fun _ => fun
  | [d1, d2] => { results := [.lit (.bool true)], args := [d1, d2] }
  | _ => none }
def storeCutsRow : OpenClaim := { program := "ytpmojdippdlcaaagreatdoor", sum := "518c82107f7ea2e1cc2a0d730630b35fc83bf9a322a9cbd4fecfb5fd58dfc543", func := "keelson/keelsonlaw11.StoreCuts", spec := "storeCuts", inPlace := ["internal/bytealg.MakeNoZero", "maps.clone"], unfollowed := true, recurses := true, named := ["keelson/store.lost"], plainKeys := false, apart := false, laid := [("keelson/store.lost", laid_keelson_store_lost)] }
def StoreCutsSaid : Prop := storeCutsRow.holds Tryz.pinned (OpenSpec.ofChange storeCutsSpec)

/-- ITS FALSE NEIGHBOUR: 'it returns false'. Refute it at one input. -/
def storeCutsWrong : ChangeSpec := { name := "storeCuts", fn := fun _ => fun
  | [d1, d2] => { results := [.lit (.bool false)], args := [d1, d2] }
  | _ => none }
def StoreCutsWrongFalsely : Prop := storeCutsRow.holds Tryz.pinned (OpenSpec.ofChange storeCutsWrong)

/-- 'keelsonlaw11.StoreRepairs': WHATEVER THE INPUT: true; the input reads as it did. -/
def storeRepairsSpec : ChangeSpec := { name := "storeRepairs", fn := fun _ => fun
  | [d1, d2, d3] => { results := [.lit (.bool true)], args := [d1, d2, d3] }
  | _ => none }
def storeRepairsRow : OpenClaim := { program := "ytpmojdippdlcaaagreatdoor", sum := "518c82107f7ea2e1cc2a0d730630b35fc83bf9a322a9cbd4fecfb5fd58dfc543", func := "keelson/keelsonlaw11.StoreRepairs", spec := "storeRepairs", inPlace := ["internal/bytealg.MakeNoZero", "maps.clone"], unfollowed := true, recurses := true, named := ["keelson/store.lost"], plainKeys := false, apart := false, laid := [("keelson/store.lost", laid_keelson_store_lost)] }
def StoreRepairsSaid : Prop := storeRepairsRow.holds Tryz.pinned (OpenSpec.ofChange storeRepairsSpec)

/-- ITS FALSE NEIGHBOUR: 'it returns false'. Refute it at one input. -/
def storeRepairsWrong : ChangeSpec := { name := "storeRepairs", fn := fun _ => fun
  | [d1, d2, d3] => { results := [.lit (.bool false)], args := [d1, d2, d3] }
  | _ => none }
def StoreRepairsWrongFalsely : Prop := storeRepairsRow.holds Tryz.pinned (OpenSpec.ofChange storeRepairsWrong)

/-- 'keelsonlaw11.StoreRefreshes': WHATEVER THE INPUT: true; the input reads as it did. -/
def storeRefreshesSpec : ChangeSpec := { name := "storeRefreshes", fn := fun _ => fun
  | [d1, d2] => { results := [.lit (.bool true)], args := [d1, d2] }
  | _ => none }
def storeRefreshesRow : OpenClaim := { program := "ytpmojdippdlcaaagreatdoor", sum := "518c82107f7ea2e1cc2a0d730630b35fc83bf9a322a9cbd4fecfb5fd58dfc543", func := "keelson/keelsonlaw11.StoreRefreshes", spec := "storeRefreshes", inPlace := ["internal/bytealg.MakeNoZero", "maps.clone"], unfollowed := true, recurses := true, named := ["keelson/store.lost"], plainKeys := false, apart := false, laid := [("keelson/store.lost", laid_keelson_store_lost)] }
def StoreRefreshesSaid : Prop := storeRefreshesRow.holds Tryz.pinned (OpenSpec.ofChange storeRefreshesSpec)

/-- ITS FALSE NEIGHBOUR: 'it returns false'. Refute it at one input. -/
def storeRefreshesWrong : ChangeSpec := { name := "storeRefreshes", fn := fun _ => fun
  | [d1, d2] => { results := [.lit (.bool false)], args := [d1, d2] }
  | _ => none }
def StoreRefreshesWrongFalsely : Prop := storeRefreshesRow.holds Tryz.pinned (OpenSpec.ofChange storeRefreshesWrong)

/-- 'keelsonlaw11.StoreBecomes': WHATEVER THE INPUT: true; the input reads as it did. -/
def storeBecomesSpec : ChangeSpec := { name := "storeBecomes", fn := fun _ => fun
  | [d1, d2, d3, d4, d5] => { results := [.lit (.bool true)], args := [d1, d2, d3, d4, d5] }
  | _ => none }
def storeBecomesRow : OpenClaim := { program := "ytpmojdippdlcaaagreatdoor", sum := "518c82107f7ea2e1cc2a0d730630b35fc83bf9a322a9cbd4fecfb5fd58dfc543", func := "keelson/keelsonlaw11.StoreBecomes", spec := "storeBecomes", inPlace := ["internal/bytealg.MakeNoZero", "maps.clone"], unfollowed := true, recurses := true, named := ["keelson/store.lost"], plainKeys := false, apart := false, laid := [("keelson/store.lost", laid_keelson_store_lost)] }
def StoreBecomesSaid : Prop := storeBecomesRow.holds Tryz.pinned (OpenSpec.ofChange storeBecomesSpec)

/-- ITS FALSE NEIGHBOUR: 'it returns false'. Refute it at one input. -/
def storeBecomesWrong : ChangeSpec := { name := "storeBecomes", fn := fun _ => fun
  | [d1, d2, d3, d4, d5] => { results := [.lit (.bool false)], args := [d1, d2, d3, d4, d5] }
  | _ => none }
def StoreBecomesWrongFalsely : Prop := storeBecomesRow.holds Tryz.pinned (OpenSpec.ofChange storeBecomesWrong)

/- THE SECOND FORM. 'bulk': how many values and letters a reading holds, each counted each time it is reached (what is shared counts as often as it is met; a slice's spare places count too). A statement '..UptoSaid' is the law's where the arguments, and the package variables that the reading takes, are together of bulk at most 1048576: NARROWER than '..Said'. Prove '..Said' where nothing that the law and all that it calls make is longer than what came in: it says more and counts as full. Else prove '..UptoSaid'. A law counts once. -/
mutual
def uptoBulk {H : Type} : DataW H → Nat
  | .lit (.string bytes) => bytes.length + 1
  | .lit _ => 1
  | .nil => 1
  | .ptr d => uptoBulk d + 1
  | .slice elems spare => uptoBulkAll elems + uptoBulkAll spare + 1
  | .agg parts => uptoBulkAll parts + 1
  | .iface _ d => uptoBulk d + 1
  | .map entries => uptoBulkEntries entries + 1
  | .held _ => 1
def uptoBulkAll {H : Type} : List (DataW H) → Nat
  | [] => 0
  | d :: r => uptoBulk d + uptoBulkAll r
def uptoBulkEntries {H : Type} : List (Lit × DataW H) → Nat
  | [] => 0
  | x :: r => uptoBulkEntry x + uptoBulkEntries r
def uptoBulkEntry {H : Type} : Lit × DataW H → Nat
  | (.string bytes, d) => bytes.length + uptoBulk d + 1
  | (_, d) => uptoBulk d + 1
 end
def uptoSmall : (H : Type) → List (DataW H) → Bool := fun _ ds => decide (uptoBulkAll ds ≤ 1048576)
def OpenSpec.upto (s : _root_.Go.ChangeSpec) : _root_.Go.OpenSpec := { _root_.Go.OpenSpec.ofChange s with cond := some uptoSmall }

/-- 'keelsonlaw11.StoreKeys', WHERE WHAT IT READS IS OF BULK AT MOST 1048576: true; the input reads as it did. -/
def storeKeysUptoRow : OpenClaim := { program := "ytpmojdippdlcaaagreatdoor", sum := "518c82107f7ea2e1cc2a0d730630b35fc83bf9a322a9cbd4fecfb5fd58dfc543", func := "keelson/keelsonlaw11.StoreKeys", spec := "storeKeys", inPlace := ["internal/bytealg.MakeNoZero", "maps.clone"], unfollowed := true, recurses := true, named := ["keelson/store.lost"], plainKeys := false, apart := false, laid := [("keelson/store.lost", laid_keelson_store_lost)], narrowed := true }
def StoreKeysUptoSaid : Prop := storeKeysUptoRow.holds Tryz.pinned (OpenSpec.upto storeKeysSpec)

/-- 'keelsonlaw11.StoreLast', WHERE WHAT IT READS IS OF BULK AT MOST 1048576: true; the input reads as it did. -/
def storeLastUptoRow : OpenClaim := { program := "ytpmojdippdlcaaagreatdoor", sum := "518c82107f7ea2e1cc2a0d730630b35fc83bf9a322a9cbd4fecfb5fd58dfc543", func := "keelson/keelsonlaw11.StoreLast", spec := "storeLast", inPlace := ["internal/bytealg.MakeNoZero", "maps.clone"], unfollowed := true, recurses := true, named := ["keelson/store.lost"], plainKeys := false, apart := false, laid := [("keelson/store.lost", laid_keelson_store_lost)], narrowed := true }
def StoreLastUptoSaid : Prop := storeLastUptoRow.holds Tryz.pinned (OpenSpec.upto storeLastSpec)

/-- 'keelsonlaw11.StoreLimit', WHERE WHAT IT READS IS OF BULK AT MOST 1048576: true; the input reads as it did. -/
def storeLimitUptoRow : OpenClaim := { program := "ytpmojdippdlcaaagreatdoor", sum := "518c82107f7ea2e1cc2a0d730630b35fc83bf9a322a9cbd4fecfb5fd58dfc543", func := "keelson/keelsonlaw11.StoreLimit", spec := "storeLimit", inPlace := ["internal/bytealg.MakeNoZero", "maps.clone"], unfollowed := true, recurses := true, named := ["keelson/store.lost"], plainKeys := false, apart := false, laid := [("keelson/store.lost", laid_keelson_store_lost)], narrowed := true }
def StoreLimitUptoSaid : Prop := storeLimitUptoRow.holds Tryz.pinned (OpenSpec.upto storeLimitSpec)

/-- 'keelsonlaw11.StoreViews', WHERE WHAT IT READS IS OF BULK AT MOST 1048576: true; the input reads as it did. -/
def storeViewsUptoRow : OpenClaim := { program := "ytpmojdippdlcaaagreatdoor", sum := "518c82107f7ea2e1cc2a0d730630b35fc83bf9a322a9cbd4fecfb5fd58dfc543", func := "keelson/keelsonlaw11.StoreViews", spec := "storeViews", inPlace := ["internal/bytealg.MakeNoZero", "maps.clone"], unfollowed := true, recurses := true, named := ["keelson/store.lost"], plainKeys := false, apart := false, laid := [("keelson/store.lost", laid_keelson_store_lost)], narrowed := true }
def StoreViewsUptoSaid : Prop := storeViewsUptoRow.holds Tryz.pinned (OpenSpec.upto storeViewsSpec)

/-- 'keelsonlaw11.StoreSame', WHERE WHAT IT READS IS OF BULK AT MOST 1048576: true; the input reads as it did. -/
def storeSameUptoRow : OpenClaim := { program := "ytpmojdippdlcaaagreatdoor", sum := "518c82107f7ea2e1cc2a0d730630b35fc83bf9a322a9cbd4fecfb5fd58dfc543", func := "keelson/keelsonlaw11.StoreSame", spec := "storeSame", inPlace := ["internal/bytealg.MakeNoZero", "maps.clone"], unfollowed := true, recurses := true, named := ["keelson/store.lost"], plainKeys := false, apart := false, laid := [("keelson/store.lost", laid_keelson_store_lost)], narrowed := true }
def StoreSameUptoSaid : Prop := storeSameUptoRow.holds Tryz.pinned (OpenSpec.upto storeSameSpec)

/-- 'keelsonlaw11.StorePlays', WHERE WHAT IT READS IS OF BULK AT MOST 1048576: true; the input reads as it did. -/
def storePlaysUptoRow : OpenClaim := { program := "ytpmojdippdlcaaagreatdoor", sum := "518c82107f7ea2e1cc2a0d730630b35fc83bf9a322a9cbd4fecfb5fd58dfc543", func := "keelson/keelsonlaw11.StorePlays", spec := "storePlays", inPlace := ["internal/bytealg.MakeNoZero", "maps.clone"], unfollowed := true, recurses := true, named := ["keelson/store.lost"], plainKeys := false, apart := false, laid := [("keelson/store.lost", laid_keelson_store_lost)], narrowed := true }
def StorePlaysUptoSaid : Prop := storePlaysUptoRow.holds Tryz.pinned (OpenSpec.upto storePlaysSpec)

/-- 'keelsonlaw11.StoreCuts', WHERE WHAT IT READS IS OF BULK AT MOST 1048576: true; the input reads as it did. -/
def storeCutsUptoRow : OpenClaim := { program := "ytpmojdippdlcaaagreatdoor", sum := "518c82107f7ea2e1cc2a0d730630b35fc83bf9a322a9cbd4fecfb5fd58dfc543", func := "keelson/keelsonlaw11.StoreCuts", spec := "storeCuts", inPlace := ["internal/bytealg.MakeNoZero", "maps.clone"], unfollowed := true, recurses := true, named := ["keelson/store.lost"], plainKeys := false, apart := false, laid := [("keelson/store.lost", laid_keelson_store_lost)], narrowed := true }
def StoreCutsUptoSaid : Prop := storeCutsUptoRow.holds Tryz.pinned (OpenSpec.upto storeCutsSpec)

/-- 'keelsonlaw11.StoreRepairs', WHERE WHAT IT READS IS OF BULK AT MOST 1048576: true; the input reads as it did. -/
def storeRepairsUptoRow : OpenClaim := { program := "ytpmojdippdlcaaagreatdoor", sum := "518c82107f7ea2e1cc2a0d730630b35fc83bf9a322a9cbd4fecfb5fd58dfc543", func := "keelson/keelsonlaw11.StoreRepairs", spec := "storeRepairs", inPlace := ["internal/bytealg.MakeNoZero", "maps.clone"], unfollowed := true, recurses := true, named := ["keelson/store.lost"], plainKeys := false, apart := false, laid := [("keelson/store.lost", laid_keelson_store_lost)], narrowed := true }
def StoreRepairsUptoSaid : Prop := storeRepairsUptoRow.holds Tryz.pinned (OpenSpec.upto storeRepairsSpec)

/-- 'keelsonlaw11.StoreRefreshes', WHERE WHAT IT READS IS OF BULK AT MOST 1048576: true; the input reads as it did. -/
def storeRefreshesUptoRow : OpenClaim := { program := "ytpmojdippdlcaaagreatdoor", sum := "518c82107f7ea2e1cc2a0d730630b35fc83bf9a322a9cbd4fecfb5fd58dfc543", func := "keelson/keelsonlaw11.StoreRefreshes", spec := "storeRefreshes", inPlace := ["internal/bytealg.MakeNoZero", "maps.clone"], unfollowed := true, recurses := true, named := ["keelson/store.lost"], plainKeys := false, apart := false, laid := [("keelson/store.lost", laid_keelson_store_lost)], narrowed := true }
def StoreRefreshesUptoSaid : Prop := storeRefreshesUptoRow.holds Tryz.pinned (OpenSpec.upto storeRefreshesSpec)

/-- 'keelsonlaw11.StoreBecomes', WHERE WHAT IT READS IS OF BULK AT MOST 1048576: true; the input reads as it did. -/
def storeBecomesUptoRow : OpenClaim := { program := "ytpmojdippdlcaaagreatdoor", sum := "518c82107f7ea2e1cc2a0d730630b35fc83bf9a322a9cbd4fecfb5fd58dfc543", func := "keelson/keelsonlaw11.StoreBecomes", spec := "storeBecomes", inPlace := ["internal/bytealg.MakeNoZero", "maps.clone"], unfollowed := true, recurses := true, named := ["keelson/store.lost"], plainKeys := false, apart := false, laid := [("keelson/store.lost", laid_keelson_store_lost)], narrowed := true }
def StoreBecomesUptoSaid : Prop := storeBecomesUptoRow.holds Tryz.pinned (OpenSpec.upto storeBecomesSpec)

end Rows
end Go.Proofs.YtpmojdippdlcaaaGreatDoor
