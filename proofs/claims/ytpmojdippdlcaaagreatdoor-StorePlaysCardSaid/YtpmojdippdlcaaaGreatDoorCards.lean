/-
  DERIVED. GIVEN WITH THE SEED: THE CARDS: each row of YtpmojdippdlcaaaGreatDoorRows.lean that lists a variable, with what it lists TIED to the program's text (the seventh form; the later family's looks); each row that meets fmt, with fmt's text TOLD by the authors' own Lean function (tested against real Go, not proved from fmt's source: count such statements apart). THE CARD IS WHAT COUNTS. Prove the row's statement (the work); the ties are given (YtpmojdippdlcaaaGreatDoorTie.lean); close each card by the builder's one call (the guide's Derived/Test/ToyasCard.lean, 'card_holds'). Laid BY PROGRAM, IN A SANDBOX (cutbox-door.mjs). By AI agents, Wed Nov 11 2026. No macro, syntax, notation, axiom, sorry.
-/
import Derived.Test.YtpmojdippdlcaaaGreatDoorRows
import GoSem.ClaimSeven
namespace Go.Proofs.YtpmojdippdlcaaaGreatDoor
namespace Rows

/-- THE TIED CARD OF 'keelsonlaw11.StoreKeys'. -/
def storeKeysCard : Claim7 := { stood := { row := storeKeysRow, standIns := [], harness := (true, "f0a1e88a6c7b686a5bda3ea84ca11852565ecab838dfd464eb8ecfb800bc3bba"), looks := true }, kinds := [], alts := [], laidByText := true, laidKinds := [.data], laidTests := true, laidLooks := .later }
def StoreKeysCardSaid : Prop := Claim7.holds Tryz.pinned (.plain (OpenSpec.ofChange storeKeysSpec)) storeKeysCard

/-- THE TIED CARD OF 'keelsonlaw11.StoreLast'. -/
def storeLastCard : Claim7 := { stood := { row := storeLastRow, standIns := [], harness := (true, "f0a1e88a6c7b686a5bda3ea84ca11852565ecab838dfd464eb8ecfb800bc3bba"), looks := true }, kinds := [], alts := [], laidByText := true, laidKinds := [.data], laidTests := true, laidLooks := .later }
def StoreLastCardSaid : Prop := Claim7.holds Tryz.pinned (.plain (OpenSpec.ofChange storeLastSpec)) storeLastCard

/-- THE TIED CARD OF 'keelsonlaw11.StoreLimit'. -/
def storeLimitCard : Claim7 := { stood := { row := storeLimitRow, standIns := [], harness := (true, "f0a1e88a6c7b686a5bda3ea84ca11852565ecab838dfd464eb8ecfb800bc3bba"), looks := true }, kinds := [], alts := [], laidByText := true, laidKinds := [.data], laidTests := true, laidLooks := .later }
def StoreLimitCardSaid : Prop := Claim7.holds Tryz.pinned (.plain (OpenSpec.ofChange storeLimitSpec)) storeLimitCard

/-- THE TIED CARD OF 'keelsonlaw11.StoreViews'. -/
def storeViewsCard : Claim7 := { stood := { row := storeViewsRow, standIns := [], harness := (true, "f0a1e88a6c7b686a5bda3ea84ca11852565ecab838dfd464eb8ecfb800bc3bba"), looks := true }, kinds := [], alts := [], laidByText := true, laidKinds := [.data], laidTests := true, laidLooks := .later }
def StoreViewsCardSaid : Prop := Claim7.holds Tryz.pinned (.plain (OpenSpec.ofChange storeViewsSpec)) storeViewsCard

/-- THE TIED CARD OF 'keelsonlaw11.StoreSame'. -/
def storeSameCard : Claim7 := { stood := { row := storeSameRow, standIns := [], harness := (true, "f0a1e88a6c7b686a5bda3ea84ca11852565ecab838dfd464eb8ecfb800bc3bba"), looks := true }, kinds := [], alts := [], laidByText := true, laidKinds := [.data], laidTests := true, laidLooks := .later }
def StoreSameCardSaid : Prop := Claim7.holds Tryz.pinned (.plain (OpenSpec.ofChange storeSameSpec)) storeSameCard

/-- THE TIED CARD OF 'keelsonlaw11.StorePlays'. -/
def storePlaysCard : Claim7 := { stood := { row := storePlaysRow, standIns := [], harness := (true, "f0a1e88a6c7b686a5bda3ea84ca11852565ecab838dfd464eb8ecfb800bc3bba"), looks := true }, kinds := [], alts := [], laidByText := true, laidKinds := [.data], laidTests := true, laidLooks := .later }
def StorePlaysCardSaid : Prop := Claim7.holds Tryz.pinned (.plain (OpenSpec.ofChange storePlaysSpec)) storePlaysCard

/-- THE TIED CARD OF 'keelsonlaw11.StoreCuts'. -/
def storeCutsCard : Claim7 := { stood := { row := storeCutsRow, standIns := [], harness := (true, "f0a1e88a6c7b686a5bda3ea84ca11852565ecab838dfd464eb8ecfb800bc3bba"), looks := true }, kinds := [], alts := [], laidByText := true, laidKinds := [.data], laidTests := true, laidLooks := .later }
def StoreCutsCardSaid : Prop := Claim7.holds Tryz.pinned (.plain (OpenSpec.ofChange storeCutsSpec)) storeCutsCard

/-- THE TIED CARD OF 'keelsonlaw11.StoreRepairs'. -/
def storeRepairsCard : Claim7 := { stood := { row := storeRepairsRow, standIns := [], harness := (true, "f0a1e88a6c7b686a5bda3ea84ca11852565ecab838dfd464eb8ecfb800bc3bba"), looks := true }, kinds := [], alts := [], laidByText := true, laidKinds := [.data], laidTests := true, laidLooks := .later }
def StoreRepairsCardSaid : Prop := Claim7.holds Tryz.pinned (.plain (OpenSpec.ofChange storeRepairsSpec)) storeRepairsCard

/-- THE TIED CARD OF 'keelsonlaw11.StoreRefreshes'. -/
def storeRefreshesCard : Claim7 := { stood := { row := storeRefreshesRow, standIns := [], harness := (true, "f0a1e88a6c7b686a5bda3ea84ca11852565ecab838dfd464eb8ecfb800bc3bba"), looks := true }, kinds := [], alts := [], laidByText := true, laidKinds := [.data], laidTests := true, laidLooks := .later }
def StoreRefreshesCardSaid : Prop := Claim7.holds Tryz.pinned (.plain (OpenSpec.ofChange storeRefreshesSpec)) storeRefreshesCard

/-- THE TIED CARD OF 'keelsonlaw11.StoreBecomes'. -/
def storeBecomesCard : Claim7 := { stood := { row := storeBecomesRow, standIns := [], harness := (true, "f0a1e88a6c7b686a5bda3ea84ca11852565ecab838dfd464eb8ecfb800bc3bba"), looks := true }, kinds := [], alts := [], laidByText := true, laidKinds := [.data], laidTests := true, laidLooks := .later }
def StoreBecomesCardSaid : Prop := Claim7.holds Tryz.pinned (.plain (OpenSpec.ofChange storeBecomesSpec)) storeBecomesCard

/-- THE SECOND FORM's CARD OF 'keelsonlaw11.StoreKeys'. -/
def storeKeysUptoCard : Claim7 := { stood := { row := storeKeysUptoRow, standIns := [], harness := (true, "f0a1e88a6c7b686a5bda3ea84ca11852565ecab838dfd464eb8ecfb800bc3bba"), looks := true }, kinds := [], alts := [], laidByText := true, laidKinds := [.data], laidTests := true, laidLooks := .later }
def StoreKeysUptoCardSaid : Prop := Claim7.holds Tryz.pinned (.plain (OpenSpec.upto storeKeysSpec)) storeKeysUptoCard

/-- THE SECOND FORM's CARD OF 'keelsonlaw11.StoreLast'. -/
def storeLastUptoCard : Claim7 := { stood := { row := storeLastUptoRow, standIns := [], harness := (true, "f0a1e88a6c7b686a5bda3ea84ca11852565ecab838dfd464eb8ecfb800bc3bba"), looks := true }, kinds := [], alts := [], laidByText := true, laidKinds := [.data], laidTests := true, laidLooks := .later }
def StoreLastUptoCardSaid : Prop := Claim7.holds Tryz.pinned (.plain (OpenSpec.upto storeLastSpec)) storeLastUptoCard

/-- THE SECOND FORM's CARD OF 'keelsonlaw11.StoreLimit'. -/
def storeLimitUptoCard : Claim7 := { stood := { row := storeLimitUptoRow, standIns := [], harness := (true, "f0a1e88a6c7b686a5bda3ea84ca11852565ecab838dfd464eb8ecfb800bc3bba"), looks := true }, kinds := [], alts := [], laidByText := true, laidKinds := [.data], laidTests := true, laidLooks := .later }
def StoreLimitUptoCardSaid : Prop := Claim7.holds Tryz.pinned (.plain (OpenSpec.upto storeLimitSpec)) storeLimitUptoCard

/-- THE SECOND FORM's CARD OF 'keelsonlaw11.StoreViews'. -/
def storeViewsUptoCard : Claim7 := { stood := { row := storeViewsUptoRow, standIns := [], harness := (true, "f0a1e88a6c7b686a5bda3ea84ca11852565ecab838dfd464eb8ecfb800bc3bba"), looks := true }, kinds := [], alts := [], laidByText := true, laidKinds := [.data], laidTests := true, laidLooks := .later }
def StoreViewsUptoCardSaid : Prop := Claim7.holds Tryz.pinned (.plain (OpenSpec.upto storeViewsSpec)) storeViewsUptoCard

/-- THE SECOND FORM's CARD OF 'keelsonlaw11.StoreSame'. -/
def storeSameUptoCard : Claim7 := { stood := { row := storeSameUptoRow, standIns := [], harness := (true, "f0a1e88a6c7b686a5bda3ea84ca11852565ecab838dfd464eb8ecfb800bc3bba"), looks := true }, kinds := [], alts := [], laidByText := true, laidKinds := [.data], laidTests := true, laidLooks := .later }
def StoreSameUptoCardSaid : Prop := Claim7.holds Tryz.pinned (.plain (OpenSpec.upto storeSameSpec)) storeSameUptoCard

/-- THE SECOND FORM's CARD OF 'keelsonlaw11.StorePlays'. -/
def storePlaysUptoCard : Claim7 := { stood := { row := storePlaysUptoRow, standIns := [], harness := (true, "f0a1e88a6c7b686a5bda3ea84ca11852565ecab838dfd464eb8ecfb800bc3bba"), looks := true }, kinds := [], alts := [], laidByText := true, laidKinds := [.data], laidTests := true, laidLooks := .later }
def StorePlaysUptoCardSaid : Prop := Claim7.holds Tryz.pinned (.plain (OpenSpec.upto storePlaysSpec)) storePlaysUptoCard

/-- THE SECOND FORM's CARD OF 'keelsonlaw11.StoreCuts'. -/
def storeCutsUptoCard : Claim7 := { stood := { row := storeCutsUptoRow, standIns := [], harness := (true, "f0a1e88a6c7b686a5bda3ea84ca11852565ecab838dfd464eb8ecfb800bc3bba"), looks := true }, kinds := [], alts := [], laidByText := true, laidKinds := [.data], laidTests := true, laidLooks := .later }
def StoreCutsUptoCardSaid : Prop := Claim7.holds Tryz.pinned (.plain (OpenSpec.upto storeCutsSpec)) storeCutsUptoCard

/-- THE SECOND FORM's CARD OF 'keelsonlaw11.StoreRepairs'. -/
def storeRepairsUptoCard : Claim7 := { stood := { row := storeRepairsUptoRow, standIns := [], harness := (true, "f0a1e88a6c7b686a5bda3ea84ca11852565ecab838dfd464eb8ecfb800bc3bba"), looks := true }, kinds := [], alts := [], laidByText := true, laidKinds := [.data], laidTests := true, laidLooks := .later }
def StoreRepairsUptoCardSaid : Prop := Claim7.holds Tryz.pinned (.plain (OpenSpec.upto storeRepairsSpec)) storeRepairsUptoCard

/-- THE SECOND FORM's CARD OF 'keelsonlaw11.StoreRefreshes'. -/
def storeRefreshesUptoCard : Claim7 := { stood := { row := storeRefreshesUptoRow, standIns := [], harness := (true, "f0a1e88a6c7b686a5bda3ea84ca11852565ecab838dfd464eb8ecfb800bc3bba"), looks := true }, kinds := [], alts := [], laidByText := true, laidKinds := [.data], laidTests := true, laidLooks := .later }
def StoreRefreshesUptoCardSaid : Prop := Claim7.holds Tryz.pinned (.plain (OpenSpec.upto storeRefreshesSpec)) storeRefreshesUptoCard

/-- THE SECOND FORM's CARD OF 'keelsonlaw11.StoreBecomes'. -/
def storeBecomesUptoCard : Claim7 := { stood := { row := storeBecomesUptoRow, standIns := [], harness := (true, "f0a1e88a6c7b686a5bda3ea84ca11852565ecab838dfd464eb8ecfb800bc3bba"), looks := true }, kinds := [], alts := [], laidByText := true, laidKinds := [.data], laidTests := true, laidLooks := .later }
def StoreBecomesUptoCardSaid : Prop := Claim7.holds Tryz.pinned (.plain (OpenSpec.upto storeBecomesSpec)) storeBecomesUptoCard
end Rows
end Go.Proofs.YtpmojdippdlcaaaGreatDoor
