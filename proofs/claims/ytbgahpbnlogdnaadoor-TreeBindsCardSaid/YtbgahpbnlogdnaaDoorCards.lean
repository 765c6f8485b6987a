/-
  DERIVED. GIVEN WITH THE SEED: THE CARDS: each row of YtbgahpbnlogdnaaDoorRows.lean that lists a variable, with what it lists TIED to the program's text (the seventh form; the later family's looks); each row that meets fmt, with fmt's text TOLD by the authors' own Lean function (tested against real Go, not proved from fmt's source: count such statements apart). THE CARD IS WHAT COUNTS. Prove the row's statement (the work); the ties are given (YtbgahpbnlogdnaaDoorTie.lean); close each card by the builder's one call (the guide's Derived/Test/ToyasCard.lean, 'card_holds'). Laid BY PROGRAM, IN A SANDBOX (cutbox-door.mjs). By AI agents, Wed Nov 11 2026. No macro, syntax, notation, axiom, sorry.
-/
import Derived.Test.YtbgahpbnlogdnaaDoorRows
import GoSem.ClaimSeven
namespace Go.Proofs.YtbgahpbnlogdnaaDoor
namespace Rows

/-- THE TIED CARD OF 'modillionlaw03.TreeRoots'. -/
def treeRootsCard : Claim7 := { stood := { row := treeRootsRow, standIns := [], harness := (true, "dbcd4805f5fc2df8faeb8c4937263375edbd36778920c03570fbd2d0ad577d6c"), looks := false }, kinds := [], alts := [], laidByText := true, laidKinds := [.data, .data], laidTests := true, laidLooks := .later }
def TreeRootsCardSaid : Prop := Claim7.holds Tryd.pinned (.plain (OpenSpec.ofChange treeRootsSpec)) treeRootsCard

/-- THE TIED CARD OF 'modillionlaw03.TreeParts'. -/
def treePartsCard : Claim7 := { stood := { row := treePartsRow, standIns := [], harness := (true, "dbcd4805f5fc2df8faeb8c4937263375edbd36778920c03570fbd2d0ad577d6c"), looks := false }, kinds := [], alts := [], laidByText := true, laidKinds := [.data, .data], laidTests := true, laidLooks := .later }
def TreePartsCardSaid : Prop := Claim7.holds Tryd.pinned (.plain (OpenSpec.ofChange treePartsSpec)) treePartsCard

/-- THE TIED CARD OF 'modillionlaw03.TreeProves'. -/
def treeProvesCard : Claim7 := { stood := { row := treeProvesRow, standIns := [], harness := (true, "dbcd4805f5fc2df8faeb8c4937263375edbd36778920c03570fbd2d0ad577d6c"), looks := false }, kinds := [], alts := [], laidByText := true, laidKinds := [.data, .data], laidTests := true, laidLooks := .later }
def TreeProvesCardSaid : Prop := Claim7.holds Tryd.pinned (.plain (OpenSpec.ofChange treeProvesSpec)) treeProvesCard

/-- THE TIED CARD OF 'modillionlaw03.TreeChecks'. -/
def treeChecksCard : Claim7 := { stood := { row := treeChecksRow, standIns := [], harness := (true, "dbcd4805f5fc2df8faeb8c4937263375edbd36778920c03570fbd2d0ad577d6c"), looks := false }, kinds := [], alts := [], laidByText := true, laidKinds := [.data, .data], laidTests := true, laidLooks := .later }
def TreeChecksCardSaid : Prop := Claim7.holds Tryd.pinned (.plain (OpenSpec.ofChange treeChecksSpec)) treeChecksCard

/-- THE TIED CARD OF 'modillionlaw03.TreeApart'. -/
def treeApartCard : Claim7 := { stood := { row := treeApartRow, standIns := [], harness := (true, "dbcd4805f5fc2df8faeb8c4937263375edbd36778920c03570fbd2d0ad577d6c"), looks := false }, kinds := [], alts := [], laidByText := true, laidKinds := [.data, .data], laidTests := true, laidLooks := .later }
def TreeApartCardSaid : Prop := Claim7.holds Tryd.pinned (.plain (OpenSpec.ofChange treeApartSpec)) treeApartCard

/-- THE TIED CARD OF 'modillionlaw03.TreeHalves'. -/
def treeHalvesCard : Claim7 := { stood := { row := treeHalvesRow, standIns := [], harness := (true, "dbcd4805f5fc2df8faeb8c4937263375edbd36778920c03570fbd2d0ad577d6c"), looks := false }, kinds := [], alts := [], laidByText := true, laidKinds := [.data, .data], laidTests := true, laidLooks := .later }
def TreeHalvesCardSaid : Prop := Claim7.holds Tryd.pinned (.plain (OpenSpec.ofChange treeHalvesSpec)) treeHalvesCard

/-- THE TIED CARD OF 'modillionlaw03.TreeBinds'. -/
def treeBindsCard : Claim7 := { stood := { row := treeBindsRow, standIns := [], harness := (true, "dbcd4805f5fc2df8faeb8c4937263375edbd36778920c03570fbd2d0ad577d6c"), looks := false }, kinds := [], alts := [], laidByText := true, laidKinds := [.data, .data], laidTests := true, laidLooks := .later }
def TreeBindsCardSaid : Prop := Claim7.holds Tryd.pinned (.plain (OpenSpec.ofChange treeBindsSpec)) treeBindsCard

/-- THE TIED CARD OF 'modillionlaw03.TreeTwo'. -/
def treeTwoCard : Claim7 := { stood := { row := treeTwoRow, standIns := [], harness := (true, "dbcd4805f5fc2df8faeb8c4937263375edbd36778920c03570fbd2d0ad577d6c"), looks := false }, kinds := [], alts := [], laidByText := true, laidKinds := [.data, .data], laidTests := true, laidLooks := .later }
def TreeTwoCardSaid : Prop := Claim7.holds Tryd.pinned (.plain (OpenSpec.ofChange treeTwoSpec)) treeTwoCard

/-- THE TIED CARD OF 'modillionlaw03.TreeDeeps'. -/
def treeDeepsCard : Claim7 := { stood := { row := treeDeepsRow, standIns := [], harness := (true, "dbcd4805f5fc2df8faeb8c4937263375edbd36778920c03570fbd2d0ad577d6c"), looks := false }, kinds := [], alts := [], laidByText := true, laidKinds := [.data, .data], laidTests := true, laidLooks := .later }
def TreeDeepsCardSaid : Prop := Claim7.holds Tryd.pinned (.plain (OpenSpec.ofChange treeDeepsSpec)) treeDeepsCard

/-- THE SECOND FORM's CARD OF 'modillionlaw03.TreeRoots'. -/
def treeRootsUptoCard : Claim7 := { stood := { row := treeRootsUptoRow, standIns := [], harness := (true, "dbcd4805f5fc2df8faeb8c4937263375edbd36778920c03570fbd2d0ad577d6c"), looks := false }, kinds := [], alts := [], laidByText := true, laidKinds := [.data, .data], laidTests := true, laidLooks := .later }
def TreeRootsUptoCardSaid : Prop := Claim7.holds Tryd.pinned (.plain (OpenSpec.upto treeRootsSpec)) treeRootsUptoCard

/-- THE SECOND FORM's CARD OF 'modillionlaw03.TreeParts'. -/
def treePartsUptoCard : Claim7 := { stood := { row := treePartsUptoRow, standIns := [], harness := (true, "dbcd4805f5fc2df8faeb8c4937263375edbd36778920c03570fbd2d0ad577d6c"), looks := false }, kinds := [], alts := [], laidByText := true, laidKinds := [.data, .data], laidTests := true, laidLooks := .later }
def TreePartsUptoCardSaid : Prop := Claim7.holds Tryd.pinned (.plain (OpenSpec.upto treePartsSpec)) treePartsUptoCard

/-- THE SECOND FORM's CARD OF 'modillionlaw03.TreeProves'. -/
def treeProvesUptoCard : Claim7 := { stood := { row := treeProvesUptoRow, standIns := [], harness := (true, "dbcd4805f5fc2df8faeb8c4937263375edbd36778920c03570fbd2d0ad577d6c"), looks := false }, kinds := [], alts := [], laidByText := true, laidKinds := [.data, .data], laidTests := true, laidLooks := .later }
def TreeProvesUptoCardSaid : Prop := Claim7.holds Tryd.pinned (.plain (OpenSpec.upto treeProvesSpec)) treeProvesUptoCard

/-- THE SECOND FORM's CARD OF 'modillionlaw03.TreeChecks'. -/
def treeChecksUptoCard : Claim7 := { stood := { row := treeChecksUptoRow, standIns := [], harness := (true, "dbcd4805f5fc2df8faeb8c4937263375edbd36778920c03570fbd2d0ad577d6c"), looks := false }, kinds := [], alts := [], laidByText := true, laidKinds := [.data, .data], laidTests := true, laidLooks := .later }
def TreeChecksUptoCardSaid : Prop := Claim7.holds Tryd.pinned (.plain (OpenSpec.upto treeChecksSpec)) treeChecksUptoCard

/-- THE SECOND FORM's CARD OF 'modillionlaw03.TreeApart'. -/
def treeApartUptoCard : Claim7 := { stood := { row := treeApartUptoRow, standIns := [], harness := (true, "dbcd4805f5fc2df8faeb8c4937263375edbd36778920c03570fbd2d0ad577d6c"), looks := false }, kinds := [], alts := [], laidByText := true, laidKinds := [.data, .data], laidTests := true, laidLooks := .later }
def TreeApartUptoCardSaid : Prop := Claim7.holds Tryd.pinned (.plain (OpenSpec.upto treeApartSpec)) treeApartUptoCard

/-- THE SECOND FORM's CARD OF 'modillionlaw03.TreeHalves'. -/
def treeHalvesUptoCard : Claim7 := { stood := { row := treeHalvesUptoRow, standIns := [], harness := (true, "dbcd4805f5fc2df8faeb8c4937263375edbd36778920c03570fbd2d0ad577d6c"), looks := false }, kinds := [], alts := [], laidByText := true, laidKinds := [.data, .data], laidTests := true, laidLooks := .later }
def TreeHalvesUptoCardSaid : Prop := Claim7.holds Tryd.pinned (.plain (OpenSpec.upto treeHalvesSpec)) treeHalvesUptoCard

/-- THE SECOND FORM's CARD OF 'modillionlaw03.TreeBinds'. -/
def treeBindsUptoCard : Claim7 := { stood := { row := treeBindsUptoRow, standIns := [], harness := (true, "dbcd4805f5fc2df8faeb8c4937263375edbd36778920c03570fbd2d0ad577d6c"), looks := false }, kinds := [], alts := [], laidByText := true, laidKinds := [.data, .data], laidTests := true, laidLooks := .later }
def TreeBindsUptoCardSaid : Prop := Claim7.holds Tryd.pinned (.plain (OpenSpec.upto treeBindsSpec)) treeBindsUptoCard

/-- THE SECOND FORM's CARD OF 'modillionlaw03.TreeTwo'. -/
def treeTwoUptoCard : Claim7 := { stood := { row := treeTwoUptoRow, standIns := [], harness := (true, "dbcd4805f5fc2df8faeb8c4937263375edbd36778920c03570fbd2d0ad577d6c"), looks := false }, kinds := [], alts := [], laidByText := true, laidKinds := [.data, .data], laidTests := true, laidLooks := .later }
def TreeTwoUptoCardSaid : Prop := Claim7.holds Tryd.pinned (.plain (OpenSpec.upto treeTwoSpec)) treeTwoUptoCard

/-- THE SECOND FORM's CARD OF 'modillionlaw03.TreeDeeps'. -/
def treeDeepsUptoCard : Claim7 := { stood := { row := treeDeepsUptoRow, standIns := [], harness := (true, "dbcd4805f5fc2df8faeb8c4937263375edbd36778920c03570fbd2d0ad577d6c"), looks := false }, kinds := [], alts := [], laidByText := true, laidKinds := [.data, .data], laidTests := true, laidLooks := .later }
def TreeDeepsUptoCardSaid : Prop := Claim7.holds Tryd.pinned (.plain (OpenSpec.upto treeDeepsSpec)) treeDeepsUptoCard
end Rows
end Go.Proofs.YtbgahpbnlogdnaaDoor
