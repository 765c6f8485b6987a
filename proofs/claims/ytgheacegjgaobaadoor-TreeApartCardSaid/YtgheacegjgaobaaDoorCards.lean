/-
  DERIVED. GIVEN WITH THE SEED: THE CARDS: each row of YtgheacegjgaobaaDoorRows.lean that lists a variable, with what it lists TIED to the program's text (the seventh form; the later family's looks); each row that meets fmt, with fmt's text TOLD by the authors' own Lean function (tested against real Go, not proved from fmt's source: count such statements apart). THE CARD IS WHAT COUNTS. Prove the row's statement (the work); the ties are given (YtgheacegjgaobaaDoorTie.lean); close each card by the builder's one call (the guide's Derived/Test/ToyasCard.lean, 'card_holds'). Laid BY PROGRAM, IN A SANDBOX (cutbox-door.mjs). By AI agents, Wed Nov 11 2026. No macro, syntax, notation, axiom, sorry.
-/
import Derived.Test.YtgheacegjgaobaaDoorRows
import GoSem.ClaimSeven
namespace Go.Proofs.YtgheacegjgaobaaDoor
namespace Rows

/-- THE TIED CARD OF 'modillionlaw04.ManyOne'. -/
def manyOneCard : Claim7 := { stood := { row := manyOneRow, standIns := [], harness := (true, "641fa3e62a488e94762a74f3d937988950dd7107958a9d97ac82ebdef9bb4739"), looks := false }, kinds := [], alts := [], laidByText := true, laidKinds := [.data, .data], laidTests := true, laidLooks := .later }
def ManyOneCardSaid : Prop := Claim7.holds Tryd.pinned (.plain (OpenSpec.ofChange manyOneSpec)) manyOneCard

/-- THE TIED CARD OF 'modillionlaw04.ManyProves'. -/
def manyProvesCard : Claim7 := { stood := { row := manyProvesRow, standIns := [], harness := (true, "641fa3e62a488e94762a74f3d937988950dd7107958a9d97ac82ebdef9bb4739"), looks := false }, kinds := [], alts := [], laidByText := true, laidKinds := [.data, .data], laidTests := true, laidLooks := .later }
def ManyProvesCardSaid : Prop := Claim7.holds Tryd.pinned (.plain (OpenSpec.ofChange manyProvesSpec)) manyProvesCard

/-- THE TIED CARD OF 'modillionlaw04.ManyChecks'. -/
def manyChecksCard : Claim7 := { stood := { row := manyChecksRow, standIns := [], harness := (true, "641fa3e62a488e94762a74f3d937988950dd7107958a9d97ac82ebdef9bb4739"), looks := false }, kinds := [], alts := [], laidByText := true, laidKinds := [.data, .data], laidTests := true, laidLooks := .later }
def ManyChecksCardSaid : Prop := Claim7.holds Tryd.pinned (.plain (OpenSpec.ofChange manyChecksSpec)) manyChecksCard

/-- THE TIED CARD OF 'modillionlaw04.ManyTurned'. -/
def manyTurnedCard : Claim7 := { stood := { row := manyTurnedRow, standIns := [], harness := (true, "641fa3e62a488e94762a74f3d937988950dd7107958a9d97ac82ebdef9bb4739"), looks := false }, kinds := [], alts := [], laidByText := true, laidKinds := [.data, .data], laidTests := true, laidLooks := .later }
def ManyTurnedCardSaid : Prop := Claim7.holds Tryd.pinned (.plain (OpenSpec.ofChange manyTurnedSpec)) manyTurnedCard

/-- THE TIED CARD OF 'modillionlaw04.ManyAll'. -/
def manyAllCard : Claim7 := { stood := { row := manyAllRow, standIns := [], harness := (true, "641fa3e62a488e94762a74f3d937988950dd7107958a9d97ac82ebdef9bb4739"), looks := false }, kinds := [], alts := [], laidByText := true, laidKinds := [.data, .data], laidTests := true, laidLooks := .later }
def ManyAllCardSaid : Prop := Claim7.holds Tryd.pinned (.plain (OpenSpec.ofChange manyAllSpec)) manyAllCard

/-- THE TIED CARD OF 'modillionlaw04.ManyFewer'. -/
def manyFewerCard : Claim7 := { stood := { row := manyFewerRow, standIns := [], harness := (true, "641fa3e62a488e94762a74f3d937988950dd7107958a9d97ac82ebdef9bb4739"), looks := false }, kinds := [], alts := [], laidByText := true, laidKinds := [.data, .data], laidTests := true, laidLooks := .later }
def ManyFewerCardSaid : Prop := Claim7.holds Tryd.pinned (.plain (OpenSpec.ofChange manyFewerSpec)) manyFewerCard

/-- THE TIED CARD OF 'modillionlaw03.TreeApart'. -/
def treeApartCard : Claim7 := { stood := { row := treeApartRow, standIns := [], harness := (true, "641fa3e62a488e94762a74f3d937988950dd7107958a9d97ac82ebdef9bb4739"), looks := false }, kinds := [], alts := [], laidByText := true, laidKinds := [.data, .data], laidTests := true, laidLooks := .later }
def TreeApartCardSaid : Prop := Claim7.holds Tryd.pinned (.plain (OpenSpec.ofChange treeApartSpec)) treeApartCard

/-- THE SECOND FORM's CARD OF 'modillionlaw04.ManyOne'. -/
def manyOneUptoCard : Claim7 := { stood := { row := manyOneUptoRow, standIns := [], harness := (true, "641fa3e62a488e94762a74f3d937988950dd7107958a9d97ac82ebdef9bb4739"), looks := false }, kinds := [], alts := [], laidByText := true, laidKinds := [.data, .data], laidTests := true, laidLooks := .later }
def ManyOneUptoCardSaid : Prop := Claim7.holds Tryd.pinned (.plain (OpenSpec.upto manyOneSpec)) manyOneUptoCard

/-- THE SECOND FORM's CARD OF 'modillionlaw04.ManyProves'. -/
def manyProvesUptoCard : Claim7 := { stood := { row := manyProvesUptoRow, standIns := [], harness := (true, "641fa3e62a488e94762a74f3d937988950dd7107958a9d97ac82ebdef9bb4739"), looks := false }, kinds := [], alts := [], laidByText := true, laidKinds := [.data, .data], laidTests := true, laidLooks := .later }
def ManyProvesUptoCardSaid : Prop := Claim7.holds Tryd.pinned (.plain (OpenSpec.upto manyProvesSpec)) manyProvesUptoCard

/-- THE SECOND FORM's CARD OF 'modillionlaw04.ManyChecks'. -/
def manyChecksUptoCard : Claim7 := { stood := { row := manyChecksUptoRow, standIns := [], harness := (true, "641fa3e62a488e94762a74f3d937988950dd7107958a9d97ac82ebdef9bb4739"), looks := false }, kinds := [], alts := [], laidByText := true, laidKinds := [.data, .data], laidTests := true, laidLooks := .later }
def ManyChecksUptoCardSaid : Prop := Claim7.holds Tryd.pinned (.plain (OpenSpec.upto manyChecksSpec)) manyChecksUptoCard

/-- THE SECOND FORM's CARD OF 'modillionlaw04.ManyTurned'. -/
def manyTurnedUptoCard : Claim7 := { stood := { row := manyTurnedUptoRow, standIns := [], harness := (true, "641fa3e62a488e94762a74f3d937988950dd7107958a9d97ac82ebdef9bb4739"), looks := false }, kinds := [], alts := [], laidByText := true, laidKinds := [.data, .data], laidTests := true, laidLooks := .later }
def ManyTurnedUptoCardSaid : Prop := Claim7.holds Tryd.pinned (.plain (OpenSpec.upto manyTurnedSpec)) manyTurnedUptoCard

/-- THE SECOND FORM's CARD OF 'modillionlaw04.ManyAll'. -/
def manyAllUptoCard : Claim7 := { stood := { row := manyAllUptoRow, standIns := [], harness := (true, "641fa3e62a488e94762a74f3d937988950dd7107958a9d97ac82ebdef9bb4739"), looks := false }, kinds := [], alts := [], laidByText := true, laidKinds := [.data, .data], laidTests := true, laidLooks := .later }
def ManyAllUptoCardSaid : Prop := Claim7.holds Tryd.pinned (.plain (OpenSpec.upto manyAllSpec)) manyAllUptoCard

/-- THE SECOND FORM's CARD OF 'modillionlaw04.ManyFewer'. -/
def manyFewerUptoCard : Claim7 := { stood := { row := manyFewerUptoRow, standIns := [], harness := (true, "641fa3e62a488e94762a74f3d937988950dd7107958a9d97ac82ebdef9bb4739"), looks := false }, kinds := [], alts := [], laidByText := true, laidKinds := [.data, .data], laidTests := true, laidLooks := .later }
def ManyFewerUptoCardSaid : Prop := Claim7.holds Tryd.pinned (.plain (OpenSpec.upto manyFewerSpec)) manyFewerUptoCard

/-- THE SECOND FORM's CARD OF 'modillionlaw03.TreeApart'. -/
def treeApartUptoCard : Claim7 := { stood := { row := treeApartUptoRow, standIns := [], harness := (true, "641fa3e62a488e94762a74f3d937988950dd7107958a9d97ac82ebdef9bb4739"), looks := false }, kinds := [], alts := [], laidByText := true, laidKinds := [.data, .data], laidTests := true, laidLooks := .later }
def TreeApartUptoCardSaid : Prop := Claim7.holds Tryd.pinned (.plain (OpenSpec.upto treeApartSpec)) treeApartUptoCard
end Rows
end Go.Proofs.YtgheacegjgaobaaDoor
