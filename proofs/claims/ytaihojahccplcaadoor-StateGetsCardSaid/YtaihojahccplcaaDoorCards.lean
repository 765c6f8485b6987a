/-
  DERIVED. GIVEN WITH THE SEED: THE CARDS: each row of YtaihojahccplcaaDoorRows.lean that lists a variable, with what it lists TIED to the program's text (the seventh form; the later family's looks); each row that meets fmt, with fmt's text TOLD by the authors' own Lean function (tested against real Go, not proved from fmt's source: count such statements apart). THE CARD IS WHAT COUNTS. Prove the row's statement (the work); the ties are given (YtaihojahccplcaaDoorTie.lean); close each card by the builder's one call (the guide's Derived/Test/ToyasCard.lean, 'card_holds'). Laid BY PROGRAM, IN A SANDBOX (cutbox-door.mjs). By AI agents, Wed Nov 11 2026. No macro, syntax, notation, axiom, sorry.
-/
import Derived.Test.YtaihojahccplcaaDoorRows
import GoSem.ClaimSeven
namespace Go.Proofs.YtaihojahccplcaaDoor
namespace Rows

/-- THE TIED CARD OF 'modillionlaw10.StateRoots'. -/
def stateRootsCard : Claim7 := { stood := { row := stateRootsRow, standIns := [], harness := (true, "472d1ae746ff0a1f677f4eed4d2d62ab4f033baad24a328b1b796a83f4e34b2c"), looks := false }, kinds := [], alts := [], laidByText := true, laidKinds := [.data, .data], laidTests := true, laidLooks := .later }
def StateRootsCardSaid : Prop := Claim7.holds Tryd.pinned (.plain (OpenSpec.ofChange stateRootsSpec)) stateRootsCard

/-- THE TIED CARD OF 'modillionlaw10.StatePuts'. -/
def statePutsCard : Claim7 := { stood := { row := statePutsRow, standIns := [], harness := (true, "472d1ae746ff0a1f677f4eed4d2d62ab4f033baad24a328b1b796a83f4e34b2c"), looks := false }, kinds := [], alts := [], laidByText := true, laidKinds := [.data, .data], laidTests := true, laidLooks := .later }
def StatePutsCardSaid : Prop := Claim7.holds Tryd.pinned (.plain (OpenSpec.ofChange statePutsSpec)) statePutsCard

/-- THE TIED CARD OF 'modillionlaw10.StateGets'. -/
def stateGetsCard : Claim7 := { stood := { row := stateGetsRow, standIns := [], harness := (true, "472d1ae746ff0a1f677f4eed4d2d62ab4f033baad24a328b1b796a83f4e34b2c"), looks := false }, kinds := [], alts := [], laidByText := true, laidKinds := [.data, .data], laidTests := true, laidLooks := .later }
def StateGetsCardSaid : Prop := Claim7.holds Tryd.pinned (.plain (OpenSpec.ofChange stateGetsSpec)) stateGetsCard

/-- THE TIED CARD OF 'modillionlaw10.StateApart'. -/
def stateApartCard : Claim7 := { stood := { row := stateApartRow, standIns := [], harness := (true, "472d1ae746ff0a1f677f4eed4d2d62ab4f033baad24a328b1b796a83f4e34b2c"), looks := false }, kinds := [], alts := [], laidByText := true, laidKinds := [.data, .data], laidTests := true, laidLooks := .later }
def StateApartCardSaid : Prop := Claim7.holds Tryd.pinned (.plain (OpenSpec.ofChange stateApartSpec)) stateApartCard

/-- THE TIED CARD OF 'modillionlaw10.StateSplits'. -/
def stateSplitsCard : Claim7 := { stood := { row := stateSplitsRow, standIns := [], harness := (true, "472d1ae746ff0a1f677f4eed4d2d62ab4f033baad24a328b1b796a83f4e34b2c"), looks := false }, kinds := [], alts := [], laidByText := true, laidKinds := [.data, .data], laidTests := true, laidLooks := .later }
def StateSplitsCardSaid : Prop := Claim7.holds Tryd.pinned (.plain (OpenSpec.ofChange stateSplitsSpec)) stateSplitsCard

/-- THE TIED CARD OF 'modillionlaw10.StateSizes'. -/
def stateSizesCard : Claim7 := { stood := { row := stateSizesRow, standIns := [], harness := (true, "472d1ae746ff0a1f677f4eed4d2d62ab4f033baad24a328b1b796a83f4e34b2c"), looks := false }, kinds := [], alts := [], laidByText := true, laidKinds := [.data, .data], laidTests := true, laidLooks := .later }
def StateSizesCardSaid : Prop := Claim7.holds Tryd.pinned (.plain (OpenSpec.ofChange stateSizesSpec)) stateSizesCard

/-- THE SECOND FORM's CARD OF 'modillionlaw10.StateRoots'. -/
def stateRootsUptoCard : Claim7 := { stood := { row := stateRootsUptoRow, standIns := [], harness := (true, "472d1ae746ff0a1f677f4eed4d2d62ab4f033baad24a328b1b796a83f4e34b2c"), looks := false }, kinds := [], alts := [], laidByText := true, laidKinds := [.data, .data], laidTests := true, laidLooks := .later }
def StateRootsUptoCardSaid : Prop := Claim7.holds Tryd.pinned (.plain (OpenSpec.upto stateRootsSpec)) stateRootsUptoCard

/-- THE SECOND FORM's CARD OF 'modillionlaw10.StatePuts'. -/
def statePutsUptoCard : Claim7 := { stood := { row := statePutsUptoRow, standIns := [], harness := (true, "472d1ae746ff0a1f677f4eed4d2d62ab4f033baad24a328b1b796a83f4e34b2c"), looks := false }, kinds := [], alts := [], laidByText := true, laidKinds := [.data, .data], laidTests := true, laidLooks := .later }
def StatePutsUptoCardSaid : Prop := Claim7.holds Tryd.pinned (.plain (OpenSpec.upto statePutsSpec)) statePutsUptoCard

/-- THE SECOND FORM's CARD OF 'modillionlaw10.StateGets'. -/
def stateGetsUptoCard : Claim7 := { stood := { row := stateGetsUptoRow, standIns := [], harness := (true, "472d1ae746ff0a1f677f4eed4d2d62ab4f033baad24a328b1b796a83f4e34b2c"), looks := false }, kinds := [], alts := [], laidByText := true, laidKinds := [.data, .data], laidTests := true, laidLooks := .later }
def StateGetsUptoCardSaid : Prop := Claim7.holds Tryd.pinned (.plain (OpenSpec.upto stateGetsSpec)) stateGetsUptoCard

/-- THE SECOND FORM's CARD OF 'modillionlaw10.StateApart'. -/
def stateApartUptoCard : Claim7 := { stood := { row := stateApartUptoRow, standIns := [], harness := (true, "472d1ae746ff0a1f677f4eed4d2d62ab4f033baad24a328b1b796a83f4e34b2c"), looks := false }, kinds := [], alts := [], laidByText := true, laidKinds := [.data, .data], laidTests := true, laidLooks := .later }
def StateApartUptoCardSaid : Prop := Claim7.holds Tryd.pinned (.plain (OpenSpec.upto stateApartSpec)) stateApartUptoCard

/-- THE SECOND FORM's CARD OF 'modillionlaw10.StateSplits'. -/
def stateSplitsUptoCard : Claim7 := { stood := { row := stateSplitsUptoRow, standIns := [], harness := (true, "472d1ae746ff0a1f677f4eed4d2d62ab4f033baad24a328b1b796a83f4e34b2c"), looks := false }, kinds := [], alts := [], laidByText := true, laidKinds := [.data, .data], laidTests := true, laidLooks := .later }
def StateSplitsUptoCardSaid : Prop := Claim7.holds Tryd.pinned (.plain (OpenSpec.upto stateSplitsSpec)) stateSplitsUptoCard

/-- THE SECOND FORM's CARD OF 'modillionlaw10.StateSizes'. -/
def stateSizesUptoCard : Claim7 := { stood := { row := stateSizesUptoRow, standIns := [], harness := (true, "472d1ae746ff0a1f677f4eed4d2d62ab4f033baad24a328b1b796a83f4e34b2c"), looks := false }, kinds := [], alts := [], laidByText := true, laidKinds := [.data, .data], laidTests := true, laidLooks := .later }
def StateSizesUptoCardSaid : Prop := Claim7.holds Tryd.pinned (.plain (OpenSpec.upto stateSizesSpec)) stateSizesUptoCard
end Rows
end Go.Proofs.YtaihojahccplcaaDoor
