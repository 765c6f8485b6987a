/-
  DERIVED. GIVEN WITH THE SEED: THE CARDS: each row of YteljlnkjdajkgaaDoorRows.lean that lists a variable, with what it lists TIED to the program's text (the seventh form; the later family's looks); each row that meets fmt, with fmt's text TOLD by the authors' own Lean function (tested against real Go, not proved from fmt's source: count such statements apart). THE CARD IS WHAT COUNTS. Prove the row's statement (the work); the ties are given (YteljlnkjdajkgaaDoorTie.lean); close each card by the builder's one call (the guide's Derived/Test/ToyasCard.lean, 'card_holds'). Laid BY PROGRAM, IN A SANDBOX (cutbox-door.mjs). By AI agents, Wed Nov 11 2026. No macro, syntax, notation, axiom, sorry.
-/
import Derived.Test.YteljlnkjdajkgaaDoorRows
import GoSem.ClaimSeven
namespace Go.Proofs.YteljlnkjdajkgaaDoor
namespace Rows

/-- THE TIED CARD OF 'modillionlaw19.ClashRows'. -/
def clashRowsCard : Claim7 := { stood := { row := clashRowsRow, standIns := [], harness := (true, "ee9524b22670c582f556703c3c4d0508ac296417575f9bc6401f73b5c9c82057"), looks := false }, kinds := [], alts := [], laidByText := true, laidKinds := [.data, .data], laidTests := true, laidLooks := .later }
def ClashRowsCardSaid : Prop := Claim7.holds Tryd.pinned (.plain (OpenSpec.ofChange clashRowsSpec)) clashRowsCard

/-- THE TIED CARD OF 'modillionlaw19.ClashFinds'. -/
def clashFindsCard : Claim7 := { stood := { row := clashFindsRow, standIns := [], harness := (true, "ee9524b22670c582f556703c3c4d0508ac296417575f9bc6401f73b5c9c82057"), looks := false }, kinds := [], alts := [], laidByText := true, laidKinds := [.data, .data], laidTests := true, laidLooks := .later }
def ClashFindsCardSaid : Prop := Claim7.holds Tryd.pinned (.plain (OpenSpec.ofChange clashFindsSpec)) clashFindsCard

/-- THE TIED CARD OF 'modillionlaw19.ClashSame'. -/
def clashSameCard : Claim7 := { stood := { row := clashSameRow, standIns := [], harness := (true, "ee9524b22670c582f556703c3c4d0508ac296417575f9bc6401f73b5c9c82057"), looks := false }, kinds := [], alts := [], laidByText := true, laidKinds := [.data, .data], laidTests := true, laidLooks := .later }
def ClashSameCardSaid : Prop := Claim7.holds Tryd.pinned (.plain (OpenSpec.ofChange clashSameSpec)) clashSameCard

/-- THE TIED CARD OF 'modillionlaw19.ClashBinds'. -/
def clashBindsCard : Claim7 := { stood := { row := clashBindsRow, standIns := [], harness := (true, "ee9524b22670c582f556703c3c4d0508ac296417575f9bc6401f73b5c9c82057"), looks := false }, kinds := [], alts := [], laidByText := true, laidKinds := [.data, .data], laidTests := true, laidLooks := .later }
def ClashBindsCardSaid : Prop := Claim7.holds Tryd.pinned (.plain (OpenSpec.ofChange clashBindsSpec)) clashBindsCard

/-- THE TIED CARD OF 'modillionlaw19.ClashChain'. -/
def clashChainCard : Claim7 := { stood := { row := clashChainRow, standIns := [], harness := (true, "ee9524b22670c582f556703c3c4d0508ac296417575f9bc6401f73b5c9c82057"), looks := false }, kinds := [], alts := [], laidByText := true, laidKinds := [.data, .data], laidTests := true, laidLooks := .later }
def ClashChainCardSaid : Prop := Claim7.holds Tryd.pinned (.plain (OpenSpec.ofChange clashChainSpec)) clashChainCard

/-- THE TIED CARD OF 'modillionlaw19.ClashRoot'. -/
def clashRootCard : Claim7 := { stood := { row := clashRootRow, standIns := [], harness := (true, "ee9524b22670c582f556703c3c4d0508ac296417575f9bc6401f73b5c9c82057"), looks := false }, kinds := [], alts := [], laidByText := true, laidKinds := [.data, .data], laidTests := true, laidLooks := .later }
def ClashRootCardSaid : Prop := Claim7.holds Tryd.pinned (.plain (OpenSpec.ofChange clashRootSpec)) clashRootCard

/-- THE SECOND FORM's CARD OF 'modillionlaw19.ClashRows'. -/
def clashRowsUptoCard : Claim7 := { stood := { row := clashRowsUptoRow, standIns := [], harness := (true, "ee9524b22670c582f556703c3c4d0508ac296417575f9bc6401f73b5c9c82057"), looks := false }, kinds := [], alts := [], laidByText := true, laidKinds := [.data, .data], laidTests := true, laidLooks := .later }
def ClashRowsUptoCardSaid : Prop := Claim7.holds Tryd.pinned (.plain (OpenSpec.upto clashRowsSpec)) clashRowsUptoCard

/-- THE SECOND FORM's CARD OF 'modillionlaw19.ClashFinds'. -/
def clashFindsUptoCard : Claim7 := { stood := { row := clashFindsUptoRow, standIns := [], harness := (true, "ee9524b22670c582f556703c3c4d0508ac296417575f9bc6401f73b5c9c82057"), looks := false }, kinds := [], alts := [], laidByText := true, laidKinds := [.data, .data], laidTests := true, laidLooks := .later }
def ClashFindsUptoCardSaid : Prop := Claim7.holds Tryd.pinned (.plain (OpenSpec.upto clashFindsSpec)) clashFindsUptoCard

/-- THE SECOND FORM's CARD OF 'modillionlaw19.ClashSame'. -/
def clashSameUptoCard : Claim7 := { stood := { row := clashSameUptoRow, standIns := [], harness := (true, "ee9524b22670c582f556703c3c4d0508ac296417575f9bc6401f73b5c9c82057"), looks := false }, kinds := [], alts := [], laidByText := true, laidKinds := [.data, .data], laidTests := true, laidLooks := .later }
def ClashSameUptoCardSaid : Prop := Claim7.holds Tryd.pinned (.plain (OpenSpec.upto clashSameSpec)) clashSameUptoCard

/-- THE SECOND FORM's CARD OF 'modillionlaw19.ClashBinds'. -/
def clashBindsUptoCard : Claim7 := { stood := { row := clashBindsUptoRow, standIns := [], harness := (true, "ee9524b22670c582f556703c3c4d0508ac296417575f9bc6401f73b5c9c82057"), looks := false }, kinds := [], alts := [], laidByText := true, laidKinds := [.data, .data], laidTests := true, laidLooks := .later }
def ClashBindsUptoCardSaid : Prop := Claim7.holds Tryd.pinned (.plain (OpenSpec.upto clashBindsSpec)) clashBindsUptoCard

/-- THE SECOND FORM's CARD OF 'modillionlaw19.ClashChain'. -/
def clashChainUptoCard : Claim7 := { stood := { row := clashChainUptoRow, standIns := [], harness := (true, "ee9524b22670c582f556703c3c4d0508ac296417575f9bc6401f73b5c9c82057"), looks := false }, kinds := [], alts := [], laidByText := true, laidKinds := [.data, .data], laidTests := true, laidLooks := .later }
def ClashChainUptoCardSaid : Prop := Claim7.holds Tryd.pinned (.plain (OpenSpec.upto clashChainSpec)) clashChainUptoCard

/-- THE SECOND FORM's CARD OF 'modillionlaw19.ClashRoot'. -/
def clashRootUptoCard : Claim7 := { stood := { row := clashRootUptoRow, standIns := [], harness := (true, "ee9524b22670c582f556703c3c4d0508ac296417575f9bc6401f73b5c9c82057"), looks := false }, kinds := [], alts := [], laidByText := true, laidKinds := [.data, .data], laidTests := true, laidLooks := .later }
def ClashRootUptoCardSaid : Prop := Claim7.holds Tryd.pinned (.plain (OpenSpec.upto clashRootSpec)) clashRootUptoCard
end Rows
end Go.Proofs.YteljlnkjdajkgaaDoor
