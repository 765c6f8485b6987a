/-
  DERIVED. GIVEN WITH THE SEED: THE CARDS: each row of YtabkndpilnapfaaDoorRows.lean that lists a variable, with what it lists TIED to the program's text (the seventh form; the later family's looks); each row that meets fmt, with fmt's text TOLD by the authors' own Lean function (tested against real Go, not proved from fmt's source: count such statements apart). THE CARD IS WHAT COUNTS. Prove the row's statement (the work); the ties are given (YtabkndpilnapfaaDoorTie.lean); close each card by the builder's one call (the guide's Derived/Test/ToyasCard.lean, 'card_holds'). Laid BY PROGRAM, IN A SANDBOX (cutbox-door.mjs). By AI agents, Wed Nov 11 2026. No macro, syntax, notation, axiom, sorry.
-/
import Derived.Test.YtabkndpilnapfaaDoorRows
import GoSem.ClaimSeven
namespace Go.Proofs.YtabkndpilnapfaaDoor
namespace Rows

/-- THE TIED CARD OF 'modillionlaw01.HashOf'. -/
def hashOfCard : Claim7 := { stood := { row := hashOfRow, standIns := [], harness := (true, "e57c5903cf95046aab307fcfa2cc75745adf1ac55cc5301685dfb9cc57f81899"), looks := false }, kinds := [], alts := [], laidByText := true, laidKinds := [.data, .data], laidTests := true, laidLooks := .later }
def HashOfCardSaid : Prop := Claim7.holds Tryd.pinned (.plain (OpenSpec.ofChange hashOfSpec)) hashOfCard

/-- THE TIED CARD OF 'modillionlaw01.HashParts'. -/
def hashPartsCard : Claim7 := { stood := { row := hashPartsRow, standIns := [], harness := (true, "e57c5903cf95046aab307fcfa2cc75745adf1ac55cc5301685dfb9cc57f81899"), looks := false }, kinds := [], alts := [], laidByText := true, laidKinds := [.data, .data], laidTests := true, laidLooks := .later }
def HashPartsCardSaid : Prop := Claim7.holds Tryd.pinned (.plain (OpenSpec.ofChange hashPartsSpec)) hashPartsCard

/-- THE TIED CARD OF 'modillionlaw01.HashTexts'. -/
def hashTextsCard : Claim7 := { stood := { row := hashTextsRow, standIns := [], harness := (true, "e57c5903cf95046aab307fcfa2cc75745adf1ac55cc5301685dfb9cc57f81899"), looks := false }, kinds := [], alts := [], laidByText := true, laidKinds := [.data, .data], laidTests := true, laidLooks := .later }
def HashTextsCardSaid : Prop := Claim7.holds Tryd.pinned (.plain (OpenSpec.ofChange hashTextsSpec)) hashTextsCard

/-- THE TIED CARD OF 'modillionlaw01.HashReads'. -/
def hashReadsCard : Claim7 := { stood := { row := hashReadsRow, standIns := [], harness := (true, "e57c5903cf95046aab307fcfa2cc75745adf1ac55cc5301685dfb9cc57f81899"), looks := false }, kinds := [], alts := [], laidByText := true, laidKinds := [.data, .data], laidTests := true, laidLooks := .later }
def HashReadsCardSaid : Prop := Claim7.holds Tryd.pinned (.plain (OpenSpec.ofChange hashReadsSpec)) hashReadsCard

/-- THE TIED CARD OF 'modillionlaw01.HashOrder'. -/
def hashOrderCard : Claim7 := { stood := { row := hashOrderRow, standIns := [], harness := (true, "e57c5903cf95046aab307fcfa2cc75745adf1ac55cc5301685dfb9cc57f81899"), looks := false }, kinds := [], alts := [], laidByText := true, laidKinds := [.data, .data], laidTests := true, laidLooks := .later }
def HashOrderCardSaid : Prop := Claim7.holds Tryd.pinned (.plain (OpenSpec.ofChange hashOrderSpec)) hashOrderCard

/-- THE TIED CARD OF 'modillionlaw01.HashNone'. -/
def hashNoneCard : Claim7 := { stood := { row := hashNoneRow, standIns := [], harness := (true, "e57c5903cf95046aab307fcfa2cc75745adf1ac55cc5301685dfb9cc57f81899"), looks := false }, kinds := [], alts := [], laidByText := true, laidKinds := [.data, .data], laidTests := true, laidLooks := .later }
def HashNoneCardSaid : Prop := Claim7.holds Tryd.pinned (.plain (OpenSpec.ofChange hashNoneSpec)) hashNoneCard

/-- THE TIED CARD OF 'modillionlaw01.HashApart'. -/
def hashApartCard : Claim7 := { stood := { row := hashApartRow, standIns := [], harness := (true, "e57c5903cf95046aab307fcfa2cc75745adf1ac55cc5301685dfb9cc57f81899"), looks := false }, kinds := [], alts := [], laidByText := true, laidKinds := [.data, .data], laidTests := true, laidLooks := .later }
def HashApartCardSaid : Prop := Claim7.holds Tryd.pinned (.plain (OpenSpec.ofChange hashApartSpec)) hashApartCard

/-- THE TIED CARD OF 'modillionlaw01.HashBits'. -/
def hashBitsCard : Claim7 := { stood := { row := hashBitsRow, standIns := [], harness := (true, "e57c5903cf95046aab307fcfa2cc75745adf1ac55cc5301685dfb9cc57f81899"), looks := false }, kinds := [], alts := [], laidByText := true, laidKinds := [.data, .data], laidTests := true, laidLooks := .later }
def HashBitsCardSaid : Prop := Claim7.holds Tryd.pinned (.plain (OpenSpec.ofChange hashBitsSpec)) hashBitsCard

/-- THE SECOND FORM's CARD OF 'modillionlaw01.HashOf'. -/
def hashOfUptoCard : Claim7 := { stood := { row := hashOfUptoRow, standIns := [], harness := (true, "e57c5903cf95046aab307fcfa2cc75745adf1ac55cc5301685dfb9cc57f81899"), looks := false }, kinds := [], alts := [], laidByText := true, laidKinds := [.data, .data], laidTests := true, laidLooks := .later }
def HashOfUptoCardSaid : Prop := Claim7.holds Tryd.pinned (.plain (OpenSpec.upto hashOfSpec)) hashOfUptoCard

/-- THE SECOND FORM's CARD OF 'modillionlaw01.HashParts'. -/
def hashPartsUptoCard : Claim7 := { stood := { row := hashPartsUptoRow, standIns := [], harness := (true, "e57c5903cf95046aab307fcfa2cc75745adf1ac55cc5301685dfb9cc57f81899"), looks := false }, kinds := [], alts := [], laidByText := true, laidKinds := [.data, .data], laidTests := true, laidLooks := .later }
def HashPartsUptoCardSaid : Prop := Claim7.holds Tryd.pinned (.plain (OpenSpec.upto hashPartsSpec)) hashPartsUptoCard

/-- THE SECOND FORM's CARD OF 'modillionlaw01.HashTexts'. -/
def hashTextsUptoCard : Claim7 := { stood := { row := hashTextsUptoRow, standIns := [], harness := (true, "e57c5903cf95046aab307fcfa2cc75745adf1ac55cc5301685dfb9cc57f81899"), looks := false }, kinds := [], alts := [], laidByText := true, laidKinds := [.data, .data], laidTests := true, laidLooks := .later }
def HashTextsUptoCardSaid : Prop := Claim7.holds Tryd.pinned (.plain (OpenSpec.upto hashTextsSpec)) hashTextsUptoCard

/-- THE SECOND FORM's CARD OF 'modillionlaw01.HashReads'. -/
def hashReadsUptoCard : Claim7 := { stood := { row := hashReadsUptoRow, standIns := [], harness := (true, "e57c5903cf95046aab307fcfa2cc75745adf1ac55cc5301685dfb9cc57f81899"), looks := false }, kinds := [], alts := [], laidByText := true, laidKinds := [.data, .data], laidTests := true, laidLooks := .later }
def HashReadsUptoCardSaid : Prop := Claim7.holds Tryd.pinned (.plain (OpenSpec.upto hashReadsSpec)) hashReadsUptoCard

/-- THE SECOND FORM's CARD OF 'modillionlaw01.HashOrder'. -/
def hashOrderUptoCard : Claim7 := { stood := { row := hashOrderUptoRow, standIns := [], harness := (true, "e57c5903cf95046aab307fcfa2cc75745adf1ac55cc5301685dfb9cc57f81899"), looks := false }, kinds := [], alts := [], laidByText := true, laidKinds := [.data, .data], laidTests := true, laidLooks := .later }
def HashOrderUptoCardSaid : Prop := Claim7.holds Tryd.pinned (.plain (OpenSpec.upto hashOrderSpec)) hashOrderUptoCard

/-- THE SECOND FORM's CARD OF 'modillionlaw01.HashNone'. -/
def hashNoneUptoCard : Claim7 := { stood := { row := hashNoneUptoRow, standIns := [], harness := (true, "e57c5903cf95046aab307fcfa2cc75745adf1ac55cc5301685dfb9cc57f81899"), looks := false }, kinds := [], alts := [], laidByText := true, laidKinds := [.data, .data], laidTests := true, laidLooks := .later }
def HashNoneUptoCardSaid : Prop := Claim7.holds Tryd.pinned (.plain (OpenSpec.upto hashNoneSpec)) hashNoneUptoCard

/-- THE SECOND FORM's CARD OF 'modillionlaw01.HashApart'. -/
def hashApartUptoCard : Claim7 := { stood := { row := hashApartUptoRow, standIns := [], harness := (true, "e57c5903cf95046aab307fcfa2cc75745adf1ac55cc5301685dfb9cc57f81899"), looks := false }, kinds := [], alts := [], laidByText := true, laidKinds := [.data, .data], laidTests := true, laidLooks := .later }
def HashApartUptoCardSaid : Prop := Claim7.holds Tryd.pinned (.plain (OpenSpec.upto hashApartSpec)) hashApartUptoCard

/-- THE SECOND FORM's CARD OF 'modillionlaw01.HashBits'. -/
def hashBitsUptoCard : Claim7 := { stood := { row := hashBitsUptoRow, standIns := [], harness := (true, "e57c5903cf95046aab307fcfa2cc75745adf1ac55cc5301685dfb9cc57f81899"), looks := false }, kinds := [], alts := [], laidByText := true, laidKinds := [.data, .data], laidTests := true, laidLooks := .later }
def HashBitsUptoCardSaid : Prop := Claim7.holds Tryd.pinned (.plain (OpenSpec.upto hashBitsSpec)) hashBitsUptoCard
end Rows
end Go.Proofs.YtabkndpilnapfaaDoor
