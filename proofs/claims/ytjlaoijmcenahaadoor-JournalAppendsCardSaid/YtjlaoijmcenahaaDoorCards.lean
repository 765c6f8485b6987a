/-
  DERIVED. GIVEN WITH THE SEED: THE CARDS: each row of YtjlaoijmcenahaaDoorRows.lean that lists a variable, with what it lists TIED to the program's text (the seventh form; the later family's looks); each row that meets fmt, with fmt's text TOLD by the authors' own Lean function (tested against real Go, not proved from fmt's source: count such statements apart). THE CARD IS WHAT COUNTS. Prove the row's statement (the work); the ties are given (YtjlaoijmcenahaaDoorTie.lean); close each card by the builder's one call (the guide's Derived/Test/ToyasCard.lean, 'card_holds'). Laid BY PROGRAM, IN A SANDBOX (cutbox-door.mjs). By AI agents, Wed Nov 11 2026. No macro, syntax, notation, axiom, sorry.
-/
import Derived.Test.YtjlaoijmcenahaaDoorRows
import GoSem.ClaimSeven
namespace Go.Proofs.YtjlaoijmcenahaaDoor
namespace Rows

/-- THE TIED CARD OF 'modillionlaw16.JournalReads'. -/
def journalReadsCard : Claim7 := { stood := { row := journalReadsRow, standIns := [], harness := (true, "7d053c72ea7b35cdb682622b16c9ae1b3952c0786afbcdbaf0093813b8cf9dec"), looks := false }, kinds := [], alts := [], laidByText := true, laidKinds := [.data, .data], laidTests := true, laidLooks := .later }
def JournalReadsCardSaid : Prop := Claim7.holds Tryd.pinned (.plain (OpenSpec.ofChange journalReadsSpec)) journalReadsCard

/-- THE TIED CARD OF 'modillionlaw16.JournalAppends'. -/
def journalAppendsCard : Claim7 := { stood := { row := journalAppendsRow, standIns := [], harness := (true, "7d053c72ea7b35cdb682622b16c9ae1b3952c0786afbcdbaf0093813b8cf9dec"), looks := false }, kinds := [], alts := [], laidByText := true, laidKinds := [.data, .data], laidTests := true, laidLooks := .later }
def JournalAppendsCardSaid : Prop := Claim7.holds Tryd.pinned (.plain (OpenSpec.ofChange journalAppendsSpec)) journalAppendsCard

/-- THE TIED CARD OF 'modillionlaw16.JournalCuts'. -/
def journalCutsCard : Claim7 := { stood := { row := journalCutsRow, standIns := [], harness := (true, "7d053c72ea7b35cdb682622b16c9ae1b3952c0786afbcdbaf0093813b8cf9dec"), looks := false }, kinds := [], alts := [], laidByText := true, laidKinds := [.data, .data], laidTests := true, laidLooks := .later }
def JournalCutsCardSaid : Prop := Claim7.holds Tryd.pinned (.plain (OpenSpec.ofChange journalCutsSpec)) journalCutsCard

/-- THE TIED CARD OF 'modillionlaw16.JournalTorn'. -/
def journalTornCard : Claim7 := { stood := { row := journalTornRow, standIns := [], harness := (true, "7d053c72ea7b35cdb682622b16c9ae1b3952c0786afbcdbaf0093813b8cf9dec"), looks := false }, kinds := [], alts := [], laidByText := true, laidKinds := [.data, .data], laidTests := true, laidLooks := .later }
def JournalTornCardSaid : Prop := Claim7.holds Tryd.pinned (.plain (OpenSpec.ofChange journalTornSpec)) journalTornCard

/-- THE TIED CARD OF 'modillionlaw16.JournalLong'. -/
def journalLongCard : Claim7 := { stood := { row := journalLongRow, standIns := [], harness := (true, "7d053c72ea7b35cdb682622b16c9ae1b3952c0786afbcdbaf0093813b8cf9dec"), looks := false }, kinds := [], alts := [], laidByText := true, laidKinds := [.data, .data], laidTests := true, laidLooks := .later }
def JournalLongCardSaid : Prop := Claim7.holds Tryd.pinned (.plain (OpenSpec.ofChange journalLongSpec)) journalLongCard

/-- THE TIED CARD OF 'modillionlaw16.JournalJoins'. -/
def journalJoinsCard : Claim7 := { stood := { row := journalJoinsRow, standIns := [], harness := (true, "7d053c72ea7b35cdb682622b16c9ae1b3952c0786afbcdbaf0093813b8cf9dec"), looks := false }, kinds := [], alts := [], laidByText := true, laidKinds := [.data, .data], laidTests := true, laidLooks := .later }
def JournalJoinsCardSaid : Prop := Claim7.holds Tryd.pinned (.plain (OpenSpec.ofChange journalJoinsSpec)) journalJoinsCard

/-- THE TIED CARD OF 'modillionlaw16.JournalFirst'. -/
def journalFirstCard : Claim7 := { stood := { row := journalFirstRow, standIns := [], harness := (true, "7d053c72ea7b35cdb682622b16c9ae1b3952c0786afbcdbaf0093813b8cf9dec"), looks := false }, kinds := [], alts := [], laidByText := true, laidKinds := [.data, .data], laidTests := true, laidLooks := .later }
def JournalFirstCardSaid : Prop := Claim7.holds Tryd.pinned (.plain (OpenSpec.ofChange journalFirstSpec)) journalFirstCard

/-- THE TIED CARD OF 'modillionlaw16.JournalSums'. -/
def journalSumsCard : Claim7 := { stood := { row := journalSumsRow, standIns := [], harness := (true, "7d053c72ea7b35cdb682622b16c9ae1b3952c0786afbcdbaf0093813b8cf9dec"), looks := false }, kinds := [], alts := [], laidByText := true, laidKinds := [.data, .data], laidTests := true, laidLooks := .later }
def JournalSumsCardSaid : Prop := Claim7.holds Tryd.pinned (.plain (OpenSpec.ofChange journalSumsSpec)) journalSumsCard

/-- THE SECOND FORM's CARD OF 'modillionlaw16.JournalReads'. -/
def journalReadsUptoCard : Claim7 := { stood := { row := journalReadsUptoRow, standIns := [], harness := (true, "7d053c72ea7b35cdb682622b16c9ae1b3952c0786afbcdbaf0093813b8cf9dec"), looks := false }, kinds := [], alts := [], laidByText := true, laidKinds := [.data, .data], laidTests := true, laidLooks := .later }
def JournalReadsUptoCardSaid : Prop := Claim7.holds Tryd.pinned (.plain (OpenSpec.upto journalReadsSpec)) journalReadsUptoCard

/-- THE SECOND FORM's CARD OF 'modillionlaw16.JournalAppends'. -/
def journalAppendsUptoCard : Claim7 := { stood := { row := journalAppendsUptoRow, standIns := [], harness := (true, "7d053c72ea7b35cdb682622b16c9ae1b3952c0786afbcdbaf0093813b8cf9dec"), looks := false }, kinds := [], alts := [], laidByText := true, laidKinds := [.data, .data], laidTests := true, laidLooks := .later }
def JournalAppendsUptoCardSaid : Prop := Claim7.holds Tryd.pinned (.plain (OpenSpec.upto journalAppendsSpec)) journalAppendsUptoCard

/-- THE SECOND FORM's CARD OF 'modillionlaw16.JournalCuts'. -/
def journalCutsUptoCard : Claim7 := { stood := { row := journalCutsUptoRow, standIns := [], harness := (true, "7d053c72ea7b35cdb682622b16c9ae1b3952c0786afbcdbaf0093813b8cf9dec"), looks := false }, kinds := [], alts := [], laidByText := true, laidKinds := [.data, .data], laidTests := true, laidLooks := .later }
def JournalCutsUptoCardSaid : Prop := Claim7.holds Tryd.pinned (.plain (OpenSpec.upto journalCutsSpec)) journalCutsUptoCard

/-- THE SECOND FORM's CARD OF 'modillionlaw16.JournalTorn'. -/
def journalTornUptoCard : Claim7 := { stood := { row := journalTornUptoRow, standIns := [], harness := (true, "7d053c72ea7b35cdb682622b16c9ae1b3952c0786afbcdbaf0093813b8cf9dec"), looks := false }, kinds := [], alts := [], laidByText := true, laidKinds := [.data, .data], laidTests := true, laidLooks := .later }
def JournalTornUptoCardSaid : Prop := Claim7.holds Tryd.pinned (.plain (OpenSpec.upto journalTornSpec)) journalTornUptoCard

/-- THE SECOND FORM's CARD OF 'modillionlaw16.JournalLong'. -/
def journalLongUptoCard : Claim7 := { stood := { row := journalLongUptoRow, standIns := [], harness := (true, "7d053c72ea7b35cdb682622b16c9ae1b3952c0786afbcdbaf0093813b8cf9dec"), looks := false }, kinds := [], alts := [], laidByText := true, laidKinds := [.data, .data], laidTests := true, laidLooks := .later }
def JournalLongUptoCardSaid : Prop := Claim7.holds Tryd.pinned (.plain (OpenSpec.upto journalLongSpec)) journalLongUptoCard

/-- THE SECOND FORM's CARD OF 'modillionlaw16.JournalJoins'. -/
def journalJoinsUptoCard : Claim7 := { stood := { row := journalJoinsUptoRow, standIns := [], harness := (true, "7d053c72ea7b35cdb682622b16c9ae1b3952c0786afbcdbaf0093813b8cf9dec"), looks := false }, kinds := [], alts := [], laidByText := true, laidKinds := [.data, .data], laidTests := true, laidLooks := .later }
def JournalJoinsUptoCardSaid : Prop := Claim7.holds Tryd.pinned (.plain (OpenSpec.upto journalJoinsSpec)) journalJoinsUptoCard

/-- THE SECOND FORM's CARD OF 'modillionlaw16.JournalFirst'. -/
def journalFirstUptoCard : Claim7 := { stood := { row := journalFirstUptoRow, standIns := [], harness := (true, "7d053c72ea7b35cdb682622b16c9ae1b3952c0786afbcdbaf0093813b8cf9dec"), looks := false }, kinds := [], alts := [], laidByText := true, laidKinds := [.data, .data], laidTests := true, laidLooks := .later }
def JournalFirstUptoCardSaid : Prop := Claim7.holds Tryd.pinned (.plain (OpenSpec.upto journalFirstSpec)) journalFirstUptoCard

/-- THE SECOND FORM's CARD OF 'modillionlaw16.JournalSums'. -/
def journalSumsUptoCard : Claim7 := { stood := { row := journalSumsUptoRow, standIns := [], harness := (true, "7d053c72ea7b35cdb682622b16c9ae1b3952c0786afbcdbaf0093813b8cf9dec"), looks := false }, kinds := [], alts := [], laidByText := true, laidKinds := [.data, .data], laidTests := true, laidLooks := .later }
def JournalSumsUptoCardSaid : Prop := Claim7.holds Tryd.pinned (.plain (OpenSpec.upto journalSumsSpec)) journalSumsUptoCard
end Rows
end Go.Proofs.YtjlaoijmcenahaaDoor
