/-
  NARROWER THAN 'FOR EVERY INPUT', by the rows' own cells (each row's printed sentence says how): ManyOne: laid · ManyProves: laid · ManyChecks: laid · ManyTurned: laid · ManyAll: laid · ManyFewer: laid · TreeApart: laid.
  DERIVED. THE GIVEN ROWS OF THIS SEAT. 7 by the template 'for every input the law returns true; each argument reads behind the call as it read before'; 0 by the template 'total and deterministic' (their statements: YtgheacegjgaobaaDoorTotals.lean).
  GIVEN WITH THE SEED: the statements are not yours to turn. If you find one false, say at which input.
  Laid BY PROGRAM, IN A SANDBOX (cutbox-rows.mjs): the forced cells as the released guide's own fill.sh prints them over the translation 3ed8ce3cff911acd… (all of the seat's roots in one cut). By AI agents, Wed Nov 11 2026. No macro, syntax, notation, axiom, sorry.
-/
import Derived.Test.YtgheacegjgaobaaDoorChecked
import GoSem.Claim
import GoSem.ClaimJoined
import GoSem.ClaimMapViews
import Derived.JoinedTies
import Derived.KernelRfl
namespace Go.Proofs.YtgheacegjgaobaaDoor
/- THE CELL 'sum', in the pinned program and in every row, IS THE sha256 OF THE DUMP (.gsa) THAT YtgheacegjgaobaaDoorProg.lean LOADS. Nothing in Lean hashes anything: it is a label: what it is worth is what the hold of that sum in a sandbox is worth. -/
noncomputable def Tryd.pinned : Pinned := { name := "ytgheacegjgaobaadoor", sum := "3ed8ce3cff911acd0c3342442715aa601265c8881443e3fa80fe4e8b1922c3fa", checked := Tryd.checked }
namespace Rows
def none {H : Type} : Left H := { results := [], args := [] }

/- WHAT THE LISTED PACKAGE-LEVEL VARIABLES READ AS WHEN THE CALL BEGINS. Each datum BY PROGRAM (the guide's laid-datum.mjs) off the statement by which the dump's own 'gosem.cut.vars' lays the variable. In a bare row this is a premise. The card (YtgheacegjgaobaaDoorCards.lean) ties it to the program's text. -/
def laid_modillion_hash_constants {H : Type} : DataW H := .agg [.lit (.int .u32 1116352408), .lit (.int .u32 1899447441), .lit (.int .u32 3049323471), .lit (.int .u32 3921009573), .lit (.int .u32 961987163), .lit (.int .u32 1508970993), .lit (.int .u32 2453635748), .lit (.int .u32 2870763221), .lit (.int .u32 3624381080), .lit (.int .u32 310598401), .lit (.int .u32 607225278), .lit (.int .u32 1426881987), .lit (.int .u32 1925078388), .lit (.int .u32 2162078206), .lit (.int .u32 2614888103), .lit (.int .u32 3248222580), .lit (.int .u32 3835390401), .lit (.int .u32 4022224774), .lit (.int .u32 264347078), .lit (.int .u32 604807628), .lit (.int .u32 770255983), .lit (.int .u32 1249150122), .lit (.int .u32 1555081692), .lit (.int .u32 1996064986), .lit (.int .u32 2554220882), .lit (.int .u32 2821834349), .lit (.int .u32 2952996808), .lit (.int .u32 3210313671), .lit (.int .u32 3336571891), .lit (.int .u32 3584528711), .lit (.int .u32 113926993), .lit (.int .u32 338241895), .lit (.int .u32 666307205), .lit (.int .u32 773529912), .lit (.int .u32 1294757372), .lit (.int .u32 1396182291), .lit (.int .u32 1695183700), .lit (.int .u32 1986661051), .lit (.int .u32 2177026350), .lit (.int .u32 2456956037), .lit (.int .u32 2730485921), .lit (.int .u32 2820302411), .lit (.int .u32 3259730800), .lit (.int .u32 3345764771), .lit (.int .u32 3516065817), .lit (.int .u32 3600352804), .lit (.int .u32 4094571909), .lit (.int .u32 275423344), .lit (.int .u32 430227734), .lit (.int .u32 506948616), .lit (.int .u32 659060556), .lit (.int .u32 883997877), .lit (.int .u32 958139571), .lit (.int .u32 1322822218), .lit (.int .u32 1537002063), .lit (.int .u32 1747873779), .lit (.int .u32 1955562222), .lit (.int .u32 2024104815), .lit (.int .u32 2227730452), .lit (.int .u32 2361852424), .lit (.int .u32 2428436474), .lit (.int .u32 2756734187), .lit (.int .u32 3204031479), .lit (.int .u32 3329325298)]
def laid_modillion_hash_start {H : Type} : DataW H := .agg [.lit (.int .u32 1779033703), .lit (.int .u32 3144134277), .lit (.int .u32 1013904242), .lit (.int .u32 2773480762), .lit (.int .u32 1359893119), .lit (.int .u32 2600822924), .lit (.int .u32 528734635), .lit (.int .u32 1541459225)]

/-- 'modillionlaw04.ManyOne': WHATEVER THE INPUT: true; the input reads as it did. -/
def manyOneSpec : ChangeSpec := { name := "manyOne", fn := fun _ => fun
  | [d1, d2, d3, d4] => { results := [.lit (.bool true)], args := [d1, d2, d3, d4] }
  | _ => none }
def manyOneRow : OpenClaim := { program := "ytgheacegjgaobaadoor", sum := "3ed8ce3cff911acd0c3342442715aa601265c8881443e3fa80fe4e8b1922c3fa", func := "modillion/modillionlaw04.ManyOne", spec := "manyOne", inPlace := ["internal/bytealg.MakeNoZero"], unfollowed := true, recurses := true, named := ["modillion/hash.start", "modillion/hash.constants"], apart := false, laid := [("modillion/hash.constants", laid_modillion_hash_constants), ("modillion/hash.start", laid_modillion_hash_start)] }
def ManyOneSaid : Prop := manyOneRow.holds Tryd.pinned (OpenSpec.ofChange manyOneSpec)

/-- ITS FALSE NEIGHBOUR: 'it returns false'. Refute it at one input. -/
def manyOneWrong : ChangeSpec := { name := "manyOne", fn := fun _ => fun
  | [d1, d2, d3, d4] => { results := [.lit (.bool false)], args := [d1, d2, d3, d4] }
  | _ => none }
def ManyOneWrongFalsely : Prop := manyOneRow.holds Tryd.pinned (OpenSpec.ofChange manyOneWrong)

/-- 'modillionlaw04.ManyProves': WHATEVER THE INPUT: true; the input reads as it did. -/
def manyProvesSpec : ChangeSpec := { name := "manyProves", fn := fun _ => fun
  | [d1, d2] => { results := [.lit (.bool true)], args := [d1, d2] }
  | _ => none }
def manyProvesRow : OpenClaim := { program := "ytgheacegjgaobaadoor", sum := "3ed8ce3cff911acd0c3342442715aa601265c8881443e3fa80fe4e8b1922c3fa", func := "modillion/modillionlaw04.ManyProves", spec := "manyProves", inPlace := ["internal/bytealg.MakeNoZero"], unfollowed := true, recurses := true, named := ["modillion/hash.start", "modillion/hash.constants"], apart := false, laid := [("modillion/hash.constants", laid_modillion_hash_constants), ("modillion/hash.start", laid_modillion_hash_start)] }
def ManyProvesSaid : Prop := manyProvesRow.holds Tryd.pinned (OpenSpec.ofChange manyProvesSpec)

/-- ITS FALSE NEIGHBOUR: 'it returns false'. Refute it at one input. -/
def manyProvesWrong : ChangeSpec := { name := "manyProves", fn := fun _ => fun
  | [d1, d2] => { results := [.lit (.bool false)], args := [d1, d2] }
  | _ => none }
def ManyProvesWrongFalsely : Prop := manyProvesRow.holds Tryd.pinned (OpenSpec.ofChange manyProvesWrong)

/-- 'modillionlaw04.ManyChecks': WHATEVER THE INPUT: true; the input reads as it did. -/
def manyChecksSpec : ChangeSpec := { name := "manyChecks", fn := fun _ => fun
  | [d1, d2, d3, d4, d5] => { results := [.lit (.bool true)], args := [d1, d2, d3, d4, d5] }
  | _ => none }
def manyChecksRow : OpenClaim := { program := "ytgheacegjgaobaadoor", sum := "3ed8ce3cff911acd0c3342442715aa601265c8881443e3fa80fe4e8b1922c3fa", func := "modillion/modillionlaw04.ManyChecks", spec := "manyChecks", inPlace := ["internal/bytealg.MakeNoZero"], unfollowed := true, recurses := true, named := ["modillion/hash.start", "modillion/hash.constants"], apart := false, laid := [("modillion/hash.constants", laid_modillion_hash_constants), ("modillion/hash.start", laid_modillion_hash_start)] }
def ManyChecksSaid : Prop := manyChecksRow.holds Tryd.pinned (OpenSpec.ofChange manyChecksSpec)

/-- ITS FALSE NEIGHBOUR: 'it returns false'. Refute it at one input. -/
def manyChecksWrong : ChangeSpec := { name := "manyChecks", fn := fun _ => fun
  | [d1, d2, d3, d4, d5] => { results := [.lit (.bool false)], args := [d1, d2, d3, d4, d5] }
  | _ => none }
def ManyChecksWrongFalsely : Prop := manyChecksRow.holds Tryd.pinned (OpenSpec.ofChange manyChecksWrong)

/-- 'modillionlaw04.ManyTurned': WHATEVER THE INPUT: true; the input reads as it did. -/
def manyTurnedSpec : ChangeSpec := { name := "manyTurned", fn := fun _ => fun
  | [d1, d2, d3, d4] => { results := [.lit (.bool true)], args := [d1, d2, d3, d4] }
  | _ => none }
def manyTurnedRow : OpenClaim := { program := "ytgheacegjgaobaadoor", sum := "3ed8ce3cff911acd0c3342442715aa601265c8881443e3fa80fe4e8b1922c3fa", func := "modillion/modillionlaw04.ManyTurned", spec := "manyTurned", inPlace := ["internal/bytealg.MakeNoZero"], unfollowed := true, recurses := true, named := ["modillion/hash.start", "modillion/hash.constants"], apart := false, laid := [("modillion/hash.constants", laid_modillion_hash_constants), ("modillion/hash.start", laid_modillion_hash_start)] }
def ManyTurnedSaid : Prop := manyTurnedRow.holds Tryd.pinned (OpenSpec.ofChange manyTurnedSpec)

/-- ITS FALSE NEIGHBOUR: 'it returns false'. Refute it at one input. -/
def manyTurnedWrong : ChangeSpec := { name := "manyTurned", fn := fun _ => fun
  | [d1, d2, d3, d4] => { results := [.lit (.bool false)], args := [d1, d2, d3, d4] }
  | _ => none }
def ManyTurnedWrongFalsely : Prop := manyTurnedRow.holds Tryd.pinned (OpenSpec.ofChange manyTurnedWrong)

/-- 'modillionlaw04.ManyAll': WHATEVER THE INPUT: true; the input reads as it did. -/
def manyAllSpec : ChangeSpec := { name := "manyAll", fn := fun _ => fun
  | [d] => { results := [.lit (.bool true)], args := [d] }
  | _ => none }
def manyAllRow : OpenClaim := { program := "ytgheacegjgaobaadoor", sum := "3ed8ce3cff911acd0c3342442715aa601265c8881443e3fa80fe4e8b1922c3fa", func := "modillion/modillionlaw04.ManyAll", spec := "manyAll", inPlace := ["internal/bytealg.MakeNoZero"], unfollowed := true, recurses := true, named := ["modillion/hash.start", "modillion/hash.constants"], apart := false, laid := [("modillion/hash.constants", laid_modillion_hash_constants), ("modillion/hash.start", laid_modillion_hash_start)] }
def ManyAllSaid : Prop := manyAllRow.holds Tryd.pinned (OpenSpec.ofChange manyAllSpec)

/-- ITS FALSE NEIGHBOUR: 'it returns false'. Refute it at one input. -/
def manyAllWrong : ChangeSpec := { name := "manyAll", fn := fun _ => fun
  | [d] => { results := [.lit (.bool false)], args := [d] }
  | _ => none }
def ManyAllWrongFalsely : Prop := manyAllRow.holds Tryd.pinned (OpenSpec.ofChange manyAllWrong)

/-- 'modillionlaw04.ManyFewer': WHATEVER THE INPUT: true; the input reads as it did. -/
def manyFewerSpec : ChangeSpec := { name := "manyFewer", fn := fun _ => fun
  | [d1, d2] => { results := [.lit (.bool true)], args := [d1, d2] }
  | _ => none }
def manyFewerRow : OpenClaim := { program := "ytgheacegjgaobaadoor", sum := "3ed8ce3cff911acd0c3342442715aa601265c8881443e3fa80fe4e8b1922c3fa", func := "modillion/modillionlaw04.ManyFewer", spec := "manyFewer", inPlace := ["internal/bytealg.MakeNoZero"], unfollowed := true, recurses := true, named := ["modillion/hash.start", "modillion/hash.constants"], apart := false, laid := [("modillion/hash.constants", laid_modillion_hash_constants), ("modillion/hash.start", laid_modillion_hash_start)] }
def ManyFewerSaid : Prop := manyFewerRow.holds Tryd.pinned (OpenSpec.ofChange manyFewerSpec)

/-- ITS FALSE NEIGHBOUR: 'it returns false'. Refute it at one input. -/
def manyFewerWrong : ChangeSpec := { name := "manyFewer", fn := fun _ => fun
  | [d1, d2] => { results := [.lit (.bool false)], args := [d1, d2] }
  | _ => none }
def ManyFewerWrongFalsely : Prop := manyFewerRow.holds Tryd.pinned (OpenSpec.ofChange manyFewerWrong)

/-- 'modillionlaw03.TreeApart': WHATEVER THE INPUT: true; the input reads as it did. -/
def treeApartSpec : ChangeSpec := { name := "treeApart", fn := fun _ => fun
  | [d1, d2, d3, d4] => { results := [.lit (.bool true)], args := [d1, d2, d3, d4] }
  | _ => none }
def treeApartRow : OpenClaim := { program := "ytgheacegjgaobaadoor", sum := "3ed8ce3cff911acd0c3342442715aa601265c8881443e3fa80fe4e8b1922c3fa", func := "modillion/modillionlaw03.TreeApart", spec := "treeApart", inPlace := ["internal/bytealg.MakeNoZero"], unfollowed := true, recurses := true, named := ["modillion/hash.start", "modillion/hash.constants"], apart := false, laid := [("modillion/hash.constants", laid_modillion_hash_constants), ("modillion/hash.start", laid_modillion_hash_start)] }
def TreeApartSaid : Prop := treeApartRow.holds Tryd.pinned (OpenSpec.ofChange treeApartSpec)

/-- ITS FALSE NEIGHBOUR: 'it returns false'. Refute it at one input. -/
def treeApartWrong : ChangeSpec := { name := "treeApart", fn := fun _ => fun
  | [d1, d2, d3, d4] => { results := [.lit (.bool false)], args := [d1, d2, d3, d4] }
  | _ => none }
def TreeApartWrongFalsely : Prop := treeApartRow.holds Tryd.pinned (OpenSpec.ofChange treeApartWrong)

/- THE SECOND FORM. 'bulk': how many values and letters a reading holds, each counted each time it is reached (what is shared counts as often as it is met; a slice's spare places count too). A statement '..UptoSaid' is the law's where the arguments, and the package variables that the reading takes, are together of bulk at most 1048576: NARROWER than '..Said'. Prove '..Said' where nothing that the law and all that it calls make is longer than what came in: it says more and counts as full. Else prove '..UptoSaid'. A law counts once. -/
mutual
def uptoBulk {H : Type} : DataW H → Nat
  | .lit (.string bytes) => bytes.length + 1
  | .lit _ => 1
  | .nil => 1
  | .ptr d => uptoBulk d + 1
  | .slice elems spare => uptoBulkAll elems + uptoBulkAll spare + 1
  | .agg parts => uptoBulkAll parts + 1
  | .iface _ d => uptoBulk d + 1
  | .map entries => uptoBulkEntries entries + 1
  | .held _ => 1
def uptoBulkAll {H : Type} : List (DataW H) → Nat
  | [] => 0
  | d :: r => uptoBulk d + uptoBulkAll r
def uptoBulkEntries {H : Type} : List (Lit × DataW H) → Nat
  | [] => 0
  | x :: r => uptoBulkEntry x + uptoBulkEntries r
def uptoBulkEntry {H : Type} : Lit × DataW H → Nat
  | (.string bytes, d) => bytes.length + uptoBulk d + 1
  | (_, d) => uptoBulk d + 1
 end
def uptoSmall : (H : Type) → List (DataW H) → Bool := fun _ ds => decide (uptoBulkAll ds ≤ 1048576)
def OpenSpec.upto (s : _root_.Go.ChangeSpec) : _root_.Go.OpenSpec := { _root_.Go.OpenSpec.ofChange s with cond := some uptoSmall }

/-- 'modillionlaw04.ManyOne', WHERE WHAT IT READS IS OF BULK AT MOST 1048576: true; the input reads as it did. -/
def manyOneUptoRow : OpenClaim := { program := "ytgheacegjgaobaadoor", sum := "3ed8ce3cff911acd0c3342442715aa601265c8881443e3fa80fe4e8b1922c3fa", func := "modillion/modillionlaw04.ManyOne", spec := "manyOne", inPlace := ["internal/bytealg.MakeNoZero"], unfollowed := true, recurses := true, named := ["modillion/hash.start", "modillion/hash.constants"], apart := false, laid := [("modillion/hash.constants", laid_modillion_hash_constants), ("modillion/hash.start", laid_modillion_hash_start)], narrowed := true }
def ManyOneUptoSaid : Prop := manyOneUptoRow.holds Tryd.pinned (OpenSpec.upto manyOneSpec)

/-- 'modillionlaw04.ManyProves', WHERE WHAT IT READS IS OF BULK AT MOST 1048576: true; the input reads as it did. -/
def manyProvesUptoRow : OpenClaim := { program := "ytgheacegjgaobaadoor", sum := "3ed8ce3cff911acd0c3342442715aa601265c8881443e3fa80fe4e8b1922c3fa", func := "modillion/modillionlaw04.ManyProves", spec := "manyProves", inPlace := ["internal/bytealg.MakeNoZero"], unfollowed := true, recurses := true, named := ["modillion/hash.start", "modillion/hash.constants"], apart := false, laid := [("modillion/hash.constants", laid_modillion_hash_constants), ("modillion/hash.start", laid_modillion_hash_start)], narrowed := true }
def ManyProvesUptoSaid : Prop := manyProvesUptoRow.holds Tryd.pinned (OpenSpec.upto manyProvesSpec)

/-- 'modillionlaw04.ManyChecks', WHERE WHAT IT READS IS OF BULK AT MOST 1048576: true; the input reads as it did. -/
def manyChecksUptoRow : OpenClaim := { program := "ytgheacegjgaobaadoor", sum := "3ed8ce3cff911acd0c3342442715aa601265c8881443e3fa80fe4e8b1922c3fa", func := "modillion/modillionlaw04.ManyChecks", spec := "manyChecks", inPlace := ["internal/bytealg.MakeNoZero"], unfollowed := true, recurses := true, named := ["modillion/hash.start", "modillion/hash.constants"], apart := false, laid := [("modillion/hash.constants", laid_modillion_hash_constants), ("modillion/hash.start", laid_modillion_hash_start)], narrowed := true }
def ManyChecksUptoSaid : Prop := manyChecksUptoRow.holds Tryd.pinned (OpenSpec.upto manyChecksSpec)

/-- 'modillionlaw04.ManyTurned', WHERE WHAT IT READS IS OF BULK AT MOST 1048576: true; the input reads as it did. -/
def manyTurnedUptoRow : OpenClaim := { program := "ytgheacegjgaobaadoor", sum := "3ed8ce3cff911acd0c3342442715aa601265c8881443e3fa80fe4e8b1922c3fa", func := "modillion/modillionlaw04.ManyTurned", spec := "manyTurned", inPlace := ["internal/bytealg.MakeNoZero"], unfollowed := true, recurses := true, named := ["modillion/hash.start", "modillion/hash.constants"], apart := false, laid := [("modillion/hash.constants", laid_modillion_hash_constants), ("modillion/hash.start", laid_modillion_hash_start)], narrowed := true }
def ManyTurnedUptoSaid : Prop := manyTurnedUptoRow.holds Tryd.pinned (OpenSpec.upto manyTurnedSpec)

/-- 'modillionlaw04.ManyAll', WHERE WHAT IT READS IS OF BULK AT MOST 1048576: true; the input reads as it did. -/
def manyAllUptoRow : OpenClaim := { program := "ytgheacegjgaobaadoor", sum := "3ed8ce3cff911acd0c3342442715aa601265c8881443e3fa80fe4e8b1922c3fa", func := "modillion/modillionlaw04.ManyAll", spec := "manyAll", inPlace := ["internal/bytealg.MakeNoZero"], unfollowed := true, recurses := true, named := ["modillion/hash.start", "modillion/hash.constants"], apart := false, laid := [("modillion/hash.constants", laid_modillion_hash_constants), ("modillion/hash.start", laid_modillion_hash_start)], narrowed := true }
def ManyAllUptoSaid : Prop := manyAllUptoRow.holds Tryd.pinned (OpenSpec.upto manyAllSpec)

/-- 'modillionlaw04.ManyFewer', WHERE WHAT IT READS IS OF BULK AT MOST 1048576: true; the input reads as it did. -/
def manyFewerUptoRow : OpenClaim := { program := "ytgheacegjgaobaadoor", sum := "3ed8ce3cff911acd0c3342442715aa601265c8881443e3fa80fe4e8b1922c3fa", func := "modillion/modillionlaw04.ManyFewer", spec := "manyFewer", inPlace := ["internal/bytealg.MakeNoZero"], unfollowed := true, recurses := true, named := ["modillion/hash.start", "modillion/hash.constants"], apart := false, laid := [("modillion/hash.constants", laid_modillion_hash_constants), ("modillion/hash.start", laid_modillion_hash_start)], narrowed := true }
def ManyFewerUptoSaid : Prop := manyFewerUptoRow.holds Tryd.pinned (OpenSpec.upto manyFewerSpec)

/-- 'modillionlaw03.TreeApart', WHERE WHAT IT READS IS OF BULK AT MOST 1048576: true; the input reads as it did. -/
def treeApartUptoRow : OpenClaim := { program := "ytgheacegjgaobaadoor", sum := "3ed8ce3cff911acd0c3342442715aa601265c8881443e3fa80fe4e8b1922c3fa", func := "modillion/modillionlaw03.TreeApart", spec := "treeApart", inPlace := ["internal/bytealg.MakeNoZero"], unfollowed := true, recurses := true, named := ["modillion/hash.start", "modillion/hash.constants"], apart := false, laid := [("modillion/hash.constants", laid_modillion_hash_constants), ("modillion/hash.start", laid_modillion_hash_start)], narrowed := true }
def TreeApartUptoSaid : Prop := treeApartUptoRow.holds Tryd.pinned (OpenSpec.upto treeApartSpec)

end Rows
end Go.Proofs.YtgheacegjgaobaaDoor
