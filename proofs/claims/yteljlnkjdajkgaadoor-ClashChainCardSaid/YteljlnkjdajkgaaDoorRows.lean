/-
  NARROWER THAN 'FOR EVERY INPUT', by the rows' own cells (each row's printed sentence says how): ClashRows: laid · ClashFinds: laid · ClashSame: laid · ClashBinds: laid · ClashChain: laid · ClashRoot: laid.
  DERIVED. THE GIVEN ROWS OF THIS SEAT. 6 by the template 'for every input the law returns true; each argument reads behind the call as it read before'; 0 by the template 'total and deterministic' (their statements: YteljlnkjdajkgaaDoorTotals.lean).
  GIVEN WITH THE SEED: the statements are not yours to turn. If you find one false, say at which input.
  Laid BY PROGRAM, IN A SANDBOX (cutbox-rows.mjs): the forced cells as the released guide's own fill.sh prints them over the translation de286b6359127da5… (all of the seat's roots in one cut). By AI agents, Wed Nov 11 2026. No macro, syntax, notation, axiom, sorry.
-/
import Derived.Test.YteljlnkjdajkgaaDoorChecked
import GoSem.Claim
import GoSem.ClaimJoined
import GoSem.ClaimMapViews
import Derived.JoinedTies
import Derived.KernelRfl
namespace Go.Proofs.YteljlnkjdajkgaaDoor
/- THE CELL 'sum', in the pinned program and in every row, IS THE sha256 OF THE DUMP (.gsa) THAT YteljlnkjdajkgaaDoorProg.lean LOADS. Nothing in Lean hashes anything: it is a label: what it is worth is what the hold of that sum in a sandbox is worth. -/
noncomputable def Tryd.pinned : Pinned := { name := "yteljlnkjdajkgaadoor", sum := "de286b6359127da537335205c0982e72e0c14a5e52c885e9b609a49d4184d6a5", checked := Tryd.checked }
namespace Rows
def none {H : Type} : Left H := { results := [], args := [] }

/- WHAT THE LISTED PACKAGE-LEVEL VARIABLES READ AS WHEN THE CALL BEGINS. Each datum BY PROGRAM (the guide's laid-datum.mjs) off the statement by which the dump's own 'gosem.cut.vars' lays the variable. In a bare row this is a premise. The card (YteljlnkjdajkgaaDoorCards.lean) ties it to the program's text. -/
def laid_modillion_hash_constants {H : Type} : DataW H := .agg [.lit (.int .u32 1116352408), .lit (.int .u32 1899447441), .lit (.int .u32 3049323471), .lit (.int .u32 3921009573), .lit (.int .u32 961987163), .lit (.int .u32 1508970993), .lit (.int .u32 2453635748), .lit (.int .u32 2870763221), .lit (.int .u32 3624381080), .lit (.int .u32 310598401), .lit (.int .u32 607225278), .lit (.int .u32 1426881987), .lit (.int .u32 1925078388), .lit (.int .u32 2162078206), .lit (.int .u32 2614888103), .lit (.int .u32 3248222580), .lit (.int .u32 3835390401), .lit (.int .u32 4022224774), .lit (.int .u32 264347078), .lit (.int .u32 604807628), .lit (.int .u32 770255983), .lit (.int .u32 1249150122), .lit (.int .u32 1555081692), .lit (.int .u32 1996064986), .lit (.int .u32 2554220882), .lit (.int .u32 2821834349), .lit (.int .u32 2952996808), .lit (.int .u32 3210313671), .lit (.int .u32 3336571891), .lit (.int .u32 3584528711), .lit (.int .u32 113926993), .lit (.int .u32 338241895), .lit (.int .u32 666307205), .lit (.int .u32 773529912), .lit (.int .u32 1294757372), .lit (.int .u32 1396182291), .lit (.int .u32 1695183700), .lit (.int .u32 1986661051), .lit (.int .u32 2177026350), .lit (.int .u32 2456956037), .lit (.int .u32 2730485921), .lit (.int .u32 2820302411), .lit (.int .u32 3259730800), .lit (.int .u32 3345764771), .lit (.int .u32 3516065817), .lit (.int .u32 3600352804), .lit (.int .u32 4094571909), .lit (.int .u32 275423344), .lit (.int .u32 430227734), .lit (.int .u32 506948616), .lit (.int .u32 659060556), .lit (.int .u32 883997877), .lit (.int .u32 958139571), .lit (.int .u32 1322822218), .lit (.int .u32 1537002063), .lit (.int .u32 1747873779), .lit (.int .u32 1955562222), .lit (.int .u32 2024104815), .lit (.int .u32 2227730452), .lit (.int .u32 2361852424), .lit (.int .u32 2428436474), .lit (.int .u32 2756734187), .lit (.int .u32 3204031479), .lit (.int .u32 3329325298)]
def laid_modillion_hash_start {H : Type} : DataW H := .agg [.lit (.int .u32 1779033703), .lit (.int .u32 3144134277), .lit (.int .u32 1013904242), .lit (.int .u32 2773480762), .lit (.int .u32 1359893119), .lit (.int .u32 2600822924), .lit (.int .u32 528734635), .lit (.int .u32 1541459225)]

/-- 'modillionlaw19.ClashRows': WHATEVER THE INPUT: true; the input reads as it did. -/
def clashRowsSpec : ChangeSpec := { name := "clashRows", fn := fun _ => fun
  | [d1, d2, d3, d4] => { results := [.lit (.bool true)], args := [d1, d2, d3, d4] }
  | _ => none }
def clashRowsRow : OpenClaim := { program := "yteljlnkjdajkgaadoor", sum := "de286b6359127da537335205c0982e72e0c14a5e52c885e9b609a49d4184d6a5", func := "modillion/modillionlaw19.ClashRows", spec := "clashRows", inPlace := ["internal/bytealg.MakeNoZero"], unfollowed := true, recurses := true, named := ["modillion/hash.start", "modillion/hash.constants"], apart := false, laid := [("modillion/hash.constants", laid_modillion_hash_constants), ("modillion/hash.start", laid_modillion_hash_start)] }
def ClashRowsSaid : Prop := clashRowsRow.holds Tryd.pinned (OpenSpec.ofChange clashRowsSpec)

/-- ITS FALSE NEIGHBOUR: 'it returns false'. Refute it at one input. -/
def clashRowsWrong : ChangeSpec := { name := "clashRows", fn := fun _ => fun
  | [d1, d2, d3, d4] => { results := [.lit (.bool false)], args := [d1, d2, d3, d4] }
  | _ => none }
def ClashRowsWrongFalsely : Prop := clashRowsRow.holds Tryd.pinned (OpenSpec.ofChange clashRowsWrong)

/-- 'modillionlaw19.ClashFinds': WHATEVER THE INPUT: true; the input reads as it did. -/
def clashFindsSpec : ChangeSpec := { name := "clashFinds", fn := fun _ => fun
  | [d1, d2, d3, d4, d5, d6] => { results := [.lit (.bool true)], args := [d1, d2, d3, d4, d5, d6] }
  | _ => none }
def clashFindsRow : OpenClaim := { program := "yteljlnkjdajkgaadoor", sum := "de286b6359127da537335205c0982e72e0c14a5e52c885e9b609a49d4184d6a5", func := "modillion/modillionlaw19.ClashFinds", spec := "clashFinds", inPlace := ["internal/bytealg.MakeNoZero"], unfollowed := true, recurses := true, named := ["modillion/hash.start", "modillion/hash.constants"], apart := false, laid := [("modillion/hash.constants", laid_modillion_hash_constants), ("modillion/hash.start", laid_modillion_hash_start)] }
def ClashFindsSaid : Prop := clashFindsRow.holds Tryd.pinned (OpenSpec.ofChange clashFindsSpec)

/-- ITS FALSE NEIGHBOUR: 'it returns false'. Refute it at one input. -/
def clashFindsWrong : ChangeSpec := { name := "clashFinds", fn := fun _ => fun
  | [d1, d2, d3, d4, d5, d6] => { results := [.lit (.bool false)], args := [d1, d2, d3, d4, d5, d6] }
  | _ => none }
def ClashFindsWrongFalsely : Prop := clashFindsRow.holds Tryd.pinned (OpenSpec.ofChange clashFindsWrong)

/-- 'modillionlaw19.ClashSame': WHATEVER THE INPUT: true; the input reads as it did. -/
def clashSameSpec : ChangeSpec := { name := "clashSame", fn := fun _ => fun
  | [d1, d2, d3, d4] => { results := [.lit (.bool true)], args := [d1, d2, d3, d4] }
  | _ => none }
def clashSameRow : OpenClaim := { program := "yteljlnkjdajkgaadoor", sum := "de286b6359127da537335205c0982e72e0c14a5e52c885e9b609a49d4184d6a5", func := "modillion/modillionlaw19.ClashSame", spec := "clashSame", inPlace := ["internal/bytealg.MakeNoZero"], unfollowed := true, recurses := true, named := ["modillion/hash.start", "modillion/hash.constants"], apart := false, laid := [("modillion/hash.constants", laid_modillion_hash_constants), ("modillion/hash.start", laid_modillion_hash_start)] }
def ClashSameSaid : Prop := clashSameRow.holds Tryd.pinned (OpenSpec.ofChange clashSameSpec)

/-- ITS FALSE NEIGHBOUR: 'it returns false'. Refute it at one input. -/
def clashSameWrong : ChangeSpec := { name := "clashSame", fn := fun _ => fun
  | [d1, d2, d3, d4] => { results := [.lit (.bool false)], args := [d1, d2, d3, d4] }
  | _ => none }
def ClashSameWrongFalsely : Prop := clashSameRow.holds Tryd.pinned (OpenSpec.ofChange clashSameWrong)

/-- 'modillionlaw19.ClashBinds': WHATEVER THE INPUT: true; the input reads as it did. -/
def clashBindsSpec : ChangeSpec := { name := "clashBinds", fn := fun _ => fun
  | [d1, d2, d3, d4, d5, d6, d7] => { results := [.lit (.bool true)], args := [d1, d2, d3, d4, d5, d6, d7] }
  | _ => none }
def clashBindsRow : OpenClaim := { program := "yteljlnkjdajkgaadoor", sum := "de286b6359127da537335205c0982e72e0c14a5e52c885e9b609a49d4184d6a5", func := "modillion/modillionlaw19.ClashBinds", spec := "clashBinds", inPlace := ["internal/bytealg.MakeNoZero"], unfollowed := true, recurses := true, named := ["modillion/hash.start", "modillion/hash.constants"], apart := false, laid := [("modillion/hash.constants", laid_modillion_hash_constants), ("modillion/hash.start", laid_modillion_hash_start)] }
def ClashBindsSaid : Prop := clashBindsRow.holds Tryd.pinned (OpenSpec.ofChange clashBindsSpec)

/-- ITS FALSE NEIGHBOUR: 'it returns false'. Refute it at one input. -/
def clashBindsWrong : ChangeSpec := { name := "clashBinds", fn := fun _ => fun
  | [d1, d2, d3, d4, d5, d6, d7] => { results := [.lit (.bool false)], args := [d1, d2, d3, d4, d5, d6, d7] }
  | _ => none }
def ClashBindsWrongFalsely : Prop := clashBindsRow.holds Tryd.pinned (OpenSpec.ofChange clashBindsWrong)

/-- 'modillionlaw19.ClashChain': WHATEVER THE INPUT: true; the input reads as it did. -/
def clashChainSpec : ChangeSpec := { name := "clashChain", fn := fun _ => fun
  | [d1, d2, d3, d4] => { results := [.lit (.bool true)], args := [d1, d2, d3, d4] }
  | _ => none }
def clashChainRow : OpenClaim := { program := "yteljlnkjdajkgaadoor", sum := "de286b6359127da537335205c0982e72e0c14a5e52c885e9b609a49d4184d6a5", func := "modillion/modillionlaw19.ClashChain", spec := "clashChain", inPlace := ["internal/bytealg.MakeNoZero"], unfollowed := true, recurses := true, named := ["modillion/hash.start", "modillion/hash.constants"], apart := false, laid := [("modillion/hash.constants", laid_modillion_hash_constants), ("modillion/hash.start", laid_modillion_hash_start)] }
def ClashChainSaid : Prop := clashChainRow.holds Tryd.pinned (OpenSpec.ofChange clashChainSpec)

/-- ITS FALSE NEIGHBOUR: 'it returns false'. Refute it at one input. -/
def clashChainWrong : ChangeSpec := { name := "clashChain", fn := fun _ => fun
  | [d1, d2, d3, d4] => { results := [.lit (.bool false)], args := [d1, d2, d3, d4] }
  | _ => none }
def ClashChainWrongFalsely : Prop := clashChainRow.holds Tryd.pinned (OpenSpec.ofChange clashChainWrong)

/-- 'modillionlaw19.ClashRoot': WHATEVER THE INPUT: true; the input reads as it did. -/
def clashRootSpec : ChangeSpec := { name := "clashRoot", fn := fun _ => fun
  | [d1, d2, d3, d4, d5] => { results := [.lit (.bool true)], args := [d1, d2, d3, d4, d5] }
  | _ => none }
def clashRootRow : OpenClaim := { program := "yteljlnkjdajkgaadoor", sum := "de286b6359127da537335205c0982e72e0c14a5e52c885e9b609a49d4184d6a5", func := "modillion/modillionlaw19.ClashRoot", spec := "clashRoot", inPlace := ["internal/bytealg.MakeNoZero"], unfollowed := true, recurses := true, named := ["modillion/hash.start", "modillion/hash.constants"], apart := false, laid := [("modillion/hash.constants", laid_modillion_hash_constants), ("modillion/hash.start", laid_modillion_hash_start)] }
def ClashRootSaid : Prop := clashRootRow.holds Tryd.pinned (OpenSpec.ofChange clashRootSpec)

/-- ITS FALSE NEIGHBOUR: 'it returns false'. Refute it at one input. -/
def clashRootWrong : ChangeSpec := { name := "clashRoot", fn := fun _ => fun
  | [d1, d2, d3, d4, d5] => { results := [.lit (.bool false)], args := [d1, d2, d3, d4, d5] }
  | _ => none }
def ClashRootWrongFalsely : Prop := clashRootRow.holds Tryd.pinned (OpenSpec.ofChange clashRootWrong)

/- THE SECOND FORM. 'bulk': how many values and letters a reading holds, each counted each time it is reached (what is shared counts as often as it is met; a slice's spare places count too). A statement '..UptoSaid' is the law's where the arguments, and the package variables that the reading takes, are together of bulk at most 1048576: NARROWER than '..Said'. Prove '..Said' where nothing that the law and all that it calls make is longer than what came in: it says more and counts as full. Else prove '..UptoSaid'. A law counts once. -/
mutual
def uptoBulk {H : Type} : DataW H → Nat
  | .lit (.string bytes) => bytes.length + 1
  | .lit _ => 1
  | .nil => 1
  | .ptr d => uptoBulk d + 1
  | .slice elems spare => uptoBulkAll elems + uptoBulkAll spare + 1
  | .agg parts => uptoBulkAll parts + 1
  | .iface _ d => uptoBulk d + 1
  | .map entries => uptoBulkEntries entries + 1
  | .held _ => 1
def uptoBulkAll {H : Type} : List (DataW H) → Nat
  | [] => 0
  | d :: r => uptoBulk d + uptoBulkAll r
def uptoBulkEntries {H : Type} : List (Lit × DataW H) → Nat
  | [] => 0
  | x :: r => uptoBulkEntry x + uptoBulkEntries r
def uptoBulkEntry {H : Type} : Lit × DataW H → Nat
  | (.string bytes, d) => bytes.length + uptoBulk d + 1
  | (_, d) => uptoBulk d + 1
 end
def uptoSmall : (H : Type) → List (DataW H) → Bool := fun _ ds => decide (uptoBulkAll ds ≤ 1048576)
def OpenSpec.upto (s : _root_.Go.ChangeSpec) : _root_.Go.OpenSpec := { _root_.Go.OpenSpec.ofChange s with cond := some uptoSmall }

/-- 'modillionlaw19.ClashRows', WHERE WHAT IT READS IS OF BULK AT MOST 1048576: true; the input reads as it did. -/
def clashRowsUptoRow : OpenClaim := { program := "yteljlnkjdajkgaadoor", sum := "de286b6359127da537335205c0982e72e0c14a5e52c885e9b609a49d4184d6a5", func := "modillion/modillionlaw19.ClashRows", spec := "clashRows", inPlace := ["internal/bytealg.MakeNoZero"], unfollowed := true, recurses := true, named := ["modillion/hash.start", "modillion/hash.constants"], apart := false, laid := [("modillion/hash.constants", laid_modillion_hash_constants), ("modillion/hash.start", laid_modillion_hash_start)], narrowed := true }
def ClashRowsUptoSaid : Prop := clashRowsUptoRow.holds Tryd.pinned (OpenSpec.upto clashRowsSpec)

/-- 'modillionlaw19.ClashFinds', WHERE WHAT IT READS IS OF BULK AT MOST 1048576: true; the input reads as it did. -/
def clashFindsUptoRow : OpenClaim := { program := "yteljlnkjdajkgaadoor", sum := "de286b6359127da537335205c0982e72e0c14a5e52c885e9b609a49d4184d6a5", func := "modillion/modillionlaw19.ClashFinds", spec := "clashFinds", inPlace := ["internal/bytealg.MakeNoZero"], unfollowed := true, recurses := true, named := ["modillion/hash.start", "modillion/hash.constants"], apart := false, laid := [("modillion/hash.constants", laid_modillion_hash_constants), ("modillion/hash.start", laid_modillion_hash_start)], narrowed := true }
def ClashFindsUptoSaid : Prop := clashFindsUptoRow.holds Tryd.pinned (OpenSpec.upto clashFindsSpec)

/-- 'modillionlaw19.ClashSame', WHERE WHAT IT READS IS OF BULK AT MOST 1048576: true; the input reads as it did. -/
def clashSameUptoRow : OpenClaim := { program := "yteljlnkjdajkgaadoor", sum := "de286b6359127da537335205c0982e72e0c14a5e52c885e9b609a49d4184d6a5", func := "modillion/modillionlaw19.ClashSame", spec := "clashSame", inPlace := ["internal/bytealg.MakeNoZero"], unfollowed := true, recurses := true, named := ["modillion/hash.start", "modillion/hash.constants"], apart := false, laid := [("modillion/hash.constants", laid_modillion_hash_constants), ("modillion/hash.start", laid_modillion_hash_start)], narrowed := true }
def ClashSameUptoSaid : Prop := clashSameUptoRow.holds Tryd.pinned (OpenSpec.upto clashSameSpec)

/-- 'modillionlaw19.ClashBinds', WHERE WHAT IT READS IS OF BULK AT MOST 1048576: true; the input reads as it did. -/
def clashBindsUptoRow : OpenClaim := { program := "yteljlnkjdajkgaadoor", sum := "de286b6359127da537335205c0982e72e0c14a5e52c885e9b609a49d4184d6a5", func := "modillion/modillionlaw19.ClashBinds", spec := "clashBinds", inPlace := ["internal/bytealg.MakeNoZero"], unfollowed := true, recurses := true, named := ["modillion/hash.start", "modillion/hash.constants"], apart := false, laid := [("modillion/hash.constants", laid_modillion_hash_constants), ("modillion/hash.start", laid_modillion_hash_start)], narrowed := true }
def ClashBindsUptoSaid : Prop := clashBindsUptoRow.holds Tryd.pinned (OpenSpec.upto clashBindsSpec)

/-- 'modillionlaw19.ClashChain', WHERE WHAT IT READS IS OF BULK AT MOST 1048576: true; the input reads as it did. -/
def clashChainUptoRow : OpenClaim := { program := "yteljlnkjdajkgaadoor", sum := "de286b6359127da537335205c0982e72e0c14a5e52c885e9b609a49d4184d6a5", func := "modillion/modillionlaw19.ClashChain", spec := "clashChain", inPlace := ["internal/bytealg.MakeNoZero"], unfollowed := true, recurses := true, named := ["modillion/hash.start", "modillion/hash.constants"], apart := false, laid := [("modillion/hash.constants", laid_modillion_hash_constants), ("modillion/hash.start", laid_modillion_hash_start)], narrowed := true }
def ClashChainUptoSaid : Prop := clashChainUptoRow.holds Tryd.pinned (OpenSpec.upto clashChainSpec)

/-- 'modillionlaw19.ClashRoot', WHERE WHAT IT READS IS OF BULK AT MOST 1048576: true; the input reads as it did. -/
def clashRootUptoRow : OpenClaim := { program := "yteljlnkjdajkgaadoor", sum := "de286b6359127da537335205c0982e72e0c14a5e52c885e9b609a49d4184d6a5", func := "modillion/modillionlaw19.ClashRoot", spec := "clashRoot", inPlace := ["internal/bytealg.MakeNoZero"], unfollowed := true, recurses := true, named := ["modillion/hash.start", "modillion/hash.constants"], apart := false, laid := [("modillion/hash.constants", laid_modillion_hash_constants), ("modillion/hash.start", laid_modillion_hash_start)], narrowed := true }
def ClashRootUptoSaid : Prop := clashRootUptoRow.holds Tryd.pinned (OpenSpec.upto clashRootSpec)

end Rows
end Go.Proofs.YteljlnkjdajkgaaDoor
