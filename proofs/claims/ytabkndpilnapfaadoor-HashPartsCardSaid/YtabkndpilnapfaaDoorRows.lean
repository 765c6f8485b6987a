/-
  NARROWER THAN 'FOR EVERY INPUT', by the rows' own cells (each row's printed sentence says how): HashOf: laid · HashParts: laid · HashTexts: laid · HashReads: laid · HashOrder: laid · HashNone: laid · HashApart: laid · HashBits: laid.
  DERIVED. THE GIVEN ROWS OF THIS SEAT. 8 by the template 'for every input the law returns true; each argument reads behind the call as it read before'; 0 by the template 'total and deterministic' (their statements: YtabkndpilnapfaaDoorTotals.lean).
  GIVEN WITH THE SEED: the statements are not yours to turn. If you find one false, say at which input.
  Laid BY PROGRAM, IN A SANDBOX (cutbox-rows.mjs): the forced cells as the released guide's own fill.sh prints them over the translation b6430dcbe3bbae9c… (all of the seat's roots in one cut). By AI agents, Wed Nov 11 2026. No macro, syntax, notation, axiom, sorry.
-/
import Derived.Test.YtabkndpilnapfaaDoorChecked
import GoSem.Claim
import GoSem.ClaimJoined
import GoSem.ClaimMapViews
import Derived.JoinedTies
import Derived.KernelRfl
namespace Go.Proofs.YtabkndpilnapfaaDoor
/- THE CELL 'sum', in the pinned program and in every row, IS THE sha256 OF THE DUMP (.gsa) THAT YtabkndpilnapfaaDoorProg.lean LOADS. Nothing in Lean hashes anything: it is a label: what it is worth is what the hold of that sum in a sandbox is worth. -/
noncomputable def Tryd.pinned : Pinned := { name := "ytabkndpilnapfaadoor", sum := "b6430dcbe3bbae9c523a44a6a8e5ee4dc6630ca5695d73b7c366d11d22f7ed83", checked := Tryd.checked }
namespace Rows
def none {H : Type} : Left H := { results := [], args := [] }

/- WHAT THE LISTED PACKAGE-LEVEL VARIABLES READ AS WHEN THE CALL BEGINS. Each datum BY PROGRAM (the guide's laid-datum.mjs) off the statement by which the dump's own 'gosem.cut.vars' lays the variable. In a bare row this is a premise. The card (YtabkndpilnapfaaDoorCards.lean) ties it to the program's text. -/
def laid_modillion_hash_constants {H : Type} : DataW H := .agg [.lit (.int .u32 1116352408), .lit (.int .u32 1899447441), .lit (.int .u32 3049323471), .lit (.int .u32 3921009573), .lit (.int .u32 961987163), .lit (.int .u32 1508970993), .lit (.int .u32 2453635748), .lit (.int .u32 2870763221), .lit (.int .u32 3624381080), .lit (.int .u32 310598401), .lit (.int .u32 607225278), .lit (.int .u32 1426881987), .lit (.int .u32 1925078388), .lit (.int .u32 2162078206), .lit (.int .u32 2614888103), .lit (.int .u32 3248222580), .lit (.int .u32 3835390401), .lit (.int .u32 4022224774), .lit (.int .u32 264347078), .lit (.int .u32 604807628), .lit (.int .u32 770255983), .lit (.int .u32 1249150122), .lit (.int .u32 1555081692), .lit (.int .u32 1996064986), .lit (.int .u32 2554220882), .lit (.int .u32 2821834349), .lit (.int .u32 2952996808), .lit (.int .u32 3210313671), .lit (.int .u32 3336571891), .lit (.int .u32 3584528711), .lit (.int .u32 113926993), .lit (.int .u32 338241895), .lit (.int .u32 666307205), .lit (.int .u32 773529912), .lit (.int .u32 1294757372), .lit (.int .u32 1396182291), .lit (.int .u32 1695183700), .lit (.int .u32 1986661051), .lit (.int .u32 2177026350), .lit (.int .u32 2456956037), .lit (.int .u32 2730485921), .lit (.int .u32 2820302411), .lit (.int .u32 3259730800), .lit (.int .u32 3345764771), .lit (.int .u32 3516065817), .lit (.int .u32 3600352804), .lit (.int .u32 4094571909), .lit (.int .u32 275423344), .lit (.int .u32 430227734), .lit (.int .u32 506948616), .lit (.int .u32 659060556), .lit (.int .u32 883997877), .lit (.int .u32 958139571), .lit (.int .u32 1322822218), .lit (.int .u32 1537002063), .lit (.int .u32 1747873779), .lit (.int .u32 1955562222), .lit (.int .u32 2024104815), .lit (.int .u32 2227730452), .lit (.int .u32 2361852424), .lit (.int .u32 2428436474), .lit (.int .u32 2756734187), .lit (.int .u32 3204031479), .lit (.int .u32 3329325298)]
def laid_modillion_hash_start {H : Type} : DataW H := .agg [.lit (.int .u32 1779033703), .lit (.int .u32 3144134277), .lit (.int .u32 1013904242), .lit (.int .u32 2773480762), .lit (.int .u32 1359893119), .lit (.int .u32 2600822924), .lit (.int .u32 528734635), .lit (.int .u32 1541459225)]

/-- 'modillionlaw01.HashOf': WHATEVER THE INPUT: true; the input reads as it did. -/
def hashOfSpec : ChangeSpec := { name := "hashOf", fn := fun _ => fun
  | [d] => { results := [.lit (.bool true)], args := [d] }
  | _ => none }
def hashOfRow : OpenClaim := { program := "ytabkndpilnapfaadoor", sum := "b6430dcbe3bbae9c523a44a6a8e5ee4dc6630ca5695d73b7c366d11d22f7ed83", func := "modillion/modillionlaw01.HashOf", spec := "hashOf", inPlace := ["internal/bytealg.MakeNoZero", "internal/abi.NoEscape", "internal/bytealg.IndexByteString", "internal/bytealg.Compare"], unfollowed := true, recurses := true, named := ["modillion/hash.start", "modillion/hash.constants"], apart := false, laid := [("modillion/hash.constants", laid_modillion_hash_constants), ("modillion/hash.start", laid_modillion_hash_start)] }
def HashOfSaid : Prop := hashOfRow.holds Tryd.pinned (OpenSpec.ofChange hashOfSpec)

/-- ITS FALSE NEIGHBOUR: 'it returns false'. Refute it at one input. -/
def hashOfWrong : ChangeSpec := { name := "hashOf", fn := fun _ => fun
  | [d] => { results := [.lit (.bool false)], args := [d] }
  | _ => none }
def HashOfWrongFalsely : Prop := hashOfRow.holds Tryd.pinned (OpenSpec.ofChange hashOfWrong)

/-- 'modillionlaw01.HashParts': WHATEVER THE INPUT: true; the input reads as it did. -/
def hashPartsSpec : ChangeSpec := { name := "hashParts", fn := fun _ => fun
  | [d] => { results := [.lit (.bool true)], args := [d] }
  | _ => none }
def hashPartsRow : OpenClaim := { program := "ytabkndpilnapfaadoor", sum := "b6430dcbe3bbae9c523a44a6a8e5ee4dc6630ca5695d73b7c366d11d22f7ed83", func := "modillion/modillionlaw01.HashParts", spec := "hashParts", inPlace := ["internal/bytealg.MakeNoZero", "internal/abi.NoEscape", "internal/bytealg.IndexByteString", "internal/bytealg.Compare"], unfollowed := true, recurses := true, named := ["modillion/hash.start", "modillion/hash.constants"], apart := false, laid := [("modillion/hash.constants", laid_modillion_hash_constants), ("modillion/hash.start", laid_modillion_hash_start)] }
def HashPartsSaid : Prop := hashPartsRow.holds Tryd.pinned (OpenSpec.ofChange hashPartsSpec)

/-- ITS FALSE NEIGHBOUR: 'it returns false'. Refute it at one input. -/
def hashPartsWrong : ChangeSpec := { name := "hashParts", fn := fun _ => fun
  | [d] => { results := [.lit (.bool false)], args := [d] }
  | _ => none }
def HashPartsWrongFalsely : Prop := hashPartsRow.holds Tryd.pinned (OpenSpec.ofChange hashPartsWrong)

/-- 'modillionlaw01.HashTexts': WHATEVER THE INPUT: true; the input reads as it did. -/
def hashTextsSpec : ChangeSpec := { name := "hashTexts", fn := fun _ => fun
  | [d] => { results := [.lit (.bool true)], args := [d] }
  | _ => none }
def hashTextsRow : OpenClaim := { program := "ytabkndpilnapfaadoor", sum := "b6430dcbe3bbae9c523a44a6a8e5ee4dc6630ca5695d73b7c366d11d22f7ed83", func := "modillion/modillionlaw01.HashTexts", spec := "hashTexts", inPlace := ["internal/abi.NoEscape", "internal/bytealg.IndexByteString", "internal/bytealg.MakeNoZero", "internal/bytealg.Compare"], unfollowed := true, recurses := true, named := ["modillion/hash.start", "modillion/hash.constants"], apart := false, laid := [("modillion/hash.constants", laid_modillion_hash_constants), ("modillion/hash.start", laid_modillion_hash_start)] }
def HashTextsSaid : Prop := hashTextsRow.holds Tryd.pinned (OpenSpec.ofChange hashTextsSpec)

/-- ITS FALSE NEIGHBOUR: 'it returns false'. Refute it at one input. -/
def hashTextsWrong : ChangeSpec := { name := "hashTexts", fn := fun _ => fun
  | [d] => { results := [.lit (.bool false)], args := [d] }
  | _ => none }
def HashTextsWrongFalsely : Prop := hashTextsRow.holds Tryd.pinned (OpenSpec.ofChange hashTextsWrong)

/-- 'modillionlaw01.HashReads': WHATEVER THE INPUT: true; the input reads as it did. -/
def hashReadsSpec : ChangeSpec := { name := "hashReads", fn := fun _ => fun
  | [d] => { results := [.lit (.bool true)], args := [d] }
  | _ => none }
def hashReadsRow : OpenClaim := { program := "ytabkndpilnapfaadoor", sum := "b6430dcbe3bbae9c523a44a6a8e5ee4dc6630ca5695d73b7c366d11d22f7ed83", func := "modillion/modillionlaw01.HashReads", spec := "hashReads", inPlace := ["internal/bytealg.MakeNoZero", "internal/abi.NoEscape", "internal/bytealg.IndexByteString", "internal/bytealg.Compare"], unfollowed := true, recurses := true, named := ["modillion/hash.start", "modillion/hash.constants"], apart := false, laid := [("modillion/hash.constants", laid_modillion_hash_constants), ("modillion/hash.start", laid_modillion_hash_start)] }
def HashReadsSaid : Prop := hashReadsRow.holds Tryd.pinned (OpenSpec.ofChange hashReadsSpec)

/-- ITS FALSE NEIGHBOUR: 'it returns false'. Refute it at one input. -/
def hashReadsWrong : ChangeSpec := { name := "hashReads", fn := fun _ => fun
  | [d] => { results := [.lit (.bool false)], args := [d] }
  | _ => none }
def HashReadsWrongFalsely : Prop := hashReadsRow.holds Tryd.pinned (OpenSpec.ofChange hashReadsWrong)

/-- 'modillionlaw01.HashOrder': WHATEVER THE INPUT: true; the input reads as it did. -/
def hashOrderSpec : ChangeSpec := { name := "hashOrder", fn := fun _ => fun
  | [d1, d2, d3] => { results := [.lit (.bool true)], args := [d1, d2, d3] }
  | _ => none }
def hashOrderRow : OpenClaim := { program := "ytabkndpilnapfaadoor", sum := "b6430dcbe3bbae9c523a44a6a8e5ee4dc6630ca5695d73b7c366d11d22f7ed83", func := "modillion/modillionlaw01.HashOrder", spec := "hashOrder", inPlace := ["internal/bytealg.Compare", "internal/bytealg.MakeNoZero", "internal/abi.NoEscape", "internal/bytealg.IndexByteString"], unfollowed := true, recurses := true, named := ["modillion/hash.start", "modillion/hash.constants"], apart := false, laid := [("modillion/hash.constants", laid_modillion_hash_constants), ("modillion/hash.start", laid_modillion_hash_start)] }
def HashOrderSaid : Prop := hashOrderRow.holds Tryd.pinned (OpenSpec.ofChange hashOrderSpec)

/-- ITS FALSE NEIGHBOUR: 'it returns false'. Refute it at one input. -/
def hashOrderWrong : ChangeSpec := { name := "hashOrder", fn := fun _ => fun
  | [d1, d2, d3] => { results := [.lit (.bool false)], args := [d1, d2, d3] }
  | _ => none }
def HashOrderWrongFalsely : Prop := hashOrderRow.holds Tryd.pinned (OpenSpec.ofChange hashOrderWrong)

/-- 'modillionlaw01.HashNone': WHATEVER THE INPUT: true; the input reads as it did. -/
def hashNoneSpec : ChangeSpec := { name := "hashNone", fn := fun _ => fun
  | [d1, d2] => { results := [.lit (.bool true)], args := [d1, d2] }
  | _ => none }
def hashNoneRow : OpenClaim := { program := "ytabkndpilnapfaadoor", sum := "b6430dcbe3bbae9c523a44a6a8e5ee4dc6630ca5695d73b7c366d11d22f7ed83", func := "modillion/modillionlaw01.HashNone", spec := "hashNone", inPlace := ["internal/bytealg.MakeNoZero", "internal/abi.NoEscape", "internal/bytealg.IndexByteString", "internal/bytealg.Compare"], unfollowed := true, recurses := true, named := ["modillion/hash.start", "modillion/hash.constants"], apart := false, laid := [("modillion/hash.constants", laid_modillion_hash_constants), ("modillion/hash.start", laid_modillion_hash_start)] }
def HashNoneSaid : Prop := hashNoneRow.holds Tryd.pinned (OpenSpec.ofChange hashNoneSpec)

/-- ITS FALSE NEIGHBOUR: 'it returns false'. Refute it at one input. -/
def hashNoneWrong : ChangeSpec := { name := "hashNone", fn := fun _ => fun
  | [d1, d2] => { results := [.lit (.bool false)], args := [d1, d2] }
  | _ => none }
def HashNoneWrongFalsely : Prop := hashNoneRow.holds Tryd.pinned (OpenSpec.ofChange hashNoneWrong)

/-- 'modillionlaw01.HashApart': WHATEVER THE INPUT: true; the input reads as it did. -/
def hashApartSpec : ChangeSpec := { name := "hashApart", fn := fun _ => fun
  | [d1, d2] => { results := [.lit (.bool true)], args := [d1, d2] }
  | _ => none }
def hashApartRow : OpenClaim := { program := "ytabkndpilnapfaadoor", sum := "b6430dcbe3bbae9c523a44a6a8e5ee4dc6630ca5695d73b7c366d11d22f7ed83", func := "modillion/modillionlaw01.HashApart", spec := "hashApart", inPlace := ["internal/abi.NoEscape", "internal/bytealg.MakeNoZero", "internal/bytealg.IndexByteString", "internal/bytealg.Compare"], unfollowed := true, recurses := true, named := ["modillion/hash.start", "modillion/hash.constants"], apart := false, laid := [("modillion/hash.constants", laid_modillion_hash_constants), ("modillion/hash.start", laid_modillion_hash_start)] }
def HashApartSaid : Prop := hashApartRow.holds Tryd.pinned (OpenSpec.ofChange hashApartSpec)

/-- ITS FALSE NEIGHBOUR: 'it returns false'. Refute it at one input. -/
def hashApartWrong : ChangeSpec := { name := "hashApart", fn := fun _ => fun
  | [d1, d2] => { results := [.lit (.bool false)], args := [d1, d2] }
  | _ => none }
def HashApartWrongFalsely : Prop := hashApartRow.holds Tryd.pinned (OpenSpec.ofChange hashApartWrong)

/-- 'modillionlaw01.HashBits': WHATEVER THE INPUT: true; the input reads as it did. -/
def hashBitsSpec : ChangeSpec := { name := "hashBits", fn := fun _ => fun
  | [d1, d2] => { results := [.lit (.bool true)], args := [d1, d2] }
  | _ => none }
def hashBitsRow : OpenClaim := { program := "ytabkndpilnapfaadoor", sum := "b6430dcbe3bbae9c523a44a6a8e5ee4dc6630ca5695d73b7c366d11d22f7ed83", func := "modillion/modillionlaw01.HashBits", spec := "hashBits", inPlace := ["internal/bytealg.MakeNoZero", "internal/abi.NoEscape", "internal/bytealg.IndexByteString", "internal/bytealg.Compare"], unfollowed := true, recurses := true, named := ["modillion/hash.start", "modillion/hash.constants"], apart := false, laid := [("modillion/hash.constants", laid_modillion_hash_constants), ("modillion/hash.start", laid_modillion_hash_start)] }
def HashBitsSaid : Prop := hashBitsRow.holds Tryd.pinned (OpenSpec.ofChange hashBitsSpec)

/-- ITS FALSE NEIGHBOUR: 'it returns false'. Refute it at one input. -/
def hashBitsWrong : ChangeSpec := { name := "hashBits", fn := fun _ => fun
  | [d1, d2] => { results := [.lit (.bool false)], args := [d1, d2] }
  | _ => none }
def HashBitsWrongFalsely : Prop := hashBitsRow.holds Tryd.pinned (OpenSpec.ofChange hashBitsWrong)

/- THE SECOND FORM. 'bulk': how many values and letters a reading holds, each counted each time it is reached (what is shared counts as often as it is met; a slice's spare places count too). A statement '..UptoSaid' is the law's where the arguments, and the package variables that the reading takes, are together of bulk at most 1048576: NARROWER than '..Said'. Prove '..Said' where nothing that the law and all that it calls make is longer than what came in: it says more and counts as full. Else prove '..UptoSaid'. A law counts once. -/
mutual
def uptoBulk {H : Type} : DataW H → Nat
  | .lit (.string bytes) => bytes.length + 1
  | .lit _ => 1
  | .nil => 1
  | .ptr d => uptoBulk d + 1
  | .slice elems spare => uptoBulkAll elems + uptoBulkAll spare + 1
  | .agg parts => uptoBulkAll parts + 1
  | .iface _ d => uptoBulk d + 1
  | .map entries => uptoBulkEntries entries + 1
  | .held _ => 1
def uptoBulkAll {H : Type} : List (DataW H) → Nat
  | [] => 0
  | d :: r => uptoBulk d + uptoBulkAll r
def uptoBulkEntries {H : Type} : List (Lit × DataW H) → Nat
  | [] => 0
  | x :: r => uptoBulkEntry x + uptoBulkEntries r
def uptoBulkEntry {H : Type} : Lit × DataW H → Nat
  | (.string bytes, d) => bytes.length + uptoBulk d + 1
  | (_, d) => uptoBulk d + 1
 end
def uptoSmall : (H : Type) → List (DataW H) → Bool := fun _ ds => decide (uptoBulkAll ds ≤ 1048576)
def OpenSpec.upto (s : _root_.Go.ChangeSpec) : _root_.Go.OpenSpec := { _root_.Go.OpenSpec.ofChange s with cond := some uptoSmall }

/-- 'modillionlaw01.HashOf', WHERE WHAT IT READS IS OF BULK AT MOST 1048576: true; the input reads as it did. -/
def hashOfUptoRow : OpenClaim := { program := "ytabkndpilnapfaadoor", sum := "b6430dcbe3bbae9c523a44a6a8e5ee4dc6630ca5695d73b7c366d11d22f7ed83", func := "modillion/modillionlaw01.HashOf", spec := "hashOf", inPlace := ["internal/bytealg.MakeNoZero", "internal/abi.NoEscape", "internal/bytealg.IndexByteString", "internal/bytealg.Compare"], unfollowed := true, recurses := true, named := ["modillion/hash.start", "modillion/hash.constants"], apart := false, laid := [("modillion/hash.constants", laid_modillion_hash_constants), ("modillion/hash.start", laid_modillion_hash_start)], narrowed := true }
def HashOfUptoSaid : Prop := hashOfUptoRow.holds Tryd.pinned (OpenSpec.upto hashOfSpec)

/-- 'modillionlaw01.HashParts', WHERE WHAT IT READS IS OF BULK AT MOST 1048576: true; the input reads as it did. -/
def hashPartsUptoRow : OpenClaim := { program := "ytabkndpilnapfaadoor", sum := "b6430dcbe3bbae9c523a44a6a8e5ee4dc6630ca5695d73b7c366d11d22f7ed83", func := "modillion/modillionlaw01.HashParts", spec := "hashParts", inPlace := ["internal/bytealg.MakeNoZero", "internal/abi.NoEscape", "internal/bytealg.IndexByteString", "internal/bytealg.Compare"], unfollowed := true, recurses := true, named := ["modillion/hash.start", "modillion/hash.constants"], apart := false, laid := [("modillion/hash.constants", laid_modillion_hash_constants), ("modillion/hash.start", laid_modillion_hash_start)], narrowed := true }
def HashPartsUptoSaid : Prop := hashPartsUptoRow.holds Tryd.pinned (OpenSpec.upto hashPartsSpec)

/-- 'modillionlaw01.HashTexts', WHERE WHAT IT READS IS OF BULK AT MOST 1048576: true; the input reads as it did. -/
def hashTextsUptoRow : OpenClaim := { program := "ytabkndpilnapfaadoor", sum := "b6430dcbe3bbae9c523a44a6a8e5ee4dc6630ca5695d73b7c366d11d22f7ed83", func := "modillion/modillionlaw01.HashTexts", spec := "hashTexts", inPlace := ["internal/abi.NoEscape", "internal/bytealg.IndexByteString", "internal/bytealg.MakeNoZero", "internal/bytealg.Compare"], unfollowed := true, recurses := true, named := ["modillion/hash.start", "modillion/hash.constants"], apart := false, laid := [("modillion/hash.constants", laid_modillion_hash_constants), ("modillion/hash.start", laid_modillion_hash_start)], narrowed := true }
def HashTextsUptoSaid : Prop := hashTextsUptoRow.holds Tryd.pinned (OpenSpec.upto hashTextsSpec)

/-- 'modillionlaw01.HashReads', WHERE WHAT IT READS IS OF BULK AT MOST 1048576: true; the input reads as it did. -/
def hashReadsUptoRow : OpenClaim := { program := "ytabkndpilnapfaadoor", sum := "b6430dcbe3bbae9c523a44a6a8e5ee4dc6630ca5695d73b7c366d11d22f7ed83", func := "modillion/modillionlaw01.HashReads", spec := "hashReads", inPlace := ["internal/bytealg.MakeNoZero", "internal/abi.NoEscape", "internal/bytealg.IndexByteString", "internal/bytealg.Compare"], unfollowed := true, recurses := true, named := ["modillion/hash.start", "modillion/hash.constants"], apart := false, laid := [("modillion/hash.constants", laid_modillion_hash_constants), ("modillion/hash.start", laid_modillion_hash_start)], narrowed := true }
def HashReadsUptoSaid : Prop := hashReadsUptoRow.holds Tryd.pinned (OpenSpec.upto hashReadsSpec)

/-- 'modillionlaw01.HashOrder', WHERE WHAT IT READS IS OF BULK AT MOST 1048576: true; the input reads as it did. -/
def hashOrderUptoRow : OpenClaim := { program := "ytabkndpilnapfaadoor", sum := "b6430dcbe3bbae9c523a44a6a8e5ee4dc6630ca5695d73b7c366d11d22f7ed83", func := "modillion/modillionlaw01.HashOrder", spec := "hashOrder", inPlace := ["internal/bytealg.Compare", "internal/bytealg.MakeNoZero", "internal/abi.NoEscape", "internal/bytealg.IndexByteString"], unfollowed := true, recurses := true, named := ["modillion/hash.start", "modillion/hash.constants"], apart := false, laid := [("modillion/hash.constants", laid_modillion_hash_constants), ("modillion/hash.start", laid_modillion_hash_start)], narrowed := true }
def HashOrderUptoSaid : Prop := hashOrderUptoRow.holds Tryd.pinned (OpenSpec.upto hashOrderSpec)

/-- 'modillionlaw01.HashNone', WHERE WHAT IT READS IS OF BULK AT MOST 1048576: true; the input reads as it did. -/
def hashNoneUptoRow : OpenClaim := { program := "ytabkndpilnapfaadoor", sum := "b6430dcbe3bbae9c523a44a6a8e5ee4dc6630ca5695d73b7c366d11d22f7ed83", func := "modillion/modillionlaw01.HashNone", spec := "hashNone", inPlace := ["internal/bytealg.MakeNoZero", "internal/abi.NoEscape", "internal/bytealg.IndexByteString", "internal/bytealg.Compare"], unfollowed := true, recurses := true, named := ["modillion/hash.start", "modillion/hash.constants"], apart := false, laid := [("modillion/hash.constants", laid_modillion_hash_constants), ("modillion/hash.start", laid_modillion_hash_start)], narrowed := true }
def HashNoneUptoSaid : Prop := hashNoneUptoRow.holds Tryd.pinned (OpenSpec.upto hashNoneSpec)

/-- 'modillionlaw01.HashApart', WHERE WHAT IT READS IS OF BULK AT MOST 1048576: true; the input reads as it did. -/
def hashApartUptoRow : OpenClaim := { program := "ytabkndpilnapfaadoor", sum := "b6430dcbe3bbae9c523a44a6a8e5ee4dc6630ca5695d73b7c366d11d22f7ed83", func := "modillion/modillionlaw01.HashApart", spec := "hashApart", inPlace := ["internal/abi.NoEscape", "internal/bytealg.MakeNoZero", "internal/bytealg.IndexByteString", "internal/bytealg.Compare"], unfollowed := true, recurses := true, named := ["modillion/hash.start", "modillion/hash.constants"], apart := false, laid := [("modillion/hash.constants", laid_modillion_hash_constants), ("modillion/hash.start", laid_modillion_hash_start)], narrowed := true }
def HashApartUptoSaid : Prop := hashApartUptoRow.holds Tryd.pinned (OpenSpec.upto hashApartSpec)

/-- 'modillionlaw01.HashBits', WHERE WHAT IT READS IS OF BULK AT MOST 1048576: true; the input reads as it did. -/
def hashBitsUptoRow : OpenClaim := { program := "ytabkndpilnapfaadoor", sum := "b6430dcbe3bbae9c523a44a6a8e5ee4dc6630ca5695d73b7c366d11d22f7ed83", func := "modillion/modillionlaw01.HashBits", spec := "hashBits", inPlace := ["internal/bytealg.MakeNoZero", "internal/abi.NoEscape", "internal/bytealg.IndexByteString", "internal/bytealg.Compare"], unfollowed := true, recurses := true, named := ["modillion/hash.start", "modillion/hash.constants"], apart := false, laid := [("modillion/hash.constants", laid_modillion_hash_constants), ("modillion/hash.start", laid_modillion_hash_start)], narrowed := true }
def HashBitsUptoSaid : Prop := hashBitsUptoRow.holds Tryd.pinned (OpenSpec.upto hashBitsSpec)

end Rows
end Go.Proofs.YtabkndpilnapfaaDoor
