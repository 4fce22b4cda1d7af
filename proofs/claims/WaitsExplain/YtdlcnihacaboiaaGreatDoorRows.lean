/-
  NARROWER THAN 'FOR EVERY INPUT', by the rows' own cells (each row's printed sentence says how): SubstFree: loops, laid · SubstRenames: loops, laid · WaitsMatchReference: loops, laid · WaitsThreads: laid · WaitsExplain: loops, laid · WaitsAccepted: loops, laid · WaitsMeet: laid · ConfigFlattens: loops, laid · ConfigCounts: loops, laid · ConfigTexts: loops, laid.
  DERIVED. THE GIVEN ROWS OF THIS SEAT. 10 by the template 'for every input the law returns true; each argument reads behind the call as it read before'; 0 by the template 'total and deterministic' (their statements: YtdlcnihacaboiaaGreatDoorTotals.lean).
  GIVEN WITH THE SEED: the statements are not yours to turn. If you find one false, say at which input.
  Laid BY PROGRAM, IN A SANDBOX (cutbox-rows.mjs): the forced cells as the released guide's own fill.sh prints them over the translation be34c12acb76e6d2… (all of the seat's roots in one cut). By AI agents, Wed Nov 11 2026. No macro, syntax, notation, axiom, sorry.
-/
import Derived.Test.YtdlcnihacaboiaaGreatDoorChecked
import GoSem.Claim
import GoSem.ClaimJoined
import GoSem.ClaimMapViews
import Derived.JoinedTies
import Derived.KernelRfl
namespace Go.Proofs.YtdlcnihacaboiaaGreatDoor
/- THE CELL 'sum', in the pinned program and in every row, IS THE sha256 OF THE DUMP (.gsa) THAT YtdlcnihacaboiaaGreatDoorProg.lean LOADS. Nothing in Lean hashes anything: it is a label: what it is worth is what the hold of that sum in a sandbox is worth. -/
noncomputable def Tryz.pinned : Pinned := { name := "ytdlcnihacaboiaagreatdoor", sum := "be34c12acb76e6d2a6c8973a32017e1ae28fade9190f82ebd5d59c9b5e44462b", checked := Tryz.checked }
namespace Rows
def none {H : Type} : Left H := { results := [], args := [] }

/- WHAT THE LISTED PACKAGE-LEVEL VARIABLES READ AS WHEN THE CALL BEGINS. Each datum BY PROGRAM (the guide's laid-datum.mjs) off the statement by which the dump's own 'gosem.cut.vars' lays the variable. In a bare row this is a premise. The card (YtdlcnihacaboiaaGreatDoorCards.lean) ties it to the program's text. -/
def laid_math_bits_deBruijn32tab {H : Type} : DataW H := .agg [.lit (.int .u8 0), .lit (.int .u8 1), .lit (.int .u8 28), .lit (.int .u8 2), .lit (.int .u8 29), .lit (.int .u8 14), .lit (.int .u8 24), .lit (.int .u8 3), .lit (.int .u8 30), .lit (.int .u8 22), .lit (.int .u8 20), .lit (.int .u8 15), .lit (.int .u8 25), .lit (.int .u8 17), .lit (.int .u8 4), .lit (.int .u8 8), .lit (.int .u8 31), .lit (.int .u8 27), .lit (.int .u8 13), .lit (.int .u8 23), .lit (.int .u8 21), .lit (.int .u8 19), .lit (.int .u8 16), .lit (.int .u8 7), .lit (.int .u8 26), .lit (.int .u8 12), .lit (.int .u8 18), .lit (.int .u8 6), .lit (.int .u8 11), .lit (.int .u8 5), .lit (.int .u8 10), .lit (.int .u8 9)]
def laid_math_bits_deBruijn64tab {H : Type} : DataW H := .agg [.lit (.int .u8 0), .lit (.int .u8 1), .lit (.int .u8 56), .lit (.int .u8 2), .lit (.int .u8 57), .lit (.int .u8 49), .lit (.int .u8 28), .lit (.int .u8 3), .lit (.int .u8 61), .lit (.int .u8 58), .lit (.int .u8 42), .lit (.int .u8 50), .lit (.int .u8 38), .lit (.int .u8 29), .lit (.int .u8 17), .lit (.int .u8 4), .lit (.int .u8 62), .lit (.int .u8 47), .lit (.int .u8 59), .lit (.int .u8 36), .lit (.int .u8 45), .lit (.int .u8 43), .lit (.int .u8 51), .lit (.int .u8 22), .lit (.int .u8 53), .lit (.int .u8 39), .lit (.int .u8 33), .lit (.int .u8 30), .lit (.int .u8 24), .lit (.int .u8 18), .lit (.int .u8 12), .lit (.int .u8 5), .lit (.int .u8 63), .lit (.int .u8 55), .lit (.int .u8 48), .lit (.int .u8 27), .lit (.int .u8 60), .lit (.int .u8 41), .lit (.int .u8 37), .lit (.int .u8 16), .lit (.int .u8 46), .lit (.int .u8 35), .lit (.int .u8 44), .lit (.int .u8 21), .lit (.int .u8 52), .lit (.int .u8 32), .lit (.int .u8 23), .lit (.int .u8 11), .lit (.int .u8 54), .lit (.int .u8 26), .lit (.int .u8 40), .lit (.int .u8 15), .lit (.int .u8 34), .lit (.int .u8 20), .lit (.int .u8 31), .lit (.int .u8 10), .lit (.int .u8 25), .lit (.int .u8 14), .lit (.int .u8 19), .lit (.int .u8 9), .lit (.int .u8 13), .lit (.int .u8 8), .lit (.int .u8 7), .lit (.int .u8 6)]
def laid_internal_strconv_uint64pow10 {H : Type} : DataW H := .agg [.lit (.int .u64 1), .lit (.int .u64 10), .lit (.int .u64 100), .lit (.int .u64 1000), .lit (.int .u64 10000), .lit (.int .u64 100000), .lit (.int .u64 1000000), .lit (.int .u64 10000000), .lit (.int .u64 100000000), .lit (.int .u64 1000000000), .lit (.int .u64 10000000000), .lit (.int .u64 100000000000), .lit (.int .u64 1000000000000), .lit (.int .u64 10000000000000), .lit (.int .u64 100000000000000), .lit (.int .u64 1000000000000000), .lit (.int .u64 10000000000000000), .lit (.int .u64 100000000000000000), .lit (.int .u64 1000000000000000000), .lit (.int .u64 10000000000000000000)]
def laid_strconv_ErrRange {H : Type} : DataW H := .iface "*errors.errorString" (.ptr (.agg [.lit (.string [118, 97, 108, 117, 101, 32, 111, 117, 116, 32, 111, 102, 32, 114, 97, 110, 103, 101])]))
def laid_strconv_ErrSyntax {H : Type} : DataW H := .iface "*errors.errorString" (.ptr (.agg [.lit (.string [105, 110, 118, 97, 108, 105, 100, 32, 115, 121, 110, 116, 97, 120])]))

/-- 'duologuelaw16.SubstFree': WHATEVER THE INPUT: true; the input reads as it did. -/
def substFreeSpec : ChangeSpec := { name := "substFree", fn := fun _ => fun
  | [d] => { results := [.lit (.bool true)], args := [d] }
  | _ => none }
def substFreeRow : OpenClaim := { program := "ytdlcnihacaboiaagreatdoor", sum := "be34c12acb76e6d2a6c8973a32017e1ae28fade9190f82ebd5d59c9b5e44462b", func := "duologue/duologuelaw16.SubstFree", spec := "substFree", inPlace := ["maps.clone"], unfollowed := true, recurses := true, named := ["internal/strconv.uint64pow10", "math/bits.deBruijn32tab", "math/bits.deBruijn64tab"], loops := true, apart := false, laid := [("math/bits.deBruijn32tab", laid_math_bits_deBruijn32tab), ("math/bits.deBruijn64tab", laid_math_bits_deBruijn64tab), ("internal/strconv.uint64pow10", laid_internal_strconv_uint64pow10)] }
def SubstFreeSaid : Prop := substFreeRow.holds Tryz.pinned (OpenSpec.ofChange substFreeSpec)

/-- ITS FALSE NEIGHBOUR: 'it returns false'. Refute it at one input. -/
def substFreeWrong : ChangeSpec := { name := "substFree", fn := fun _ => fun
  | [d] => { results := [.lit (.bool false)], args := [d] }
  | _ => none }
def SubstFreeWrongFalsely : Prop := substFreeRow.holds Tryz.pinned (OpenSpec.ofChange substFreeWrong)

/-- 'duologuelaw16.SubstRenames': WHATEVER THE INPUT: true; the input reads as it did. -/
def substRenamesSpec : ChangeSpec := { name := "substRenames", fn := fun _ => fun
  | [d1, d2, d3] => { results := [.lit (.bool true)], args := [d1, d2, d3] }
  | _ => none }
def substRenamesRow : OpenClaim := { program := "ytdlcnihacaboiaagreatdoor", sum := "be34c12acb76e6d2a6c8973a32017e1ae28fade9190f82ebd5d59c9b5e44462b", func := "duologue/duologuelaw16.SubstRenames", spec := "substRenames", inPlace := ["maps.clone"], unfollowed := true, recurses := true, named := ["internal/strconv.uint64pow10", "math/bits.deBruijn32tab", "math/bits.deBruijn64tab"], loops := true, apart := false, laid := [("math/bits.deBruijn32tab", laid_math_bits_deBruijn32tab), ("math/bits.deBruijn64tab", laid_math_bits_deBruijn64tab), ("internal/strconv.uint64pow10", laid_internal_strconv_uint64pow10)] }
def SubstRenamesSaid : Prop := substRenamesRow.holds Tryz.pinned (OpenSpec.ofChange substRenamesSpec)

/-- ITS FALSE NEIGHBOUR: 'it returns false'. Refute it at one input. -/
def substRenamesWrong : ChangeSpec := { name := "substRenames", fn := fun _ => fun
  | [d1, d2, d3] => { results := [.lit (.bool false)], args := [d1, d2, d3] }
  | _ => none }
def SubstRenamesWrongFalsely : Prop := substRenamesRow.holds Tryz.pinned (OpenSpec.ofChange substRenamesWrong)

/-- 'duologuelaw24.WaitsMatchReference': WHATEVER THE INPUT: true; the input reads as it did. -/
def waitsMatchReferenceSpec : ChangeSpec := { name := "waitsMatchReference", fn := fun _ => fun
  | [d1, d2, d3] => { results := [.lit (.bool true)], args := [d1, d2, d3] }
  | _ => none }
def waitsMatchReferenceRow : OpenClaim := { program := "ytdlcnihacaboiaagreatdoor", sum := "be34c12acb76e6d2a6c8973a32017e1ae28fade9190f82ebd5d59c9b5e44462b", func := "duologue/duologuelaw24.WaitsMatchReference", spec := "waitsMatchReference", unfollowed := true, recurses := true, named := ["strconv.ErrSyntax", "strconv.ErrRange", "internal/strconv.uint64pow10", "math/bits.deBruijn32tab", "math/bits.deBruijn64tab"], loops := true, apart := false, laid := [("math/bits.deBruijn32tab", laid_math_bits_deBruijn32tab), ("math/bits.deBruijn64tab", laid_math_bits_deBruijn64tab), ("internal/strconv.uint64pow10", laid_internal_strconv_uint64pow10), ("strconv.ErrRange", laid_strconv_ErrRange), ("strconv.ErrSyntax", laid_strconv_ErrSyntax)] }
def WaitsMatchReferenceSaid : Prop := waitsMatchReferenceRow.holds Tryz.pinned (OpenSpec.ofChange waitsMatchReferenceSpec)

/-- ITS FALSE NEIGHBOUR: 'it returns false'. Refute it at one input. -/
def waitsMatchReferenceWrong : ChangeSpec := { name := "waitsMatchReference", fn := fun _ => fun
  | [d1, d2, d3] => { results := [.lit (.bool false)], args := [d1, d2, d3] }
  | _ => none }
def WaitsMatchReferenceWrongFalsely : Prop := waitsMatchReferenceRow.holds Tryz.pinned (OpenSpec.ofChange waitsMatchReferenceWrong)

/-- 'duologuelaw24.WaitsThreads': WHATEVER THE INPUT: true; the input reads as it did. -/
def waitsThreadsSpec : ChangeSpec := { name := "waitsThreads", fn := fun _ => fun
  | [d] => { results := [.lit (.bool true)], args := [d] }
  | _ => none }
def waitsThreadsRow : OpenClaim := { program := "ytdlcnihacaboiaagreatdoor", sum := "be34c12acb76e6d2a6c8973a32017e1ae28fade9190f82ebd5d59c9b5e44462b", func := "duologue/duologuelaw24.WaitsThreads", spec := "waitsThreads", unfollowed := true, recurses := true, named := ["strconv.ErrSyntax", "strconv.ErrRange", "internal/strconv.uint64pow10", "math/bits.deBruijn32tab", "math/bits.deBruijn64tab"], apart := false, laid := [("math/bits.deBruijn32tab", laid_math_bits_deBruijn32tab), ("math/bits.deBruijn64tab", laid_math_bits_deBruijn64tab), ("internal/strconv.uint64pow10", laid_internal_strconv_uint64pow10), ("strconv.ErrRange", laid_strconv_ErrRange), ("strconv.ErrSyntax", laid_strconv_ErrSyntax)] }
def WaitsThreadsSaid : Prop := waitsThreadsRow.holds Tryz.pinned (OpenSpec.ofChange waitsThreadsSpec)

/-- ITS FALSE NEIGHBOUR: 'it returns false'. Refute it at one input. -/
def waitsThreadsWrong : ChangeSpec := { name := "waitsThreads", fn := fun _ => fun
  | [d] => { results := [.lit (.bool false)], args := [d] }
  | _ => none }
def WaitsThreadsWrongFalsely : Prop := waitsThreadsRow.holds Tryz.pinned (OpenSpec.ofChange waitsThreadsWrong)

/-- 'duologuelaw24.WaitsExplain': WHATEVER THE INPUT: true; the input reads as it did. -/
def waitsExplainSpec : ChangeSpec := { name := "waitsExplain", fn := fun _ => fun
  | [d1, d2] => { results := [.lit (.bool true)], args := [d1, d2] }
  | _ => none }
def waitsExplainRow : OpenClaim := { program := "ytdlcnihacaboiaagreatdoor", sum := "be34c12acb76e6d2a6c8973a32017e1ae28fade9190f82ebd5d59c9b5e44462b", func := "duologue/duologuelaw24.WaitsExplain", spec := "waitsExplain", unfollowed := true, recurses := true, named := ["strconv.ErrSyntax", "strconv.ErrRange", "internal/strconv.uint64pow10", "math/bits.deBruijn32tab", "math/bits.deBruijn64tab"], loops := true, apart := false, laid := [("math/bits.deBruijn32tab", laid_math_bits_deBruijn32tab), ("math/bits.deBruijn64tab", laid_math_bits_deBruijn64tab), ("internal/strconv.uint64pow10", laid_internal_strconv_uint64pow10), ("strconv.ErrRange", laid_strconv_ErrRange), ("strconv.ErrSyntax", laid_strconv_ErrSyntax)] }
def WaitsExplainSaid : Prop := waitsExplainRow.holds Tryz.pinned (OpenSpec.ofChange waitsExplainSpec)

/-- ITS FALSE NEIGHBOUR: 'it returns false'. Refute it at one input. -/
def waitsExplainWrong : ChangeSpec := { name := "waitsExplain", fn := fun _ => fun
  | [d1, d2] => { results := [.lit (.bool false)], args := [d1, d2] }
  | _ => none }
def WaitsExplainWrongFalsely : Prop := waitsExplainRow.holds Tryz.pinned (OpenSpec.ofChange waitsExplainWrong)

/-- 'duologuelaw24.WaitsAccepted': WHATEVER THE INPUT: true; the input reads as it did. -/
def waitsAcceptedSpec : ChangeSpec := { name := "waitsAccepted", fn := fun _ => fun
  | [d1, d2] => { results := [.lit (.bool true)], args := [d1, d2] }
  | _ => none }
def waitsAcceptedRow : OpenClaim := { program := "ytdlcnihacaboiaagreatdoor", sum := "be34c12acb76e6d2a6c8973a32017e1ae28fade9190f82ebd5d59c9b5e44462b", func := "duologue/duologuelaw24.WaitsAccepted", spec := "waitsAccepted", unfollowed := true, recurses := true, named := ["strconv.ErrSyntax", "strconv.ErrRange", "internal/strconv.uint64pow10", "math/bits.deBruijn32tab", "math/bits.deBruijn64tab"], loops := true, apart := false, laid := [("math/bits.deBruijn32tab", laid_math_bits_deBruijn32tab), ("math/bits.deBruijn64tab", laid_math_bits_deBruijn64tab), ("internal/strconv.uint64pow10", laid_internal_strconv_uint64pow10), ("strconv.ErrRange", laid_strconv_ErrRange), ("strconv.ErrSyntax", laid_strconv_ErrSyntax)] }
def WaitsAcceptedSaid : Prop := waitsAcceptedRow.holds Tryz.pinned (OpenSpec.ofChange waitsAcceptedSpec)

/-- ITS FALSE NEIGHBOUR: 'it returns false'. Refute it at one input. -/
def waitsAcceptedWrong : ChangeSpec := { name := "waitsAccepted", fn := fun _ => fun
  | [d1, d2] => { results := [.lit (.bool false)], args := [d1, d2] }
  | _ => none }
def WaitsAcceptedWrongFalsely : Prop := waitsAcceptedRow.holds Tryz.pinned (OpenSpec.ofChange waitsAcceptedWrong)

/-- 'duologuelaw24.WaitsMeet': WHATEVER THE INPUT: true; the input reads as it did. -/
def waitsMeetSpec : ChangeSpec := { name := "waitsMeet", fn := fun _ => fun
  | [d] => { results := [.lit (.bool true)], args := [d] }
  | _ => none }
def waitsMeetRow : OpenClaim := { program := "ytdlcnihacaboiaagreatdoor", sum := "be34c12acb76e6d2a6c8973a32017e1ae28fade9190f82ebd5d59c9b5e44462b", func := "duologue/duologuelaw24.WaitsMeet", spec := "waitsMeet", unfollowed := true, recurses := true, named := ["strconv.ErrSyntax", "strconv.ErrRange", "internal/strconv.uint64pow10", "math/bits.deBruijn32tab", "math/bits.deBruijn64tab"], apart := false, laid := [("math/bits.deBruijn32tab", laid_math_bits_deBruijn32tab), ("math/bits.deBruijn64tab", laid_math_bits_deBruijn64tab), ("internal/strconv.uint64pow10", laid_internal_strconv_uint64pow10), ("strconv.ErrRange", laid_strconv_ErrRange), ("strconv.ErrSyntax", laid_strconv_ErrSyntax)] }
def WaitsMeetSaid : Prop := waitsMeetRow.holds Tryz.pinned (OpenSpec.ofChange waitsMeetSpec)

/-- ITS FALSE NEIGHBOUR: 'it returns false'. Refute it at one input. -/
def waitsMeetWrong : ChangeSpec := { name := "waitsMeet", fn := fun _ => fun
  | [d] => { results := [.lit (.bool false)], args := [d] }
  | _ => none }
def WaitsMeetWrongFalsely : Prop := waitsMeetRow.holds Tryz.pinned (OpenSpec.ofChange waitsMeetWrong)

/-- 'duologuelaw17.ConfigFlattens': WHATEVER THE INPUT: true; the input reads as it did. -/
def configFlattensSpec : ChangeSpec := { name := "configFlattens", fn := fun _ => fun
  | [d] => { results := [.lit (.bool true)], args := [d] }
  | _ => none }
def configFlattensRow : OpenClaim := { program := "ytdlcnihacaboiaagreatdoor", sum := "be34c12acb76e6d2a6c8973a32017e1ae28fade9190f82ebd5d59c9b5e44462b", func := "duologue/duologuelaw17.ConfigFlattens", spec := "configFlattens", inPlace := ["maps.clone", "internal/abi.NoEscape", "internal/bytealg.MakeNoZero"], unfollowed := true, recurses := true, named := ["internal/strconv.uint64pow10", "math/bits.deBruijn32tab", "math/bits.deBruijn64tab", "strconv.ErrSyntax", "strconv.ErrRange"], loops := true, apart := false, laid := [("math/bits.deBruijn32tab", laid_math_bits_deBruijn32tab), ("math/bits.deBruijn64tab", laid_math_bits_deBruijn64tab), ("internal/strconv.uint64pow10", laid_internal_strconv_uint64pow10), ("strconv.ErrRange", laid_strconv_ErrRange), ("strconv.ErrSyntax", laid_strconv_ErrSyntax)] }
def ConfigFlattensSaid : Prop := configFlattensRow.holds Tryz.pinned (OpenSpec.ofChange configFlattensSpec)

/-- ITS FALSE NEIGHBOUR: 'it returns false'. Refute it at one input. -/
def configFlattensWrong : ChangeSpec := { name := "configFlattens", fn := fun _ => fun
  | [d] => { results := [.lit (.bool false)], args := [d] }
  | _ => none }
def ConfigFlattensWrongFalsely : Prop := configFlattensRow.holds Tryz.pinned (OpenSpec.ofChange configFlattensWrong)

/-- 'duologuelaw17.ConfigCounts': WHATEVER THE INPUT: true; the input reads as it did. -/
def configCountsSpec : ChangeSpec := { name := "configCounts", fn := fun _ => fun
  | [d] => { results := [.lit (.bool true)], args := [d] }
  | _ => none }
def configCountsRow : OpenClaim := { program := "ytdlcnihacaboiaagreatdoor", sum := "be34c12acb76e6d2a6c8973a32017e1ae28fade9190f82ebd5d59c9b5e44462b", func := "duologue/duologuelaw17.ConfigCounts", spec := "configCounts", inPlace := ["maps.clone", "internal/abi.NoEscape", "internal/bytealg.MakeNoZero"], unfollowed := true, recurses := true, named := ["internal/strconv.uint64pow10", "math/bits.deBruijn32tab", "math/bits.deBruijn64tab", "strconv.ErrSyntax", "strconv.ErrRange"], loops := true, apart := false, laid := [("math/bits.deBruijn32tab", laid_math_bits_deBruijn32tab), ("math/bits.deBruijn64tab", laid_math_bits_deBruijn64tab), ("internal/strconv.uint64pow10", laid_internal_strconv_uint64pow10), ("strconv.ErrRange", laid_strconv_ErrRange), ("strconv.ErrSyntax", laid_strconv_ErrSyntax)] }
def ConfigCountsSaid : Prop := configCountsRow.holds Tryz.pinned (OpenSpec.ofChange configCountsSpec)

/-- ITS FALSE NEIGHBOUR: 'it returns false'. Refute it at one input. -/
def configCountsWrong : ChangeSpec := { name := "configCounts", fn := fun _ => fun
  | [d] => { results := [.lit (.bool false)], args := [d] }
  | _ => none }
def ConfigCountsWrongFalsely : Prop := configCountsRow.holds Tryz.pinned (OpenSpec.ofChange configCountsWrong)

/-- 'duologuelaw17.ConfigTexts': WHATEVER THE INPUT: true; the input reads as it did. -/
def configTextsSpec : ChangeSpec := { name := "configTexts", fn := fun _ => fun
  | [d1, d2] => { results := [.lit (.bool true)], args := [d1, d2] }
  | _ => none }
def configTextsRow : OpenClaim := { program := "ytdlcnihacaboiaagreatdoor", sum := "be34c12acb76e6d2a6c8973a32017e1ae28fade9190f82ebd5d59c9b5e44462b", func := "duologue/duologuelaw17.ConfigTexts", spec := "configTexts", inPlace := ["maps.clone", "internal/abi.NoEscape", "internal/bytealg.MakeNoZero"], unfollowed := true, recurses := true, named := ["internal/strconv.uint64pow10", "math/bits.deBruijn32tab", "math/bits.deBruijn64tab", "strconv.ErrSyntax", "strconv.ErrRange"], loops := true, apart := false, laid := [("math/bits.deBruijn32tab", laid_math_bits_deBruijn32tab), ("math/bits.deBruijn64tab", laid_math_bits_deBruijn64tab), ("internal/strconv.uint64pow10", laid_internal_strconv_uint64pow10), ("strconv.ErrRange", laid_strconv_ErrRange), ("strconv.ErrSyntax", laid_strconv_ErrSyntax)] }
def ConfigTextsSaid : Prop := configTextsRow.holds Tryz.pinned (OpenSpec.ofChange configTextsSpec)

/-- ITS FALSE NEIGHBOUR: 'it returns false'. Refute it at one input. -/
def configTextsWrong : ChangeSpec := { name := "configTexts", fn := fun _ => fun
  | [d1, d2] => { results := [.lit (.bool false)], args := [d1, d2] }
  | _ => none }
def ConfigTextsWrongFalsely : Prop := configTextsRow.holds Tryz.pinned (OpenSpec.ofChange configTextsWrong)

/- THE SECOND FORM. 'bulk': how many values and letters a reading holds, each counted each time it is reached (what is shared counts as often as it is met; a slice's spare places count too). A statement '..UptoSaid' is the law's where the arguments, and the package variables that the reading takes, are together of bulk at most 1048576: NARROWER than '..Said'. Prove '..Said' where nothing that the law and all that it calls make is longer than what came in: it says more and counts as full. Else prove '..UptoSaid'. A law counts once. -/
mutual
def uptoBulk {H : Type} : DataW H → Nat
  | .lit (.string bytes) => bytes.length + 1
  | .lit _ => 1
  | .nil => 1
  | .ptr d => uptoBulk d + 1
  | .slice elems spare => uptoBulkAll elems + uptoBulkAll spare + 1
  | .agg parts => uptoBulkAll parts + 1
  | .iface _ d => uptoBulk d + 1
  | .map entries => uptoBulkEntries entries + 1
  | .held _ => 1
def uptoBulkAll {H : Type} : List (DataW H) → Nat
  | [] => 0
  | d :: r => uptoBulk d + uptoBulkAll r
def uptoBulkEntries {H : Type} : List (Lit × DataW H) → Nat
  | [] => 0
  | x :: r => uptoBulkEntry x + uptoBulkEntries r
def uptoBulkEntry {H : Type} : Lit × DataW H → Nat
  | (.string bytes, d) => bytes.length + uptoBulk d + 1
  | (_, d) => uptoBulk d + 1
 end
def uptoSmall : (H : Type) → List (DataW H) → Bool := fun _ ds => decide (uptoBulkAll ds ≤ 1048576)
def OpenSpec.upto (s : _root_.Go.ChangeSpec) : _root_.Go.OpenSpec := { _root_.Go.OpenSpec.ofChange s with cond := some uptoSmall }

/-- 'duologuelaw16.SubstFree', WHERE WHAT IT READS IS OF BULK AT MOST 1048576: true; the input reads as it did. -/
def substFreeUptoRow : OpenClaim := { program := "ytdlcnihacaboiaagreatdoor", sum := "be34c12acb76e6d2a6c8973a32017e1ae28fade9190f82ebd5d59c9b5e44462b", func := "duologue/duologuelaw16.SubstFree", spec := "substFree", inPlace := ["maps.clone"], unfollowed := true, recurses := true, named := ["internal/strconv.uint64pow10", "math/bits.deBruijn32tab", "math/bits.deBruijn64tab"], loops := true, apart := false, laid := [("math/bits.deBruijn32tab", laid_math_bits_deBruijn32tab), ("math/bits.deBruijn64tab", laid_math_bits_deBruijn64tab), ("internal/strconv.uint64pow10", laid_internal_strconv_uint64pow10)], narrowed := true }
def SubstFreeUptoSaid : Prop := substFreeUptoRow.holds Tryz.pinned (OpenSpec.upto substFreeSpec)

/-- 'duologuelaw16.SubstRenames', WHERE WHAT IT READS IS OF BULK AT MOST 1048576: true; the input reads as it did. -/
def substRenamesUptoRow : OpenClaim := { program := "ytdlcnihacaboiaagreatdoor", sum := "be34c12acb76e6d2a6c8973a32017e1ae28fade9190f82ebd5d59c9b5e44462b", func := "duologue/duologuelaw16.SubstRenames", spec := "substRenames", inPlace := ["maps.clone"], unfollowed := true, recurses := true, named := ["internal/strconv.uint64pow10", "math/bits.deBruijn32tab", "math/bits.deBruijn64tab"], loops := true, apart := false, laid := [("math/bits.deBruijn32tab", laid_math_bits_deBruijn32tab), ("math/bits.deBruijn64tab", laid_math_bits_deBruijn64tab), ("internal/strconv.uint64pow10", laid_internal_strconv_uint64pow10)], narrowed := true }
def SubstRenamesUptoSaid : Prop := substRenamesUptoRow.holds Tryz.pinned (OpenSpec.upto substRenamesSpec)

/-- 'duologuelaw24.WaitsMatchReference', WHERE WHAT IT READS IS OF BULK AT MOST 1048576: true; the input reads as it did. -/
def waitsMatchReferenceUptoRow : OpenClaim := { program := "ytdlcnihacaboiaagreatdoor", sum := "be34c12acb76e6d2a6c8973a32017e1ae28fade9190f82ebd5d59c9b5e44462b", func := "duologue/duologuelaw24.WaitsMatchReference", spec := "waitsMatchReference", unfollowed := true, recurses := true, named := ["strconv.ErrSyntax", "strconv.ErrRange", "internal/strconv.uint64pow10", "math/bits.deBruijn32tab", "math/bits.deBruijn64tab"], loops := true, apart := false, laid := [("math/bits.deBruijn32tab", laid_math_bits_deBruijn32tab), ("math/bits.deBruijn64tab", laid_math_bits_deBruijn64tab), ("internal/strconv.uint64pow10", laid_internal_strconv_uint64pow10), ("strconv.ErrRange", laid_strconv_ErrRange), ("strconv.ErrSyntax", laid_strconv_ErrSyntax)], narrowed := true }
def WaitsMatchReferenceUptoSaid : Prop := waitsMatchReferenceUptoRow.holds Tryz.pinned (OpenSpec.upto waitsMatchReferenceSpec)

/-- 'duologuelaw24.WaitsThreads', WHERE WHAT IT READS IS OF BULK AT MOST 1048576: true; the input reads as it did. -/
def waitsThreadsUptoRow : OpenClaim := { program := "ytdlcnihacaboiaagreatdoor", sum := "be34c12acb76e6d2a6c8973a32017e1ae28fade9190f82ebd5d59c9b5e44462b", func := "duologue/duologuelaw24.WaitsThreads", spec := "waitsThreads", unfollowed := true, recurses := true, named := ["strconv.ErrSyntax", "strconv.ErrRange", "internal/strconv.uint64pow10", "math/bits.deBruijn32tab", "math/bits.deBruijn64tab"], apart := false, laid := [("math/bits.deBruijn32tab", laid_math_bits_deBruijn32tab), ("math/bits.deBruijn64tab", laid_math_bits_deBruijn64tab), ("internal/strconv.uint64pow10", laid_internal_strconv_uint64pow10), ("strconv.ErrRange", laid_strconv_ErrRange), ("strconv.ErrSyntax", laid_strconv_ErrSyntax)], narrowed := true }
def WaitsThreadsUptoSaid : Prop := waitsThreadsUptoRow.holds Tryz.pinned (OpenSpec.upto waitsThreadsSpec)

/-- 'duologuelaw24.WaitsExplain', WHERE WHAT IT READS IS OF BULK AT MOST 1048576: true; the input reads as it did. -/
def waitsExplainUptoRow : OpenClaim := { program := "ytdlcnihacaboiaagreatdoor", sum := "be34c12acb76e6d2a6c8973a32017e1ae28fade9190f82ebd5d59c9b5e44462b", func := "duologue/duologuelaw24.WaitsExplain", spec := "waitsExplain", unfollowed := true, recurses := true, named := ["strconv.ErrSyntax", "strconv.ErrRange", "internal/strconv.uint64pow10", "math/bits.deBruijn32tab", "math/bits.deBruijn64tab"], loops := true, apart := false, laid := [("math/bits.deBruijn32tab", laid_math_bits_deBruijn32tab), ("math/bits.deBruijn64tab", laid_math_bits_deBruijn64tab), ("internal/strconv.uint64pow10", laid_internal_strconv_uint64pow10), ("strconv.ErrRange", laid_strconv_ErrRange), ("strconv.ErrSyntax", laid_strconv_ErrSyntax)], narrowed := true }
def WaitsExplainUptoSaid : Prop := waitsExplainUptoRow.holds Tryz.pinned (OpenSpec.upto waitsExplainSpec)

/-- 'duologuelaw24.WaitsAccepted', WHERE WHAT IT READS IS OF BULK AT MOST 1048576: true; the input reads as it did. -/
def waitsAcceptedUptoRow : OpenClaim := { program := "ytdlcnihacaboiaagreatdoor", sum := "be34c12acb76e6d2a6c8973a32017e1ae28fade9190f82ebd5d59c9b5e44462b", func := "duologue/duologuelaw24.WaitsAccepted", spec := "waitsAccepted", unfollowed := true, recurses := true, named := ["strconv.ErrSyntax", "strconv.ErrRange", "internal/strconv.uint64pow10", "math/bits.deBruijn32tab", "math/bits.deBruijn64tab"], loops := true, apart := false, laid := [("math/bits.deBruijn32tab", laid_math_bits_deBruijn32tab), ("math/bits.deBruijn64tab", laid_math_bits_deBruijn64tab), ("internal/strconv.uint64pow10", laid_internal_strconv_uint64pow10), ("strconv.ErrRange", laid_strconv_ErrRange), ("strconv.ErrSyntax", laid_strconv_ErrSyntax)], narrowed := true }
def WaitsAcceptedUptoSaid : Prop := waitsAcceptedUptoRow.holds Tryz.pinned (OpenSpec.upto waitsAcceptedSpec)

/-- 'duologuelaw24.WaitsMeet', WHERE WHAT IT READS IS OF BULK AT MOST 1048576: true; the input reads as it did. -/
def waitsMeetUptoRow : OpenClaim := { program := "ytdlcnihacaboiaagreatdoor", sum := "be34c12acb76e6d2a6c8973a32017e1ae28fade9190f82ebd5d59c9b5e44462b", func := "duologue/duologuelaw24.WaitsMeet", spec := "waitsMeet", unfollowed := true, recurses := true, named := ["strconv.ErrSyntax", "strconv.ErrRange", "internal/strconv.uint64pow10", "math/bits.deBruijn32tab", "math/bits.deBruijn64tab"], apart := false, laid := [("math/bits.deBruijn32tab", laid_math_bits_deBruijn32tab), ("math/bits.deBruijn64tab", laid_math_bits_deBruijn64tab), ("internal/strconv.uint64pow10", laid_internal_strconv_uint64pow10), ("strconv.ErrRange", laid_strconv_ErrRange), ("strconv.ErrSyntax", laid_strconv_ErrSyntax)], narrowed := true }
def WaitsMeetUptoSaid : Prop := waitsMeetUptoRow.holds Tryz.pinned (OpenSpec.upto waitsMeetSpec)

/-- 'duologuelaw17.ConfigFlattens', WHERE WHAT IT READS IS OF BULK AT MOST 1048576: true; the input reads as it did. -/
def configFlattensUptoRow : OpenClaim := { program := "ytdlcnihacaboiaagreatdoor", sum := "be34c12acb76e6d2a6c8973a32017e1ae28fade9190f82ebd5d59c9b5e44462b", func := "duologue/duologuelaw17.ConfigFlattens", spec := "configFlattens", inPlace := ["maps.clone", "internal/abi.NoEscape", "internal/bytealg.MakeNoZero"], unfollowed := true, recurses := true, named := ["internal/strconv.uint64pow10", "math/bits.deBruijn32tab", "math/bits.deBruijn64tab", "strconv.ErrSyntax", "strconv.ErrRange"], loops := true, apart := false, laid := [("math/bits.deBruijn32tab", laid_math_bits_deBruijn32tab), ("math/bits.deBruijn64tab", laid_math_bits_deBruijn64tab), ("internal/strconv.uint64pow10", laid_internal_strconv_uint64pow10), ("strconv.ErrRange", laid_strconv_ErrRange), ("strconv.ErrSyntax", laid_strconv_ErrSyntax)], narrowed := true }
def ConfigFlattensUptoSaid : Prop := configFlattensUptoRow.holds Tryz.pinned (OpenSpec.upto configFlattensSpec)

/-- 'duologuelaw17.ConfigCounts', WHERE WHAT IT READS IS OF BULK AT MOST 1048576: true; the input reads as it did. -/
def configCountsUptoRow : OpenClaim := { program := "ytdlcnihacaboiaagreatdoor", sum := "be34c12acb76e6d2a6c8973a32017e1ae28fade9190f82ebd5d59c9b5e44462b", func := "duologue/duologuelaw17.ConfigCounts", spec := "configCounts", inPlace := ["maps.clone", "internal/abi.NoEscape", "internal/bytealg.MakeNoZero"], unfollowed := true, recurses := true, named := ["internal/strconv.uint64pow10", "math/bits.deBruijn32tab", "math/bits.deBruijn64tab", "strconv.ErrSyntax", "strconv.ErrRange"], loops := true, apart := false, laid := [("math/bits.deBruijn32tab", laid_math_bits_deBruijn32tab), ("math/bits.deBruijn64tab", laid_math_bits_deBruijn64tab), ("internal/strconv.uint64pow10", laid_internal_strconv_uint64pow10), ("strconv.ErrRange", laid_strconv_ErrRange), ("strconv.ErrSyntax", laid_strconv_ErrSyntax)], narrowed := true }
def ConfigCountsUptoSaid : Prop := configCountsUptoRow.holds Tryz.pinned (OpenSpec.upto configCountsSpec)

/-- 'duologuelaw17.ConfigTexts', WHERE WHAT IT READS IS OF BULK AT MOST 1048576: true; the input reads as it did. -/
def configTextsUptoRow : OpenClaim := { program := "ytdlcnihacaboiaagreatdoor", sum := "be34c12acb76e6d2a6c8973a32017e1ae28fade9190f82ebd5d59c9b5e44462b", func := "duologue/duologuelaw17.ConfigTexts", spec := "configTexts", inPlace := ["maps.clone", "internal/abi.NoEscape", "internal/bytealg.MakeNoZero"], unfollowed := true, recurses := true, named := ["internal/strconv.uint64pow10", "math/bits.deBruijn32tab", "math/bits.deBruijn64tab", "strconv.ErrSyntax", "strconv.ErrRange"], loops := true, apart := false, laid := [("math/bits.deBruijn32tab", laid_math_bits_deBruijn32tab), ("math/bits.deBruijn64tab", laid_math_bits_deBruijn64tab), ("internal/strconv.uint64pow10", laid_internal_strconv_uint64pow10), ("strconv.ErrRange", laid_strconv_ErrRange), ("strconv.ErrSyntax", laid_strconv_ErrSyntax)], narrowed := true }
def ConfigTextsUptoSaid : Prop := configTextsUptoRow.holds Tryz.pinned (OpenSpec.upto configTextsSpec)

end Rows
end Go.Proofs.YtdlcnihacaboiaaGreatDoor
