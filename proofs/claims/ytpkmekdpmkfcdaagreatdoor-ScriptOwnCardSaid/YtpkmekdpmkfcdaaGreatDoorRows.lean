/-
  NARROWER THAN 'FOR EVERY INPUT', by the rows' own cells (each row's printed sentence says how): ScriptChanges: laid · ScriptOwn: laid · ScriptParses: laid · ScriptRound: laid · ScriptCanon: laid · ScriptNoise: laid · ScriptFault: laid.
  DERIVED. THE GIVEN ROWS OF THIS SEAT. 7 by the template 'for every input the law returns true; each argument reads behind the call as it read before'; 0 by the template 'total and deterministic' (their statements: YtpkmekdpmkfcdaaGreatDoorTotals.lean).
  GIVEN WITH THE SEED: the statements are not yours to turn. If you find one false, say at which input.
  Laid BY PROGRAM, IN A SANDBOX (cutbox-rows.mjs): the forced cells as the released guide's own fill.sh prints them over the translation 264f08ad25a778ea… (all of the seat's roots in one cut). By AI agents, Wed Nov 11 2026. No macro, syntax, notation, axiom, sorry.
-/
import Derived.Test.YtpkmekdpmkfcdaaGreatDoorChecked
import GoSem.Claim
import GoSem.ClaimJoined
import GoSem.ClaimMapViews
import Derived.JoinedTies
import Derived.KernelRfl
namespace Go.Proofs.YtpkmekdpmkfcdaaGreatDoor
/- THE CELL 'sum', in the pinned program and in every row, IS THE sha256 OF THE DUMP (.gsa) THAT YtpkmekdpmkfcdaaGreatDoorProg.lean LOADS. Nothing in Lean hashes anything: it is a label: what it is worth is what the hold of that sum in a sandbox is worth. -/
noncomputable def Tryz.pinned : Pinned := { name := "ytpkmekdpmkfcdaagreatdoor", sum := "264f08ad25a778ea3d1993868e0f9afdec96f325eb57f866a3843fc0ab841acf", checked := Tryz.checked }
namespace Rows
def none {H : Type} : Left H := { results := [], args := [] }

/- WHAT THE LISTED PACKAGE-LEVEL VARIABLES READ AS WHEN THE CALL BEGINS. Each datum BY PROGRAM (the guide's laid-datum.mjs) off the statement by which the dump's own 'gosem.cut.vars' lays the variable. In a bare row this is a premise. The card (YtpkmekdpmkfcdaaGreatDoorCards.lean) ties it to the program's text. -/
def laid_math_bits_deBruijn32tab {H : Type} : DataW H := .agg [.lit (.int .u8 0), .lit (.int .u8 1), .lit (.int .u8 28), .lit (.int .u8 2), .lit (.int .u8 29), .lit (.int .u8 14), .lit (.int .u8 24), .lit (.int .u8 3), .lit (.int .u8 30), .lit (.int .u8 22), .lit (.int .u8 20), .lit (.int .u8 15), .lit (.int .u8 25), .lit (.int .u8 17), .lit (.int .u8 4), .lit (.int .u8 8), .lit (.int .u8 31), .lit (.int .u8 27), .lit (.int .u8 13), .lit (.int .u8 23), .lit (.int .u8 21), .lit (.int .u8 19), .lit (.int .u8 16), .lit (.int .u8 7), .lit (.int .u8 26), .lit (.int .u8 12), .lit (.int .u8 18), .lit (.int .u8 6), .lit (.int .u8 11), .lit (.int .u8 5), .lit (.int .u8 10), .lit (.int .u8 9)]
def laid_math_bits_deBruijn64tab {H : Type} : DataW H := .agg [.lit (.int .u8 0), .lit (.int .u8 1), .lit (.int .u8 56), .lit (.int .u8 2), .lit (.int .u8 57), .lit (.int .u8 49), .lit (.int .u8 28), .lit (.int .u8 3), .lit (.int .u8 61), .lit (.int .u8 58), .lit (.int .u8 42), .lit (.int .u8 50), .lit (.int .u8 38), .lit (.int .u8 29), .lit (.int .u8 17), .lit (.int .u8 4), .lit (.int .u8 62), .lit (.int .u8 47), .lit (.int .u8 59), .lit (.int .u8 36), .lit (.int .u8 45), .lit (.int .u8 43), .lit (.int .u8 51), .lit (.int .u8 22), .lit (.int .u8 53), .lit (.int .u8 39), .lit (.int .u8 33), .lit (.int .u8 30), .lit (.int .u8 24), .lit (.int .u8 18), .lit (.int .u8 12), .lit (.int .u8 5), .lit (.int .u8 63), .lit (.int .u8 55), .lit (.int .u8 48), .lit (.int .u8 27), .lit (.int .u8 60), .lit (.int .u8 41), .lit (.int .u8 37), .lit (.int .u8 16), .lit (.int .u8 46), .lit (.int .u8 35), .lit (.int .u8 44), .lit (.int .u8 21), .lit (.int .u8 52), .lit (.int .u8 32), .lit (.int .u8 23), .lit (.int .u8 11), .lit (.int .u8 54), .lit (.int .u8 26), .lit (.int .u8 40), .lit (.int .u8 15), .lit (.int .u8 34), .lit (.int .u8 20), .lit (.int .u8 31), .lit (.int .u8 10), .lit (.int .u8 25), .lit (.int .u8 14), .lit (.int .u8 19), .lit (.int .u8 9), .lit (.int .u8 13), .lit (.int .u8 8), .lit (.int .u8 7), .lit (.int .u8 6)]
def laid_internal_strconv_uint64pow10 {H : Type} : DataW H := .agg [.lit (.int .u64 1), .lit (.int .u64 10), .lit (.int .u64 100), .lit (.int .u64 1000), .lit (.int .u64 10000), .lit (.int .u64 100000), .lit (.int .u64 1000000), .lit (.int .u64 10000000), .lit (.int .u64 100000000), .lit (.int .u64 1000000000), .lit (.int .u64 10000000000), .lit (.int .u64 100000000000), .lit (.int .u64 1000000000000), .lit (.int .u64 10000000000000), .lit (.int .u64 100000000000000), .lit (.int .u64 1000000000000000), .lit (.int .u64 10000000000000000), .lit (.int .u64 100000000000000000), .lit (.int .u64 1000000000000000000), .lit (.int .u64 10000000000000000000)]
def laid_strconv_ErrRange {H : Type} : DataW H := .iface "*errors.errorString" (.ptr (.agg [.lit (.string [118, 97, 108, 117, 101, 32, 111, 117, 116, 32, 111, 102, 32, 114, 97, 110, 103, 101])]))
def laid_strconv_ErrSyntax {H : Type} : DataW H := .iface "*errors.errorString" (.ptr (.agg [.lit (.string [105, 110, 118, 97, 108, 105, 100, 32, 115, 121, 110, 116, 97, 120])]))
def laid_culvert_script_steps {H : Type} : DataW H := .agg [.agg [.lit (.string [99, 111, 109, 109, 105, 116]), .lit (.string [65, 67])], .agg [.lit (.string [115, 101, 110, 100]), .lit (.string [65, 72])], .agg [.lit (.string [114, 101, 107, 101, 121]), .lit (.string [65, 76])], .agg [.lit (.string [116, 105, 99, 107]), .lit (.string [65, 83])], .agg [.lit (.string [103, 105, 118, 101]), .lit (.string [75])], .agg [.lit (.string [100, 114, 111, 112]), .lit (.string [75])], .agg [.lit (.string [99, 111, 112, 121]), .lit (.string [75])], .agg [.lit (.string [102, 108, 105, 112]), .lit (.string [75, 84, 88])], .agg [.lit (.string [106, 117, 110, 107]), .lit (.string [65, 72])], .agg [.lit (.string [97, 114, 109]), .lit (.string [65, 70])], .agg [.lit (.string [99, 114, 97, 115, 104]), .lit (.string [65, 66])], .agg [.lit (.string [98, 111, 111, 116]), .lit (.string [65, 98, 119])], .agg [.lit (.string [108, 111, 111, 107]), .lit (.string [65])], .agg [.lit (.string [114, 117, 110]), .lit (.string [75])]]
def laid_culvert_script_changes {H : Type} : DataW H := .agg [.agg [.lit (.string [97, 100, 100]), .lit (.string [76, 72, 83])], .agg [.lit (.string [114, 101, 109, 111, 118, 101]), .lit (.string [76])], .agg [.lit (.string [115, 101, 116, 107, 101, 121]), .lit (.string [76, 72, 83])], .agg [.lit (.string [97, 108, 108, 111, 119]), .lit (.string [76, 80])], .agg [.lit (.string [100, 101, 110, 121]), .lit (.string [76, 80])]]

/-- 'culvertlaw22.ScriptChanges': WHATEVER THE INPUT: true; the input reads as it did. -/
def scriptChangesSpec : ChangeSpec := { name := "scriptChanges", fn := fun _ => fun
  | [d1, d2] => { results := [.lit (.bool true)], args := [d1, d2] }
  | _ => none }
def scriptChangesRow : OpenClaim := { program := "ytpkmekdpmkfcdaagreatdoor", sum := "264f08ad25a778ea3d1993868e0f9afdec96f325eb57f866a3843fc0ab841acf", func := "culvert/culvertlaw22.ScriptChanges", spec := "scriptChanges", inPlace := ["internal/abi.NoEscape", "internal/bytealg.MakeNoZero", "internal/bytealg.IndexByteString", "internal/bytealg.IndexString"], unfollowed := true, recurses := true, named := ["internal/strconv.uint64pow10", "math/bits.deBruijn32tab", "math/bits.deBruijn64tab", "culvert/script.steps", "culvert/script.changes", "internal/bytealg.MaxLen", "strconv.ErrSyntax", "strconv.ErrRange"], apart := false, laid := [("math/bits.deBruijn32tab", laid_math_bits_deBruijn32tab), ("math/bits.deBruijn64tab", laid_math_bits_deBruijn64tab), ("internal/strconv.uint64pow10", laid_internal_strconv_uint64pow10), ("strconv.ErrRange", laid_strconv_ErrRange), ("strconv.ErrSyntax", laid_strconv_ErrSyntax), ("culvert/script.steps", laid_culvert_script_steps), ("culvert/script.changes", laid_culvert_script_changes)] }
def ScriptChangesSaid : Prop := scriptChangesRow.holds Tryz.pinned (OpenSpec.ofChange scriptChangesSpec)

/-- ITS FALSE NEIGHBOUR: 'it returns false'. Refute it at one input. -/
def scriptChangesWrong : ChangeSpec := { name := "scriptChanges", fn := fun _ => fun
  | [d1, d2] => { results := [.lit (.bool false)], args := [d1, d2] }
  | _ => none }
def ScriptChangesWrongFalsely : Prop := scriptChangesRow.holds Tryz.pinned (OpenSpec.ofChange scriptChangesWrong)

/-- 'culvertlaw22.ScriptOwn': WHATEVER THE INPUT: true; the input reads as it did. -/
def scriptOwnSpec : ChangeSpec := { name := "scriptOwn", fn := fun _ => fun
  | [d1, d2] => { results := [.lit (.bool true)], args := [d1, d2] }
  | _ => none }
def scriptOwnRow : OpenClaim := { program := "ytpkmekdpmkfcdaagreatdoor", sum := "264f08ad25a778ea3d1993868e0f9afdec96f325eb57f866a3843fc0ab841acf", func := "culvert/culvertlaw22.ScriptOwn", spec := "scriptOwn", inPlace := ["internal/abi.NoEscape", "internal/bytealg.MakeNoZero", "internal/bytealg.IndexByteString", "internal/bytealg.IndexString"], unfollowed := true, recurses := true, named := ["internal/strconv.uint64pow10", "math/bits.deBruijn32tab", "math/bits.deBruijn64tab", "culvert/script.steps", "culvert/script.changes", "internal/bytealg.MaxLen", "strconv.ErrSyntax", "strconv.ErrRange"], apart := false, laid := [("math/bits.deBruijn32tab", laid_math_bits_deBruijn32tab), ("math/bits.deBruijn64tab", laid_math_bits_deBruijn64tab), ("internal/strconv.uint64pow10", laid_internal_strconv_uint64pow10), ("strconv.ErrRange", laid_strconv_ErrRange), ("strconv.ErrSyntax", laid_strconv_ErrSyntax), ("culvert/script.steps", laid_culvert_script_steps), ("culvert/script.changes", laid_culvert_script_changes)] }
def ScriptOwnSaid : Prop := scriptOwnRow.holds Tryz.pinned (OpenSpec.ofChange scriptOwnSpec)

/-- ITS FALSE NEIGHBOUR: 'it returns false'. Refute it at one input. -/
def scriptOwnWrong : ChangeSpec := { name := "scriptOwn", fn := fun _ => fun
  | [d1, d2] => { results := [.lit (.bool false)], args := [d1, d2] }
  | _ => none }
def ScriptOwnWrongFalsely : Prop := scriptOwnRow.holds Tryz.pinned (OpenSpec.ofChange scriptOwnWrong)

/-- 'culvertlaw22.ScriptParses': WHATEVER THE INPUT: true; the input reads as it did. -/
def scriptParsesSpec : ChangeSpec := { name := "scriptParses", fn := fun _ => fun
  | [d] => { results := [.lit (.bool true)], args := [d] }
  | _ => none }
def scriptParsesRow : OpenClaim := { program := "ytpkmekdpmkfcdaagreatdoor", sum := "264f08ad25a778ea3d1993868e0f9afdec96f325eb57f866a3843fc0ab841acf", func := "culvert/culvertlaw22.ScriptParses", spec := "scriptParses", inPlace := ["internal/bytealg.IndexByteString", "internal/bytealg.IndexString", "internal/abi.NoEscape", "internal/bytealg.MakeNoZero"], unfollowed := true, recurses := true, named := ["internal/bytealg.MaxLen", "strconv.ErrSyntax", "strconv.ErrRange", "internal/strconv.uint64pow10", "math/bits.deBruijn32tab", "math/bits.deBruijn64tab", "culvert/script.steps", "culvert/script.changes"], apart := false, laid := [("math/bits.deBruijn32tab", laid_math_bits_deBruijn32tab), ("math/bits.deBruijn64tab", laid_math_bits_deBruijn64tab), ("internal/strconv.uint64pow10", laid_internal_strconv_uint64pow10), ("strconv.ErrRange", laid_strconv_ErrRange), ("strconv.ErrSyntax", laid_strconv_ErrSyntax), ("culvert/script.steps", laid_culvert_script_steps), ("culvert/script.changes", laid_culvert_script_changes)] }
def ScriptParsesSaid : Prop := scriptParsesRow.holds Tryz.pinned (OpenSpec.ofChange scriptParsesSpec)

/-- ITS FALSE NEIGHBOUR: 'it returns false'. Refute it at one input. -/
def scriptParsesWrong : ChangeSpec := { name := "scriptParses", fn := fun _ => fun
  | [d] => { results := [.lit (.bool false)], args := [d] }
  | _ => none }
def ScriptParsesWrongFalsely : Prop := scriptParsesRow.holds Tryz.pinned (OpenSpec.ofChange scriptParsesWrong)

/-- 'culvertlaw22.ScriptRound': WHATEVER THE INPUT: true; the input reads as it did. -/
def scriptRoundSpec : ChangeSpec := { name := "scriptRound", fn := fun _ => fun
  | [d] => { results := [.lit (.bool true)], args := [d] }
  | _ => none }
def scriptRoundRow : OpenClaim := { program := "ytpkmekdpmkfcdaagreatdoor", sum := "264f08ad25a778ea3d1993868e0f9afdec96f325eb57f866a3843fc0ab841acf", func := "culvert/culvertlaw22.ScriptRound", spec := "scriptRound", inPlace := ["internal/abi.NoEscape", "internal/bytealg.MakeNoZero", "internal/bytealg.IndexByteString", "internal/bytealg.IndexString"], unfollowed := true, recurses := true, named := ["internal/strconv.uint64pow10", "math/bits.deBruijn32tab", "math/bits.deBruijn64tab", "culvert/script.steps", "culvert/script.changes", "internal/bytealg.MaxLen", "strconv.ErrSyntax", "strconv.ErrRange"], apart := false, laid := [("math/bits.deBruijn32tab", laid_math_bits_deBruijn32tab), ("math/bits.deBruijn64tab", laid_math_bits_deBruijn64tab), ("internal/strconv.uint64pow10", laid_internal_strconv_uint64pow10), ("strconv.ErrRange", laid_strconv_ErrRange), ("strconv.ErrSyntax", laid_strconv_ErrSyntax), ("culvert/script.steps", laid_culvert_script_steps), ("culvert/script.changes", laid_culvert_script_changes)] }
def ScriptRoundSaid : Prop := scriptRoundRow.holds Tryz.pinned (OpenSpec.ofChange scriptRoundSpec)

/-- ITS FALSE NEIGHBOUR: 'it returns false'. Refute it at one input. -/
def scriptRoundWrong : ChangeSpec := { name := "scriptRound", fn := fun _ => fun
  | [d] => { results := [.lit (.bool false)], args := [d] }
  | _ => none }
def ScriptRoundWrongFalsely : Prop := scriptRoundRow.holds Tryz.pinned (OpenSpec.ofChange scriptRoundWrong)

/-- 'culvertlaw22.ScriptCanon': WHATEVER THE INPUT: true; the input reads as it did. -/
def scriptCanonSpec : ChangeSpec := { name := "scriptCanon", fn := fun _ => fun
  | [d] => { results := [.lit (.bool true)], args := [d] }
  | _ => none }
def scriptCanonRow : OpenClaim := { program := "ytpkmekdpmkfcdaagreatdoor", sum := "264f08ad25a778ea3d1993868e0f9afdec96f325eb57f866a3843fc0ab841acf", func := "culvert/culvertlaw22.ScriptCanon", spec := "scriptCanon", inPlace := ["internal/abi.NoEscape", "internal/bytealg.MakeNoZero", "internal/bytealg.IndexByteString", "internal/bytealg.IndexString"], unfollowed := true, recurses := true, named := ["internal/strconv.uint64pow10", "math/bits.deBruijn32tab", "math/bits.deBruijn64tab", "culvert/script.steps", "culvert/script.changes", "internal/bytealg.MaxLen", "strconv.ErrSyntax", "strconv.ErrRange"], apart := false, laid := [("math/bits.deBruijn32tab", laid_math_bits_deBruijn32tab), ("math/bits.deBruijn64tab", laid_math_bits_deBruijn64tab), ("internal/strconv.uint64pow10", laid_internal_strconv_uint64pow10), ("strconv.ErrRange", laid_strconv_ErrRange), ("strconv.ErrSyntax", laid_strconv_ErrSyntax), ("culvert/script.steps", laid_culvert_script_steps), ("culvert/script.changes", laid_culvert_script_changes)] }
def ScriptCanonSaid : Prop := scriptCanonRow.holds Tryz.pinned (OpenSpec.ofChange scriptCanonSpec)

/-- ITS FALSE NEIGHBOUR: 'it returns false'. Refute it at one input. -/
def scriptCanonWrong : ChangeSpec := { name := "scriptCanon", fn := fun _ => fun
  | [d] => { results := [.lit (.bool false)], args := [d] }
  | _ => none }
def ScriptCanonWrongFalsely : Prop := scriptCanonRow.holds Tryz.pinned (OpenSpec.ofChange scriptCanonWrong)

/-- 'culvertlaw22.ScriptNoise': WHATEVER THE INPUT: true; the input reads as it did. -/
def scriptNoiseSpec : ChangeSpec := { name := "scriptNoise", fn := fun _ => fun
  | [d] => { results := [.lit (.bool true)], args := [d] }
  | _ => none }
def scriptNoiseRow : OpenClaim := { program := "ytpkmekdpmkfcdaagreatdoor", sum := "264f08ad25a778ea3d1993868e0f9afdec96f325eb57f866a3843fc0ab841acf", func := "culvert/culvertlaw22.ScriptNoise", spec := "scriptNoise", inPlace := ["internal/abi.NoEscape", "internal/bytealg.MakeNoZero", "internal/bytealg.IndexByteString", "internal/bytealg.IndexString"], unfollowed := true, recurses := true, named := ["internal/strconv.uint64pow10", "math/bits.deBruijn32tab", "math/bits.deBruijn64tab", "culvert/script.steps", "culvert/script.changes", "internal/bytealg.MaxLen", "strconv.ErrSyntax", "strconv.ErrRange"], apart := false, laid := [("math/bits.deBruijn32tab", laid_math_bits_deBruijn32tab), ("math/bits.deBruijn64tab", laid_math_bits_deBruijn64tab), ("internal/strconv.uint64pow10", laid_internal_strconv_uint64pow10), ("strconv.ErrRange", laid_strconv_ErrRange), ("strconv.ErrSyntax", laid_strconv_ErrSyntax), ("culvert/script.steps", laid_culvert_script_steps), ("culvert/script.changes", laid_culvert_script_changes)] }
def ScriptNoiseSaid : Prop := scriptNoiseRow.holds Tryz.pinned (OpenSpec.ofChange scriptNoiseSpec)

/-- ITS FALSE NEIGHBOUR: 'it returns false'. Refute it at one input. -/
def scriptNoiseWrong : ChangeSpec := { name := "scriptNoise", fn := fun _ => fun
  | [d] => { results := [.lit (.bool false)], args := [d] }
  | _ => none }
def ScriptNoiseWrongFalsely : Prop := scriptNoiseRow.holds Tryz.pinned (OpenSpec.ofChange scriptNoiseWrong)

/-- 'culvertlaw22.ScriptFault': WHATEVER THE INPUT: true; the input reads as it did. -/
def scriptFaultSpec : ChangeSpec := { name := "scriptFault", fn := fun _ => fun
  | [d1, d2] => { results := [.lit (.bool true)], args := [d1, d2] }
  | _ => none }
def scriptFaultRow : OpenClaim := { program := "ytpkmekdpmkfcdaagreatdoor", sum := "264f08ad25a778ea3d1993868e0f9afdec96f325eb57f866a3843fc0ab841acf", func := "culvert/culvertlaw22.ScriptFault", spec := "scriptFault", inPlace := ["internal/abi.NoEscape", "internal/bytealg.MakeNoZero", "internal/bytealg.IndexByteString", "internal/bytealg.IndexString"], unfollowed := true, recurses := true, named := ["internal/strconv.uint64pow10", "math/bits.deBruijn32tab", "math/bits.deBruijn64tab", "culvert/script.steps", "culvert/script.changes", "internal/bytealg.MaxLen", "strconv.ErrSyntax", "strconv.ErrRange"], apart := false, laid := [("math/bits.deBruijn32tab", laid_math_bits_deBruijn32tab), ("math/bits.deBruijn64tab", laid_math_bits_deBruijn64tab), ("internal/strconv.uint64pow10", laid_internal_strconv_uint64pow10), ("strconv.ErrRange", laid_strconv_ErrRange), ("strconv.ErrSyntax", laid_strconv_ErrSyntax), ("culvert/script.steps", laid_culvert_script_steps), ("culvert/script.changes", laid_culvert_script_changes)] }
def ScriptFaultSaid : Prop := scriptFaultRow.holds Tryz.pinned (OpenSpec.ofChange scriptFaultSpec)

/-- ITS FALSE NEIGHBOUR: 'it returns false'. Refute it at one input. -/
def scriptFaultWrong : ChangeSpec := { name := "scriptFault", fn := fun _ => fun
  | [d1, d2] => { results := [.lit (.bool false)], args := [d1, d2] }
  | _ => none }
def ScriptFaultWrongFalsely : Prop := scriptFaultRow.holds Tryz.pinned (OpenSpec.ofChange scriptFaultWrong)

/- THE SECOND FORM. 'bulk': how many values and letters a reading holds, each counted each time it is reached (what is shared counts as often as it is met; a slice's spare places count too). A statement '..UptoSaid' is the law's where the arguments, and the package variables that the reading takes, are together of bulk at most 1048576: NARROWER than '..Said'. Prove '..Said' where nothing that the law and all that it calls make is longer than what came in: it says more and counts as full. Else prove '..UptoSaid'. A law counts once. -/
mutual
def uptoBulk {H : Type} : DataW H → Nat
  | .lit (.string bytes) => bytes.length + 1
  | .lit _ => 1
  | .nil => 1
  | .ptr d => uptoBulk d + 1
  | .slice elems spare => uptoBulkAll elems + uptoBulkAll spare + 1
  | .agg parts => uptoBulkAll parts + 1
  | .iface _ d => uptoBulk d + 1
  | .map entries => uptoBulkEntries entries + 1
  | .held _ => 1
def uptoBulkAll {H : Type} : List (DataW H) → Nat
  | [] => 0
  | d :: r => uptoBulk d + uptoBulkAll r
def uptoBulkEntries {H : Type} : List (Lit × DataW H) → Nat
  | [] => 0
  | x :: r => uptoBulkEntry x + uptoBulkEntries r
def uptoBulkEntry {H : Type} : Lit × DataW H → Nat
  | (.string bytes, d) => bytes.length + uptoBulk d + 1
  | (_, d) => uptoBulk d + 1
 end
def uptoSmall : (H : Type) → List (DataW H) → Bool := fun _ ds => decide (uptoBulkAll ds ≤ 1048576)
def OpenSpec.upto (s : _root_.Go.ChangeSpec) : _root_.Go.OpenSpec := { _root_.Go.OpenSpec.ofChange s with cond := some uptoSmall }

/-- 'culvertlaw22.ScriptChanges', WHERE WHAT IT READS IS OF BULK AT MOST 1048576: true; the input reads as it did. -/
def scriptChangesUptoRow : OpenClaim := { program := "ytpkmekdpmkfcdaagreatdoor", sum := "264f08ad25a778ea3d1993868e0f9afdec96f325eb57f866a3843fc0ab841acf", func := "culvert/culvertlaw22.ScriptChanges", spec := "scriptChanges", inPlace := ["internal/abi.NoEscape", "internal/bytealg.MakeNoZero", "internal/bytealg.IndexByteString", "internal/bytealg.IndexString"], unfollowed := true, recurses := true, named := ["internal/strconv.uint64pow10", "math/bits.deBruijn32tab", "math/bits.deBruijn64tab", "culvert/script.steps", "culvert/script.changes", "internal/bytealg.MaxLen", "strconv.ErrSyntax", "strconv.ErrRange"], apart := false, laid := [("math/bits.deBruijn32tab", laid_math_bits_deBruijn32tab), ("math/bits.deBruijn64tab", laid_math_bits_deBruijn64tab), ("internal/strconv.uint64pow10", laid_internal_strconv_uint64pow10), ("strconv.ErrRange", laid_strconv_ErrRange), ("strconv.ErrSyntax", laid_strconv_ErrSyntax), ("culvert/script.steps", laid_culvert_script_steps), ("culvert/script.changes", laid_culvert_script_changes)], narrowed := true }
def ScriptChangesUptoSaid : Prop := scriptChangesUptoRow.holds Tryz.pinned (OpenSpec.upto scriptChangesSpec)

/-- 'culvertlaw22.ScriptOwn', WHERE WHAT IT READS IS OF BULK AT MOST 1048576: true; the input reads as it did. -/
def scriptOwnUptoRow : OpenClaim := { program := "ytpkmekdpmkfcdaagreatdoor", sum := "264f08ad25a778ea3d1993868e0f9afdec96f325eb57f866a3843fc0ab841acf", func := "culvert/culvertlaw22.ScriptOwn", spec := "scriptOwn", inPlace := ["internal/abi.NoEscape", "internal/bytealg.MakeNoZero", "internal/bytealg.IndexByteString", "internal/bytealg.IndexString"], unfollowed := true, recurses := true, named := ["internal/strconv.uint64pow10", "math/bits.deBruijn32tab", "math/bits.deBruijn64tab", "culvert/script.steps", "culvert/script.changes", "internal/bytealg.MaxLen", "strconv.ErrSyntax", "strconv.ErrRange"], apart := false, laid := [("math/bits.deBruijn32tab", laid_math_bits_deBruijn32tab), ("math/bits.deBruijn64tab", laid_math_bits_deBruijn64tab), ("internal/strconv.uint64pow10", laid_internal_strconv_uint64pow10), ("strconv.ErrRange", laid_strconv_ErrRange), ("strconv.ErrSyntax", laid_strconv_ErrSyntax), ("culvert/script.steps", laid_culvert_script_steps), ("culvert/script.changes", laid_culvert_script_changes)], narrowed := true }
def ScriptOwnUptoSaid : Prop := scriptOwnUptoRow.holds Tryz.pinned (OpenSpec.upto scriptOwnSpec)

/-- 'culvertlaw22.ScriptParses', WHERE WHAT IT READS IS OF BULK AT MOST 1048576: true; the input reads as it did. -/
def scriptParsesUptoRow : OpenClaim := { program := "ytpkmekdpmkfcdaagreatdoor", sum := "264f08ad25a778ea3d1993868e0f9afdec96f325eb57f866a3843fc0ab841acf", func := "culvert/culvertlaw22.ScriptParses", spec := "scriptParses", inPlace := ["internal/bytealg.IndexByteString", "internal/bytealg.IndexString", "internal/abi.NoEscape", "internal/bytealg.MakeNoZero"], unfollowed := true, recurses := true, named := ["internal/bytealg.MaxLen", "strconv.ErrSyntax", "strconv.ErrRange", "internal/strconv.uint64pow10", "math/bits.deBruijn32tab", "math/bits.deBruijn64tab", "culvert/script.steps", "culvert/script.changes"], apart := false, laid := [("math/bits.deBruijn32tab", laid_math_bits_deBruijn32tab), ("math/bits.deBruijn64tab", laid_math_bits_deBruijn64tab), ("internal/strconv.uint64pow10", laid_internal_strconv_uint64pow10), ("strconv.ErrRange", laid_strconv_ErrRange), ("strconv.ErrSyntax", laid_strconv_ErrSyntax), ("culvert/script.steps", laid_culvert_script_steps), ("culvert/script.changes", laid_culvert_script_changes)], narrowed := true }
def ScriptParsesUptoSaid : Prop := scriptParsesUptoRow.holds Tryz.pinned (OpenSpec.upto scriptParsesSpec)

/-- 'culvertlaw22.ScriptRound', WHERE WHAT IT READS IS OF BULK AT MOST 1048576: true; the input reads as it did. -/
def scriptRoundUptoRow : OpenClaim := { program := "ytpkmekdpmkfcdaagreatdoor", sum := "264f08ad25a778ea3d1993868e0f9afdec96f325eb57f866a3843fc0ab841acf", func := "culvert/culvertlaw22.ScriptRound", spec := "scriptRound", inPlace := ["internal/abi.NoEscape", "internal/bytealg.MakeNoZero", "internal/bytealg.IndexByteString", "internal/bytealg.IndexString"], unfollowed := true, recurses := true, named := ["internal/strconv.uint64pow10", "math/bits.deBruijn32tab", "math/bits.deBruijn64tab", "culvert/script.steps", "culvert/script.changes", "internal/bytealg.MaxLen", "strconv.ErrSyntax", "strconv.ErrRange"], apart := false, laid := [("math/bits.deBruijn32tab", laid_math_bits_deBruijn32tab), ("math/bits.deBruijn64tab", laid_math_bits_deBruijn64tab), ("internal/strconv.uint64pow10", laid_internal_strconv_uint64pow10), ("strconv.ErrRange", laid_strconv_ErrRange), ("strconv.ErrSyntax", laid_strconv_ErrSyntax), ("culvert/script.steps", laid_culvert_script_steps), ("culvert/script.changes", laid_culvert_script_changes)], narrowed := true }
def ScriptRoundUptoSaid : Prop := scriptRoundUptoRow.holds Tryz.pinned (OpenSpec.upto scriptRoundSpec)

/-- 'culvertlaw22.ScriptCanon', WHERE WHAT IT READS IS OF BULK AT MOST 1048576: true; the input reads as it did. -/
def scriptCanonUptoRow : OpenClaim := { program := "ytpkmekdpmkfcdaagreatdoor", sum := "264f08ad25a778ea3d1993868e0f9afdec96f325eb57f866a3843fc0ab841acf", func := "culvert/culvertlaw22.ScriptCanon", spec := "scriptCanon", inPlace := ["internal/abi.NoEscape", "internal/bytealg.MakeNoZero", "internal/bytealg.IndexByteString", "internal/bytealg.IndexString"], unfollowed := true, recurses := true, named := ["internal/strconv.uint64pow10", "math/bits.deBruijn32tab", "math/bits.deBruijn64tab", "culvert/script.steps", "culvert/script.changes", "internal/bytealg.MaxLen", "strconv.ErrSyntax", "strconv.ErrRange"], apart := false, laid := [("math/bits.deBruijn32tab", laid_math_bits_deBruijn32tab), ("math/bits.deBruijn64tab", laid_math_bits_deBruijn64tab), ("internal/strconv.uint64pow10", laid_internal_strconv_uint64pow10), ("strconv.ErrRange", laid_strconv_ErrRange), ("strconv.ErrSyntax", laid_strconv_ErrSyntax), ("culvert/script.steps", laid_culvert_script_steps), ("culvert/script.changes", laid_culvert_script_changes)], narrowed := true }
def ScriptCanonUptoSaid : Prop := scriptCanonUptoRow.holds Tryz.pinned (OpenSpec.upto scriptCanonSpec)

/-- 'culvertlaw22.ScriptNoise', WHERE WHAT IT READS IS OF BULK AT MOST 1048576: true; the input reads as it did. -/
def scriptNoiseUptoRow : OpenClaim := { program := "ytpkmekdpmkfcdaagreatdoor", sum := "264f08ad25a778ea3d1993868e0f9afdec96f325eb57f866a3843fc0ab841acf", func := "culvert/culvertlaw22.ScriptNoise", spec := "scriptNoise", inPlace := ["internal/abi.NoEscape", "internal/bytealg.MakeNoZero", "internal/bytealg.IndexByteString", "internal/bytealg.IndexString"], unfollowed := true, recurses := true, named := ["internal/strconv.uint64pow10", "math/bits.deBruijn32tab", "math/bits.deBruijn64tab", "culvert/script.steps", "culvert/script.changes", "internal/bytealg.MaxLen", "strconv.ErrSyntax", "strconv.ErrRange"], apart := false, laid := [("math/bits.deBruijn32tab", laid_math_bits_deBruijn32tab), ("math/bits.deBruijn64tab", laid_math_bits_deBruijn64tab), ("internal/strconv.uint64pow10", laid_internal_strconv_uint64pow10), ("strconv.ErrRange", laid_strconv_ErrRange), ("strconv.ErrSyntax", laid_strconv_ErrSyntax), ("culvert/script.steps", laid_culvert_script_steps), ("culvert/script.changes", laid_culvert_script_changes)], narrowed := true }
def ScriptNoiseUptoSaid : Prop := scriptNoiseUptoRow.holds Tryz.pinned (OpenSpec.upto scriptNoiseSpec)

/-- 'culvertlaw22.ScriptFault', WHERE WHAT IT READS IS OF BULK AT MOST 1048576: true; the input reads as it did. -/
def scriptFaultUptoRow : OpenClaim := { program := "ytpkmekdpmkfcdaagreatdoor", sum := "264f08ad25a778ea3d1993868e0f9afdec96f325eb57f866a3843fc0ab841acf", func := "culvert/culvertlaw22.ScriptFault", spec := "scriptFault", inPlace := ["internal/abi.NoEscape", "internal/bytealg.MakeNoZero", "internal/bytealg.IndexByteString", "internal/bytealg.IndexString"], unfollowed := true, recurses := true, named := ["internal/strconv.uint64pow10", "math/bits.deBruijn32tab", "math/bits.deBruijn64tab", "culvert/script.steps", "culvert/script.changes", "internal/bytealg.MaxLen", "strconv.ErrSyntax", "strconv.ErrRange"], apart := false, laid := [("math/bits.deBruijn32tab", laid_math_bits_deBruijn32tab), ("math/bits.deBruijn64tab", laid_math_bits_deBruijn64tab), ("internal/strconv.uint64pow10", laid_internal_strconv_uint64pow10), ("strconv.ErrRange", laid_strconv_ErrRange), ("strconv.ErrSyntax", laid_strconv_ErrSyntax), ("culvert/script.steps", laid_culvert_script_steps), ("culvert/script.changes", laid_culvert_script_changes)], narrowed := true }
def ScriptFaultUptoSaid : Prop := scriptFaultUptoRow.holds Tryz.pinned (OpenSpec.upto scriptFaultSpec)

end Rows
end Go.Proofs.YtpkmekdpmkfcdaaGreatDoor
