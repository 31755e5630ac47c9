/-
  NARROWER THAN 'FOR EVERY INPUT', by the rows' own cells (each row's printed sentence says how): StampValids: laid · StampLess: laid · StampNexts: laid · StampPuts: laid · StampGets: laid · StampParses: laid · StampOrder: laid · StampSteps: laid · StampOneForm: laid · StampPlace: laid.
  DERIVED. THE GIVEN ROWS OF THIS SEAT. 10 by the template 'for every input the law returns true; each argument reads behind the call as it read before'; 0 by the template 'total and deterministic' (their statements: YtpjgebbmbiohbaaDoorTotals.lean).
  GIVEN WITH THE SEED: the statements are not yours to turn. If you find one false, say at which input.
  Laid BY PROGRAM, IN A SANDBOX (cutbox-rows.mjs): the forced cells as the released guide's own fill.sh prints them over the translation bdb011166980b9b6… (all of the seat's roots in one cut). By AI agents, Wed Nov 11 2026. No macro, syntax, notation, axiom, sorry.
-/
import Derived.Test.YtpjgebbmbiohbaaDoorChecked
import GoSem.Claim
import GoSem.ClaimJoined
import GoSem.ClaimMapViews
import Derived.JoinedTies
import Derived.KernelRfl
namespace Go.Proofs.YtpjgebbmbiohbaaDoor
/- THE CELL 'sum', in the pinned program and in every row, IS THE sha256 OF THE DUMP (.gsa) THAT YtpjgebbmbiohbaaDoorProg.lean LOADS. Nothing in Lean hashes anything: it is a label: what it is worth is what the hold of that sum in a sandbox is worth. -/
noncomputable def Tryd.pinned : Pinned := { name := "ytpjgebbmbiohbaadoor", sum := "bdb011166980b9b6da019b2ec44559ee695b5365af5f134e8de2f0fcda3f0423", checked := Tryd.checked }
namespace Rows
def none {H : Type} : Left H := { results := [], args := [] }

/- WHAT THE LISTED PACKAGE-LEVEL VARIABLES READ AS WHEN THE CALL BEGINS. Each datum BY PROGRAM (the guide's laid-datum.mjs) off the statement by which the dump's own 'gosem.cut.vars' lays the variable. In a bare row this is a premise. The card (YtpjgebbmbiohbaaDoorCards.lean) ties it to the program's text. -/
def laid_math_bits_deBruijn32tab {H : Type} : DataW H := .agg [.lit (.int .u8 0), .lit (.int .u8 1), .lit (.int .u8 28), .lit (.int .u8 2), .lit (.int .u8 29), .lit (.int .u8 14), .lit (.int .u8 24), .lit (.int .u8 3), .lit (.int .u8 30), .lit (.int .u8 22), .lit (.int .u8 20), .lit (.int .u8 15), .lit (.int .u8 25), .lit (.int .u8 17), .lit (.int .u8 4), .lit (.int .u8 8), .lit (.int .u8 31), .lit (.int .u8 27), .lit (.int .u8 13), .lit (.int .u8 23), .lit (.int .u8 21), .lit (.int .u8 19), .lit (.int .u8 16), .lit (.int .u8 7), .lit (.int .u8 26), .lit (.int .u8 12), .lit (.int .u8 18), .lit (.int .u8 6), .lit (.int .u8 11), .lit (.int .u8 5), .lit (.int .u8 10), .lit (.int .u8 9)]
def laid_math_bits_deBruijn64tab {H : Type} : DataW H := .agg [.lit (.int .u8 0), .lit (.int .u8 1), .lit (.int .u8 56), .lit (.int .u8 2), .lit (.int .u8 57), .lit (.int .u8 49), .lit (.int .u8 28), .lit (.int .u8 3), .lit (.int .u8 61), .lit (.int .u8 58), .lit (.int .u8 42), .lit (.int .u8 50), .lit (.int .u8 38), .lit (.int .u8 29), .lit (.int .u8 17), .lit (.int .u8 4), .lit (.int .u8 62), .lit (.int .u8 47), .lit (.int .u8 59), .lit (.int .u8 36), .lit (.int .u8 45), .lit (.int .u8 43), .lit (.int .u8 51), .lit (.int .u8 22), .lit (.int .u8 53), .lit (.int .u8 39), .lit (.int .u8 33), .lit (.int .u8 30), .lit (.int .u8 24), .lit (.int .u8 18), .lit (.int .u8 12), .lit (.int .u8 5), .lit (.int .u8 63), .lit (.int .u8 55), .lit (.int .u8 48), .lit (.int .u8 27), .lit (.int .u8 60), .lit (.int .u8 41), .lit (.int .u8 37), .lit (.int .u8 16), .lit (.int .u8 46), .lit (.int .u8 35), .lit (.int .u8 44), .lit (.int .u8 21), .lit (.int .u8 52), .lit (.int .u8 32), .lit (.int .u8 23), .lit (.int .u8 11), .lit (.int .u8 54), .lit (.int .u8 26), .lit (.int .u8 40), .lit (.int .u8 15), .lit (.int .u8 34), .lit (.int .u8 20), .lit (.int .u8 31), .lit (.int .u8 10), .lit (.int .u8 25), .lit (.int .u8 14), .lit (.int .u8 19), .lit (.int .u8 9), .lit (.int .u8 13), .lit (.int .u8 8), .lit (.int .u8 7), .lit (.int .u8 6)]
def laid_internal_strconv_uint64pow10 {H : Type} : DataW H := .agg [.lit (.int .u64 1), .lit (.int .u64 10), .lit (.int .u64 100), .lit (.int .u64 1000), .lit (.int .u64 10000), .lit (.int .u64 100000), .lit (.int .u64 1000000), .lit (.int .u64 10000000), .lit (.int .u64 100000000), .lit (.int .u64 1000000000), .lit (.int .u64 10000000000), .lit (.int .u64 100000000000), .lit (.int .u64 1000000000000), .lit (.int .u64 10000000000000), .lit (.int .u64 100000000000000), .lit (.int .u64 1000000000000000), .lit (.int .u64 10000000000000000), .lit (.int .u64 100000000000000000), .lit (.int .u64 1000000000000000000), .lit (.int .u64 10000000000000000000)]
def laid_strconv_ErrRange {H : Type} : DataW H := .iface "*errors.errorString" (.ptr (.agg [.lit (.string [118, 97, 108, 117, 101, 32, 111, 117, 116, 32, 111, 102, 32, 114, 97, 110, 103, 101])]))
def laid_strconv_ErrSyntax {H : Type} : DataW H := .iface "*errors.errorString" (.ptr (.agg [.lit (.string [105, 110, 118, 97, 108, 105, 100, 32, 115, 121, 110, 116, 97, 120])]))

/-- 'culvertlaw6.StampValids': WHATEVER THE INPUT: true; the input reads as it did. -/
def stampValidsSpec : ChangeSpec := { name := "stampValids", fn := fun _ => fun
  | [d] => { results := [.lit (.bool true)], args := [d] }
  | _ => none }
def stampValidsRow : OpenClaim := { program := "ytpjgebbmbiohbaadoor", sum := "bdb011166980b9b6da019b2ec44559ee695b5365af5f134e8de2f0fcda3f0423", func := "culvert/culvertlaw6.StampValids", spec := "stampValids", named := ["internal/strconv.uint64pow10", "math/bits.deBruijn32tab", "math/bits.deBruijn64tab", "strconv.ErrSyntax", "strconv.ErrRange"], apart := false, laid := [("math/bits.deBruijn32tab", laid_math_bits_deBruijn32tab), ("math/bits.deBruijn64tab", laid_math_bits_deBruijn64tab), ("internal/strconv.uint64pow10", laid_internal_strconv_uint64pow10), ("strconv.ErrRange", laid_strconv_ErrRange), ("strconv.ErrSyntax", laid_strconv_ErrSyntax)] }
def StampValidsSaid : Prop := stampValidsRow.holds Tryd.pinned (OpenSpec.ofChange stampValidsSpec)

/-- ITS FALSE NEIGHBOUR: 'it returns false'. Refute it at one input. -/
def stampValidsWrong : ChangeSpec := { name := "stampValids", fn := fun _ => fun
  | [d] => { results := [.lit (.bool false)], args := [d] }
  | _ => none }
def StampValidsWrongFalsely : Prop := stampValidsRow.holds Tryd.pinned (OpenSpec.ofChange stampValidsWrong)

/-- 'culvertlaw6.StampLess': WHATEVER THE INPUT: true; the input reads as it did. -/
def stampLessSpec : ChangeSpec := { name := "stampLess", fn := fun _ => fun
  | [d1, d2] => { results := [.lit (.bool true)], args := [d1, d2] }
  | _ => none }
def stampLessRow : OpenClaim := { program := "ytpjgebbmbiohbaadoor", sum := "bdb011166980b9b6da019b2ec44559ee695b5365af5f134e8de2f0fcda3f0423", func := "culvert/culvertlaw6.StampLess", spec := "stampLess", named := ["internal/strconv.uint64pow10", "math/bits.deBruijn32tab", "math/bits.deBruijn64tab", "strconv.ErrSyntax", "strconv.ErrRange"], apart := false, laid := [("math/bits.deBruijn32tab", laid_math_bits_deBruijn32tab), ("math/bits.deBruijn64tab", laid_math_bits_deBruijn64tab), ("internal/strconv.uint64pow10", laid_internal_strconv_uint64pow10), ("strconv.ErrRange", laid_strconv_ErrRange), ("strconv.ErrSyntax", laid_strconv_ErrSyntax)] }
def StampLessSaid : Prop := stampLessRow.holds Tryd.pinned (OpenSpec.ofChange stampLessSpec)

/-- ITS FALSE NEIGHBOUR: 'it returns false'. Refute it at one input. -/
def stampLessWrong : ChangeSpec := { name := "stampLess", fn := fun _ => fun
  | [d1, d2] => { results := [.lit (.bool false)], args := [d1, d2] }
  | _ => none }
def StampLessWrongFalsely : Prop := stampLessRow.holds Tryd.pinned (OpenSpec.ofChange stampLessWrong)

/-- 'culvertlaw6.StampNexts': WHATEVER THE INPUT: true; the input reads as it did. -/
def stampNextsSpec : ChangeSpec := { name := "stampNexts", fn := fun _ => fun
  | [d] => { results := [.lit (.bool true)], args := [d] }
  | _ => none }
def stampNextsRow : OpenClaim := { program := "ytpjgebbmbiohbaadoor", sum := "bdb011166980b9b6da019b2ec44559ee695b5365af5f134e8de2f0fcda3f0423", func := "culvert/culvertlaw6.StampNexts", spec := "stampNexts", named := ["internal/strconv.uint64pow10", "math/bits.deBruijn32tab", "math/bits.deBruijn64tab", "strconv.ErrSyntax", "strconv.ErrRange"], apart := false, laid := [("math/bits.deBruijn32tab", laid_math_bits_deBruijn32tab), ("math/bits.deBruijn64tab", laid_math_bits_deBruijn64tab), ("internal/strconv.uint64pow10", laid_internal_strconv_uint64pow10), ("strconv.ErrRange", laid_strconv_ErrRange), ("strconv.ErrSyntax", laid_strconv_ErrSyntax)] }
def StampNextsSaid : Prop := stampNextsRow.holds Tryd.pinned (OpenSpec.ofChange stampNextsSpec)

/-- ITS FALSE NEIGHBOUR: 'it returns false'. Refute it at one input. -/
def stampNextsWrong : ChangeSpec := { name := "stampNexts", fn := fun _ => fun
  | [d] => { results := [.lit (.bool false)], args := [d] }
  | _ => none }
def StampNextsWrongFalsely : Prop := stampNextsRow.holds Tryd.pinned (OpenSpec.ofChange stampNextsWrong)

/-- 'culvertlaw6.StampPuts': WHATEVER THE INPUT: true; the input reads as it did. -/
def stampPutsSpec : ChangeSpec := { name := "stampPuts", fn := fun _ => fun
  | [d] => { results := [.lit (.bool true)], args := [d] }
  | _ => none }
def stampPutsRow : OpenClaim := { program := "ytpjgebbmbiohbaadoor", sum := "bdb011166980b9b6da019b2ec44559ee695b5365af5f134e8de2f0fcda3f0423", func := "culvert/culvertlaw6.StampPuts", spec := "stampPuts", named := ["internal/strconv.uint64pow10", "math/bits.deBruijn32tab", "math/bits.deBruijn64tab", "strconv.ErrSyntax", "strconv.ErrRange"], apart := false, laid := [("math/bits.deBruijn32tab", laid_math_bits_deBruijn32tab), ("math/bits.deBruijn64tab", laid_math_bits_deBruijn64tab), ("internal/strconv.uint64pow10", laid_internal_strconv_uint64pow10), ("strconv.ErrRange", laid_strconv_ErrRange), ("strconv.ErrSyntax", laid_strconv_ErrSyntax)] }
def StampPutsSaid : Prop := stampPutsRow.holds Tryd.pinned (OpenSpec.ofChange stampPutsSpec)

/-- ITS FALSE NEIGHBOUR: 'it returns false'. Refute it at one input. -/
def stampPutsWrong : ChangeSpec := { name := "stampPuts", fn := fun _ => fun
  | [d] => { results := [.lit (.bool false)], args := [d] }
  | _ => none }
def StampPutsWrongFalsely : Prop := stampPutsRow.holds Tryd.pinned (OpenSpec.ofChange stampPutsWrong)

/-- 'culvertlaw6.StampGets': WHATEVER THE INPUT: true; the input reads as it did. -/
def stampGetsSpec : ChangeSpec := { name := "stampGets", fn := fun _ => fun
  | [d] => { results := [.lit (.bool true)], args := [d] }
  | _ => none }
def stampGetsRow : OpenClaim := { program := "ytpjgebbmbiohbaadoor", sum := "bdb011166980b9b6da019b2ec44559ee695b5365af5f134e8de2f0fcda3f0423", func := "culvert/culvertlaw6.StampGets", spec := "stampGets", named := ["internal/strconv.uint64pow10", "math/bits.deBruijn32tab", "math/bits.deBruijn64tab", "strconv.ErrSyntax", "strconv.ErrRange"], apart := false, laid := [("math/bits.deBruijn32tab", laid_math_bits_deBruijn32tab), ("math/bits.deBruijn64tab", laid_math_bits_deBruijn64tab), ("internal/strconv.uint64pow10", laid_internal_strconv_uint64pow10), ("strconv.ErrRange", laid_strconv_ErrRange), ("strconv.ErrSyntax", laid_strconv_ErrSyntax)] }
def StampGetsSaid : Prop := stampGetsRow.holds Tryd.pinned (OpenSpec.ofChange stampGetsSpec)

/-- ITS FALSE NEIGHBOUR: 'it returns false'. Refute it at one input. -/
def stampGetsWrong : ChangeSpec := { name := "stampGets", fn := fun _ => fun
  | [d] => { results := [.lit (.bool false)], args := [d] }
  | _ => none }
def StampGetsWrongFalsely : Prop := stampGetsRow.holds Tryd.pinned (OpenSpec.ofChange stampGetsWrong)

/-- 'culvertlaw6.StampParses': WHATEVER THE INPUT: true; the input reads as it did. -/
def stampParsesSpec : ChangeSpec := { name := "stampParses", fn := fun _ => fun
  | [d] => { results := [.lit (.bool true)], args := [d] }
  | _ => none }
def stampParsesRow : OpenClaim := { program := "ytpjgebbmbiohbaadoor", sum := "bdb011166980b9b6da019b2ec44559ee695b5365af5f134e8de2f0fcda3f0423", func := "culvert/culvertlaw6.StampParses", spec := "stampParses", named := ["internal/strconv.uint64pow10", "math/bits.deBruijn32tab", "math/bits.deBruijn64tab", "strconv.ErrSyntax", "strconv.ErrRange"], apart := false, laid := [("math/bits.deBruijn32tab", laid_math_bits_deBruijn32tab), ("math/bits.deBruijn64tab", laid_math_bits_deBruijn64tab), ("internal/strconv.uint64pow10", laid_internal_strconv_uint64pow10), ("strconv.ErrRange", laid_strconv_ErrRange), ("strconv.ErrSyntax", laid_strconv_ErrSyntax)] }
def StampParsesSaid : Prop := stampParsesRow.holds Tryd.pinned (OpenSpec.ofChange stampParsesSpec)

/-- ITS FALSE NEIGHBOUR: 'it returns false'. Refute it at one input. -/
def stampParsesWrong : ChangeSpec := { name := "stampParses", fn := fun _ => fun
  | [d] => { results := [.lit (.bool false)], args := [d] }
  | _ => none }
def StampParsesWrongFalsely : Prop := stampParsesRow.holds Tryd.pinned (OpenSpec.ofChange stampParsesWrong)

/-- 'culvertlaw6.StampOrder': WHATEVER THE INPUT: true; the input reads as it did. -/
def stampOrderSpec : ChangeSpec := { name := "stampOrder", fn := fun _ => fun
  | [d1, d2, d3] => { results := [.lit (.bool true)], args := [d1, d2, d3] }
  | _ => none }
def stampOrderRow : OpenClaim := { program := "ytpjgebbmbiohbaadoor", sum := "bdb011166980b9b6da019b2ec44559ee695b5365af5f134e8de2f0fcda3f0423", func := "culvert/culvertlaw6.StampOrder", spec := "stampOrder", named := ["internal/strconv.uint64pow10", "math/bits.deBruijn32tab", "math/bits.deBruijn64tab", "strconv.ErrSyntax", "strconv.ErrRange"], apart := false, laid := [("math/bits.deBruijn32tab", laid_math_bits_deBruijn32tab), ("math/bits.deBruijn64tab", laid_math_bits_deBruijn64tab), ("internal/strconv.uint64pow10", laid_internal_strconv_uint64pow10), ("strconv.ErrRange", laid_strconv_ErrRange), ("strconv.ErrSyntax", laid_strconv_ErrSyntax)] }
def StampOrderSaid : Prop := stampOrderRow.holds Tryd.pinned (OpenSpec.ofChange stampOrderSpec)

/-- ITS FALSE NEIGHBOUR: 'it returns false'. Refute it at one input. -/
def stampOrderWrong : ChangeSpec := { name := "stampOrder", fn := fun _ => fun
  | [d1, d2, d3] => { results := [.lit (.bool false)], args := [d1, d2, d3] }
  | _ => none }
def StampOrderWrongFalsely : Prop := stampOrderRow.holds Tryd.pinned (OpenSpec.ofChange stampOrderWrong)

/-- 'culvertlaw6.StampSteps': WHATEVER THE INPUT: true; the input reads as it did. -/
def stampStepsSpec : ChangeSpec := { name := "stampSteps", fn := fun _ => fun
  | [d1, d2] => { results := [.lit (.bool true)], args := [d1, d2] }
  | _ => none }
def stampStepsRow : OpenClaim := { program := "ytpjgebbmbiohbaadoor", sum := "bdb011166980b9b6da019b2ec44559ee695b5365af5f134e8de2f0fcda3f0423", func := "culvert/culvertlaw6.StampSteps", spec := "stampSteps", named := ["internal/strconv.uint64pow10", "math/bits.deBruijn32tab", "math/bits.deBruijn64tab", "strconv.ErrSyntax", "strconv.ErrRange"], apart := false, laid := [("math/bits.deBruijn32tab", laid_math_bits_deBruijn32tab), ("math/bits.deBruijn64tab", laid_math_bits_deBruijn64tab), ("internal/strconv.uint64pow10", laid_internal_strconv_uint64pow10), ("strconv.ErrRange", laid_strconv_ErrRange), ("strconv.ErrSyntax", laid_strconv_ErrSyntax)] }
def StampStepsSaid : Prop := stampStepsRow.holds Tryd.pinned (OpenSpec.ofChange stampStepsSpec)

/-- ITS FALSE NEIGHBOUR: 'it returns false'. Refute it at one input. -/
def stampStepsWrong : ChangeSpec := { name := "stampSteps", fn := fun _ => fun
  | [d1, d2] => { results := [.lit (.bool false)], args := [d1, d2] }
  | _ => none }
def StampStepsWrongFalsely : Prop := stampStepsRow.holds Tryd.pinned (OpenSpec.ofChange stampStepsWrong)

/-- 'culvertlaw6.StampOneForm': WHATEVER THE INPUT: true; the input reads as it did. -/
def stampOneFormSpec : ChangeSpec := { name := "stampOneForm", fn := fun _ => fun
  | [d1, d2, d3] => { results := [.lit (.bool true)], args := [d1, d2, d3] }
  | _ => none }
def stampOneFormRow : OpenClaim := { program := "ytpjgebbmbiohbaadoor", sum := "bdb011166980b9b6da019b2ec44559ee695b5365af5f134e8de2f0fcda3f0423", func := "culvert/culvertlaw6.StampOneForm", spec := "stampOneForm", named := ["internal/strconv.uint64pow10", "math/bits.deBruijn32tab", "math/bits.deBruijn64tab", "strconv.ErrSyntax", "strconv.ErrRange"], apart := false, laid := [("math/bits.deBruijn32tab", laid_math_bits_deBruijn32tab), ("math/bits.deBruijn64tab", laid_math_bits_deBruijn64tab), ("internal/strconv.uint64pow10", laid_internal_strconv_uint64pow10), ("strconv.ErrRange", laid_strconv_ErrRange), ("strconv.ErrSyntax", laid_strconv_ErrSyntax)] }
def StampOneFormSaid : Prop := stampOneFormRow.holds Tryd.pinned (OpenSpec.ofChange stampOneFormSpec)

/-- ITS FALSE NEIGHBOUR: 'it returns false'. Refute it at one input. -/
def stampOneFormWrong : ChangeSpec := { name := "stampOneForm", fn := fun _ => fun
  | [d1, d2, d3] => { results := [.lit (.bool false)], args := [d1, d2, d3] }
  | _ => none }
def StampOneFormWrongFalsely : Prop := stampOneFormRow.holds Tryd.pinned (OpenSpec.ofChange stampOneFormWrong)

/-- 'culvertlaw6.StampPlace': WHATEVER THE INPUT: true; the input reads as it did. -/
def stampPlaceSpec : ChangeSpec := { name := "stampPlace", fn := fun _ => fun
  | [d1, d2] => { results := [.lit (.bool true)], args := [d1, d2] }
  | _ => none }
def stampPlaceRow : OpenClaim := { program := "ytpjgebbmbiohbaadoor", sum := "bdb011166980b9b6da019b2ec44559ee695b5365af5f134e8de2f0fcda3f0423", func := "culvert/culvertlaw6.StampPlace", spec := "stampPlace", named := ["internal/strconv.uint64pow10", "math/bits.deBruijn32tab", "math/bits.deBruijn64tab", "strconv.ErrSyntax", "strconv.ErrRange"], apart := false, laid := [("math/bits.deBruijn32tab", laid_math_bits_deBruijn32tab), ("math/bits.deBruijn64tab", laid_math_bits_deBruijn64tab), ("internal/strconv.uint64pow10", laid_internal_strconv_uint64pow10), ("strconv.ErrRange", laid_strconv_ErrRange), ("strconv.ErrSyntax", laid_strconv_ErrSyntax)] }
def StampPlaceSaid : Prop := stampPlaceRow.holds Tryd.pinned (OpenSpec.ofChange stampPlaceSpec)

/-- ITS FALSE NEIGHBOUR: 'it returns false'. Refute it at one input. -/
def stampPlaceWrong : ChangeSpec := { name := "stampPlace", fn := fun _ => fun
  | [d1, d2] => { results := [.lit (.bool false)], args := [d1, d2] }
  | _ => none }
def StampPlaceWrongFalsely : Prop := stampPlaceRow.holds Tryd.pinned (OpenSpec.ofChange stampPlaceWrong)

/- THE SECOND FORM. 'bulk': how many values and letters a reading holds, each counted each time it is reached (what is shared counts as often as it is met; a slice's spare places count too). A statement '..UptoSaid' is the law's where the arguments, and the package variables that the reading takes, are together of bulk at most 1048576: NARROWER than '..Said'. Prove '..Said' where nothing that the law and all that it calls make is longer than what came in: it says more and counts as full. Else prove '..UptoSaid'. A law counts once. -/
mutual
def uptoBulk {H : Type} : DataW H → Nat
  | .lit (.string bytes) => bytes.length + 1
  | .lit _ => 1
  | .nil => 1
  | .ptr d => uptoBulk d + 1
  | .slice elems spare => uptoBulkAll elems + uptoBulkAll spare + 1
  | .agg parts => uptoBulkAll parts + 1
  | .iface _ d => uptoBulk d + 1
  | .map entries => uptoBulkEntries entries + 1
  | .held _ => 1
def uptoBulkAll {H : Type} : List (DataW H) → Nat
  | [] => 0
  | d :: r => uptoBulk d + uptoBulkAll r
def uptoBulkEntries {H : Type} : List (Lit × DataW H) → Nat
  | [] => 0
  | x :: r => uptoBulkEntry x + uptoBulkEntries r
def uptoBulkEntry {H : Type} : Lit × DataW H → Nat
  | (.string bytes, d) => bytes.length + uptoBulk d + 1
  | (_, d) => uptoBulk d + 1
 end
def uptoSmall : (H : Type) → List (DataW H) → Bool := fun _ ds => decide (uptoBulkAll ds ≤ 1048576)
def OpenSpec.upto (s : _root_.Go.ChangeSpec) : _root_.Go.OpenSpec := { _root_.Go.OpenSpec.ofChange s with cond := some uptoSmall }

/-- 'culvertlaw6.StampValids', WHERE WHAT IT READS IS OF BULK AT MOST 1048576: true; the input reads as it did. -/
def stampValidsUptoRow : OpenClaim := { program := "ytpjgebbmbiohbaadoor", sum := "bdb011166980b9b6da019b2ec44559ee695b5365af5f134e8de2f0fcda3f0423", func := "culvert/culvertlaw6.StampValids", spec := "stampValids", named := ["internal/strconv.uint64pow10", "math/bits.deBruijn32tab", "math/bits.deBruijn64tab", "strconv.ErrSyntax", "strconv.ErrRange"], apart := false, laid := [("math/bits.deBruijn32tab", laid_math_bits_deBruijn32tab), ("math/bits.deBruijn64tab", laid_math_bits_deBruijn64tab), ("internal/strconv.uint64pow10", laid_internal_strconv_uint64pow10), ("strconv.ErrRange", laid_strconv_ErrRange), ("strconv.ErrSyntax", laid_strconv_ErrSyntax)], narrowed := true }
def StampValidsUptoSaid : Prop := stampValidsUptoRow.holds Tryd.pinned (OpenSpec.upto stampValidsSpec)

/-- 'culvertlaw6.StampLess', WHERE WHAT IT READS IS OF BULK AT MOST 1048576: true; the input reads as it did. -/
def stampLessUptoRow : OpenClaim := { program := "ytpjgebbmbiohbaadoor", sum := "bdb011166980b9b6da019b2ec44559ee695b5365af5f134e8de2f0fcda3f0423", func := "culvert/culvertlaw6.StampLess", spec := "stampLess", named := ["internal/strconv.uint64pow10", "math/bits.deBruijn32tab", "math/bits.deBruijn64tab", "strconv.ErrSyntax", "strconv.ErrRange"], apart := false, laid := [("math/bits.deBruijn32tab", laid_math_bits_deBruijn32tab), ("math/bits.deBruijn64tab", laid_math_bits_deBruijn64tab), ("internal/strconv.uint64pow10", laid_internal_strconv_uint64pow10), ("strconv.ErrRange", laid_strconv_ErrRange), ("strconv.ErrSyntax", laid_strconv_ErrSyntax)], narrowed := true }
def StampLessUptoSaid : Prop := stampLessUptoRow.holds Tryd.pinned (OpenSpec.upto stampLessSpec)

/-- 'culvertlaw6.StampNexts', WHERE WHAT IT READS IS OF BULK AT MOST 1048576: true; the input reads as it did. -/
def stampNextsUptoRow : OpenClaim := { program := "ytpjgebbmbiohbaadoor", sum := "bdb011166980b9b6da019b2ec44559ee695b5365af5f134e8de2f0fcda3f0423", func := "culvert/culvertlaw6.StampNexts", spec := "stampNexts", named := ["internal/strconv.uint64pow10", "math/bits.deBruijn32tab", "math/bits.deBruijn64tab", "strconv.ErrSyntax", "strconv.ErrRange"], apart := false, laid := [("math/bits.deBruijn32tab", laid_math_bits_deBruijn32tab), ("math/bits.deBruijn64tab", laid_math_bits_deBruijn64tab), ("internal/strconv.uint64pow10", laid_internal_strconv_uint64pow10), ("strconv.ErrRange", laid_strconv_ErrRange), ("strconv.ErrSyntax", laid_strconv_ErrSyntax)], narrowed := true }
def StampNextsUptoSaid : Prop := stampNextsUptoRow.holds Tryd.pinned (OpenSpec.upto stampNextsSpec)

/-- 'culvertlaw6.StampPuts', WHERE WHAT IT READS IS OF BULK AT MOST 1048576: true; the input reads as it did. -/
def stampPutsUptoRow : OpenClaim := { program := "ytpjgebbmbiohbaadoor", sum := "bdb011166980b9b6da019b2ec44559ee695b5365af5f134e8de2f0fcda3f0423", func := "culvert/culvertlaw6.StampPuts", spec := "stampPuts", named := ["internal/strconv.uint64pow10", "math/bits.deBruijn32tab", "math/bits.deBruijn64tab", "strconv.ErrSyntax", "strconv.ErrRange"], apart := false, laid := [("math/bits.deBruijn32tab", laid_math_bits_deBruijn32tab), ("math/bits.deBruijn64tab", laid_math_bits_deBruijn64tab), ("internal/strconv.uint64pow10", laid_internal_strconv_uint64pow10), ("strconv.ErrRange", laid_strconv_ErrRange), ("strconv.ErrSyntax", laid_strconv_ErrSyntax)], narrowed := true }
def StampPutsUptoSaid : Prop := stampPutsUptoRow.holds Tryd.pinned (OpenSpec.upto stampPutsSpec)

/-- 'culvertlaw6.StampGets', WHERE WHAT IT READS IS OF BULK AT MOST 1048576: true; the input reads as it did. -/
def stampGetsUptoRow : OpenClaim := { program := "ytpjgebbmbiohbaadoor", sum := "bdb011166980b9b6da019b2ec44559ee695b5365af5f134e8de2f0fcda3f0423", func := "culvert/culvertlaw6.StampGets", spec := "stampGets", named := ["internal/strconv.uint64pow10", "math/bits.deBruijn32tab", "math/bits.deBruijn64tab", "strconv.ErrSyntax", "strconv.ErrRange"], apart := false, laid := [("math/bits.deBruijn32tab", laid_math_bits_deBruijn32tab), ("math/bits.deBruijn64tab", laid_math_bits_deBruijn64tab), ("internal/strconv.uint64pow10", laid_internal_strconv_uint64pow10), ("strconv.ErrRange", laid_strconv_ErrRange), ("strconv.ErrSyntax", laid_strconv_ErrSyntax)], narrowed := true }
def StampGetsUptoSaid : Prop := stampGetsUptoRow.holds Tryd.pinned (OpenSpec.upto stampGetsSpec)

/-- 'culvertlaw6.StampParses', WHERE WHAT IT READS IS OF BULK AT MOST 1048576: true; the input reads as it did. -/
def stampParsesUptoRow : OpenClaim := { program := "ytpjgebbmbiohbaadoor", sum := "bdb011166980b9b6da019b2ec44559ee695b5365af5f134e8de2f0fcda3f0423", func := "culvert/culvertlaw6.StampParses", spec := "stampParses", named := ["internal/strconv.uint64pow10", "math/bits.deBruijn32tab", "math/bits.deBruijn64tab", "strconv.ErrSyntax", "strconv.ErrRange"], apart := false, laid := [("math/bits.deBruijn32tab", laid_math_bits_deBruijn32tab), ("math/bits.deBruijn64tab", laid_math_bits_deBruijn64tab), ("internal/strconv.uint64pow10", laid_internal_strconv_uint64pow10), ("strconv.ErrRange", laid_strconv_ErrRange), ("strconv.ErrSyntax", laid_strconv_ErrSyntax)], narrowed := true }
def StampParsesUptoSaid : Prop := stampParsesUptoRow.holds Tryd.pinned (OpenSpec.upto stampParsesSpec)

/-- 'culvertlaw6.StampOrder', WHERE WHAT IT READS IS OF BULK AT MOST 1048576: true; the input reads as it did. -/
def stampOrderUptoRow : OpenClaim := { program := "ytpjgebbmbiohbaadoor", sum := "bdb011166980b9b6da019b2ec44559ee695b5365af5f134e8de2f0fcda3f0423", func := "culvert/culvertlaw6.StampOrder", spec := "stampOrder", named := ["internal/strconv.uint64pow10", "math/bits.deBruijn32tab", "math/bits.deBruijn64tab", "strconv.ErrSyntax", "strconv.ErrRange"], apart := false, laid := [("math/bits.deBruijn32tab", laid_math_bits_deBruijn32tab), ("math/bits.deBruijn64tab", laid_math_bits_deBruijn64tab), ("internal/strconv.uint64pow10", laid_internal_strconv_uint64pow10), ("strconv.ErrRange", laid_strconv_ErrRange), ("strconv.ErrSyntax", laid_strconv_ErrSyntax)], narrowed := true }
def StampOrderUptoSaid : Prop := stampOrderUptoRow.holds Tryd.pinned (OpenSpec.upto stampOrderSpec)

/-- 'culvertlaw6.StampSteps', WHERE WHAT IT READS IS OF BULK AT MOST 1048576: true; the input reads as it did. -/
def stampStepsUptoRow : OpenClaim := { program := "ytpjgebbmbiohbaadoor", sum := "bdb011166980b9b6da019b2ec44559ee695b5365af5f134e8de2f0fcda3f0423", func := "culvert/culvertlaw6.StampSteps", spec := "stampSteps", named := ["internal/strconv.uint64pow10", "math/bits.deBruijn32tab", "math/bits.deBruijn64tab", "strconv.ErrSyntax", "strconv.ErrRange"], apart := false, laid := [("math/bits.deBruijn32tab", laid_math_bits_deBruijn32tab), ("math/bits.deBruijn64tab", laid_math_bits_deBruijn64tab), ("internal/strconv.uint64pow10", laid_internal_strconv_uint64pow10), ("strconv.ErrRange", laid_strconv_ErrRange), ("strconv.ErrSyntax", laid_strconv_ErrSyntax)], narrowed := true }
def StampStepsUptoSaid : Prop := stampStepsUptoRow.holds Tryd.pinned (OpenSpec.upto stampStepsSpec)

/-- 'culvertlaw6.StampOneForm', WHERE WHAT IT READS IS OF BULK AT MOST 1048576: true; the input reads as it did. -/
def stampOneFormUptoRow : OpenClaim := { program := "ytpjgebbmbiohbaadoor", sum := "bdb011166980b9b6da019b2ec44559ee695b5365af5f134e8de2f0fcda3f0423", func := "culvert/culvertlaw6.StampOneForm", spec := "stampOneForm", named := ["internal/strconv.uint64pow10", "math/bits.deBruijn32tab", "math/bits.deBruijn64tab", "strconv.ErrSyntax", "strconv.ErrRange"], apart := false, laid := [("math/bits.deBruijn32tab", laid_math_bits_deBruijn32tab), ("math/bits.deBruijn64tab", laid_math_bits_deBruijn64tab), ("internal/strconv.uint64pow10", laid_internal_strconv_uint64pow10), ("strconv.ErrRange", laid_strconv_ErrRange), ("strconv.ErrSyntax", laid_strconv_ErrSyntax)], narrowed := true }
def StampOneFormUptoSaid : Prop := stampOneFormUptoRow.holds Tryd.pinned (OpenSpec.upto stampOneFormSpec)

/-- 'culvertlaw6.StampPlace', WHERE WHAT IT READS IS OF BULK AT MOST 1048576: true; the input reads as it did. -/
def stampPlaceUptoRow : OpenClaim := { program := "ytpjgebbmbiohbaadoor", sum := "bdb011166980b9b6da019b2ec44559ee695b5365af5f134e8de2f0fcda3f0423", func := "culvert/culvertlaw6.StampPlace", spec := "stampPlace", named := ["internal/strconv.uint64pow10", "math/bits.deBruijn32tab", "math/bits.deBruijn64tab", "strconv.ErrSyntax", "strconv.ErrRange"], apart := false, laid := [("math/bits.deBruijn32tab", laid_math_bits_deBruijn32tab), ("math/bits.deBruijn64tab", laid_math_bits_deBruijn64tab), ("internal/strconv.uint64pow10", laid_internal_strconv_uint64pow10), ("strconv.ErrRange", laid_strconv_ErrRange), ("strconv.ErrSyntax", laid_strconv_ErrSyntax)], narrowed := true }
def StampPlaceUptoSaid : Prop := stampPlaceUptoRow.holds Tryd.pinned (OpenSpec.upto stampPlaceSpec)

end Rows
end Go.Proofs.YtpjgebbmbiohbaaDoor
