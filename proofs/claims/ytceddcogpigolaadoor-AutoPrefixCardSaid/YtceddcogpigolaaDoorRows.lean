/-
  NARROWER THAN 'FOR EVERY INPUT', by the rows' own cells (each row's printed sentence says how): FaultOthers: laid · FaultTells: laid · CandSets: laid · AutoSteps: laid · AutoPrefix: laid · PlainPrefix: laid · LiveAny: loops, laid · EncOne: loops, laid · LimitFits: loops, laid · LimitNeeded: loops, laid · LimitBoth: loops, laid.
  DERIVED. THE GIVEN ROWS OF THIS SEAT. 11 by the template 'for every input the law returns true; each argument reads behind the call as it read before'; 0 by the template 'total and deterministic' (their statements: YtceddcogpigolaaDoorTotals.lean).
  GIVEN WITH THE SEED: the statements are not yours to turn. If you find one false, say at which input.
  Laid BY PROGRAM, IN A SANDBOX (cutbox-rows.mjs): the forced cells as the released guide's own fill.sh prints them over the translation 56621d29a85646bd… (all of the seat's roots in one cut). By AI agents, Wed Nov 11 2026. No macro, syntax, notation, axiom, sorry.
-/
import Derived.Test.YtceddcogpigolaaDoorChecked
import GoSem.Claim
import GoSem.ClaimJoined
import GoSem.ClaimMapViews
import Derived.JoinedTies
import Derived.KernelRfl
namespace Go.Proofs.YtceddcogpigolaaDoor
/- THE CELL 'sum', in the pinned program and in every row, IS THE sha256 OF THE DUMP (.gsa) THAT YtceddcogpigolaaDoorProg.lean LOADS. Nothing in Lean hashes anything: it is a label: what it is worth is what the hold of that sum in a sandbox is worth. -/
noncomputable def Tryd.pinned : Pinned := { name := "ytceddcogpigolaadoor", sum := "56621d29a85646bd8bede80347fc459d8427e58bf38cc06b604de801ad55e317", checked := Tryd.checked }
namespace Rows
def none {H : Type} : Left H := { results := [], args := [] }

/- WHAT THE LISTED PACKAGE-LEVEL VARIABLES READ AS WHEN THE CALL BEGINS. Each datum BY PROGRAM (the guide's laid-datum.mjs) off the statement by which the dump's own 'gosem.cut.vars' lays the variable. In a bare row this is a premise. The card (YtceddcogpigolaaDoorCards.lean) ties it to the program's text. -/
def laid_math_bits_deBruijn32tab {H : Type} : DataW H := .agg [.lit (.int .u8 0), .lit (.int .u8 1), .lit (.int .u8 28), .lit (.int .u8 2), .lit (.int .u8 29), .lit (.int .u8 14), .lit (.int .u8 24), .lit (.int .u8 3), .lit (.int .u8 30), .lit (.int .u8 22), .lit (.int .u8 20), .lit (.int .u8 15), .lit (.int .u8 25), .lit (.int .u8 17), .lit (.int .u8 4), .lit (.int .u8 8), .lit (.int .u8 31), .lit (.int .u8 27), .lit (.int .u8 13), .lit (.int .u8 23), .lit (.int .u8 21), .lit (.int .u8 19), .lit (.int .u8 16), .lit (.int .u8 7), .lit (.int .u8 26), .lit (.int .u8 12), .lit (.int .u8 18), .lit (.int .u8 6), .lit (.int .u8 11), .lit (.int .u8 5), .lit (.int .u8 10), .lit (.int .u8 9)]
def laid_math_bits_deBruijn64tab {H : Type} : DataW H := .agg [.lit (.int .u8 0), .lit (.int .u8 1), .lit (.int .u8 56), .lit (.int .u8 2), .lit (.int .u8 57), .lit (.int .u8 49), .lit (.int .u8 28), .lit (.int .u8 3), .lit (.int .u8 61), .lit (.int .u8 58), .lit (.int .u8 42), .lit (.int .u8 50), .lit (.int .u8 38), .lit (.int .u8 29), .lit (.int .u8 17), .lit (.int .u8 4), .lit (.int .u8 62), .lit (.int .u8 47), .lit (.int .u8 59), .lit (.int .u8 36), .lit (.int .u8 45), .lit (.int .u8 43), .lit (.int .u8 51), .lit (.int .u8 22), .lit (.int .u8 53), .lit (.int .u8 39), .lit (.int .u8 33), .lit (.int .u8 30), .lit (.int .u8 24), .lit (.int .u8 18), .lit (.int .u8 12), .lit (.int .u8 5), .lit (.int .u8 63), .lit (.int .u8 55), .lit (.int .u8 48), .lit (.int .u8 27), .lit (.int .u8 60), .lit (.int .u8 41), .lit (.int .u8 37), .lit (.int .u8 16), .lit (.int .u8 46), .lit (.int .u8 35), .lit (.int .u8 44), .lit (.int .u8 21), .lit (.int .u8 52), .lit (.int .u8 32), .lit (.int .u8 23), .lit (.int .u8 11), .lit (.int .u8 54), .lit (.int .u8 26), .lit (.int .u8 40), .lit (.int .u8 15), .lit (.int .u8 34), .lit (.int .u8 20), .lit (.int .u8 31), .lit (.int .u8 10), .lit (.int .u8 25), .lit (.int .u8 14), .lit (.int .u8 19), .lit (.int .u8 9), .lit (.int .u8 13), .lit (.int .u8 8), .lit (.int .u8 7), .lit (.int .u8 6)]
def laid_internal_strconv_uint64pow10 {H : Type} : DataW H := .agg [.lit (.int .u64 1), .lit (.int .u64 10), .lit (.int .u64 100), .lit (.int .u64 1000), .lit (.int .u64 10000), .lit (.int .u64 100000), .lit (.int .u64 1000000), .lit (.int .u64 10000000), .lit (.int .u64 100000000), .lit (.int .u64 1000000000), .lit (.int .u64 10000000000), .lit (.int .u64 100000000000), .lit (.int .u64 1000000000000), .lit (.int .u64 10000000000000), .lit (.int .u64 100000000000000), .lit (.int .u64 1000000000000000), .lit (.int .u64 10000000000000000), .lit (.int .u64 100000000000000000), .lit (.int .u64 1000000000000000000), .lit (.int .u64 10000000000000000000)]
def laid_errors_errorType {H : Type} : DataW H := .iface "internal/reflectlite.rtype" (.agg [.ptr (.lit (.string [101, 114, 114, 111, 114]))])
def laid_ullage_float_double {H : Type} : DataW H := .agg [.lit (.int .i64 11), .lit (.int .i64 52)]

/-- 'ullagelaw12.FaultOthers': WHATEVER THE INPUT: true; the input reads as it did. -/
def faultOthersSpec : ChangeSpec := { name := "faultOthers", fn := fun _ => fun
  | [d] => { results := [.lit (.bool true)], args := [d] }
  | _ => none }
def faultOthersRow : OpenClaim := { program := "ytceddcogpigolaadoor", sum := "56621d29a85646bd8bede80347fc459d8427e58bf38cc06b604de801ad55e317", func := "ullage/ullagelaw12.FaultOthers", spec := "faultOthers", inPlace := ["internal/reflectlite.ValueOf", "(internal/reflectlite.Value).Type", "(internal/reflectlite.Value).IsNil", "internal/reflectlite.TypeOf", "(internal/reflectlite.Value).Elem", "(internal/reflectlite.Value).Set"], unfollowed := true, recurses := true, named := ["errors.errorType", "internal/strconv.uint64pow10", "math/bits.deBruijn32tab", "math/bits.deBruijn64tab"], apart := false, laid := [("math/bits.deBruijn32tab", laid_math_bits_deBruijn32tab), ("math/bits.deBruijn64tab", laid_math_bits_deBruijn64tab), ("internal/strconv.uint64pow10", laid_internal_strconv_uint64pow10), ("errors.errorType", laid_errors_errorType)] }
def FaultOthersSaid : Prop := faultOthersRow.holds Tryd.pinned (OpenSpec.ofChange faultOthersSpec)

/-- ITS FALSE NEIGHBOUR: 'it returns false'. Refute it at one input. -/
def faultOthersWrong : ChangeSpec := { name := "faultOthers", fn := fun _ => fun
  | [d] => { results := [.lit (.bool false)], args := [d] }
  | _ => none }
def FaultOthersWrongFalsely : Prop := faultOthersRow.holds Tryd.pinned (OpenSpec.ofChange faultOthersWrong)

/-- 'ullagelaw12.FaultTells': WHATEVER THE INPUT: true; the input reads as it did. -/
def faultTellsSpec : ChangeSpec := { name := "faultTells", fn := fun _ => fun
  | [d1, d2, d3] => { results := [.lit (.bool true)], args := [d1, d2, d3] }
  | _ => none }
def faultTellsRow : OpenClaim := { program := "ytceddcogpigolaadoor", sum := "56621d29a85646bd8bede80347fc459d8427e58bf38cc06b604de801ad55e317", func := "ullage/ullagelaw12.FaultTells", spec := "faultTells", inPlace := ["internal/reflectlite.ValueOf", "(internal/reflectlite.Value).Type", "(internal/reflectlite.Value).IsNil", "internal/reflectlite.TypeOf", "(internal/reflectlite.Value).Elem", "(internal/reflectlite.Value).Set"], unfollowed := true, recurses := true, named := ["errors.errorType", "internal/strconv.uint64pow10", "math/bits.deBruijn32tab", "math/bits.deBruijn64tab"], apart := false, laid := [("math/bits.deBruijn32tab", laid_math_bits_deBruijn32tab), ("math/bits.deBruijn64tab", laid_math_bits_deBruijn64tab), ("internal/strconv.uint64pow10", laid_internal_strconv_uint64pow10), ("errors.errorType", laid_errors_errorType)] }
def FaultTellsSaid : Prop := faultTellsRow.holds Tryd.pinned (OpenSpec.ofChange faultTellsSpec)

/-- ITS FALSE NEIGHBOUR: 'it returns false'. Refute it at one input. -/
def faultTellsWrong : ChangeSpec := { name := "faultTells", fn := fun _ => fun
  | [d1, d2, d3] => { results := [.lit (.bool false)], args := [d1, d2, d3] }
  | _ => none }
def FaultTellsWrongFalsely : Prop := faultTellsRow.holds Tryd.pinned (OpenSpec.ofChange faultTellsWrong)

/-- 'ullagelaw19.CandSets': WHATEVER THE INPUT: true; the input reads as it did. -/
def candSetsSpec : ChangeSpec := { name := "candSets", fn := fun _ => fun
  | [d1, d2, d3, d4] => { results := [.lit (.bool true)], args := [d1, d2, d3, d4] }
  | _ => none }
def candSetsRow : OpenClaim := { program := "ytceddcogpigolaadoor", sum := "56621d29a85646bd8bede80347fc459d8427e58bf38cc06b604de801ad55e317", func := "ullage/ullagelaw19.CandSets", spec := "candSets", unfollowed := true, recurses := true, named := ["ullage/float.double", "math/bits.deBruijn64tab"], apart := false, laid := [("math/bits.deBruijn64tab", laid_math_bits_deBruijn64tab), ("ullage/float.double", laid_ullage_float_double)] }
def CandSetsSaid : Prop := candSetsRow.holds Tryd.pinned (OpenSpec.ofChange candSetsSpec)

/-- ITS FALSE NEIGHBOUR: 'it returns false'. Refute it at one input. -/
def candSetsWrong : ChangeSpec := { name := "candSets", fn := fun _ => fun
  | [d1, d2, d3, d4] => { results := [.lit (.bool false)], args := [d1, d2, d3, d4] }
  | _ => none }
def CandSetsWrongFalsely : Prop := candSetsRow.holds Tryd.pinned (OpenSpec.ofChange candSetsWrong)

/-- 'ullagelaw14.AutoSteps': WHATEVER THE INPUT: true; the input reads as it did. -/
def autoStepsSpec : ChangeSpec := { name := "autoSteps", fn := fun _ => fun
  | [d1, d2] => { results := [.lit (.bool true)], args := [d1, d2] }
  | _ => none }
def autoStepsRow : OpenClaim := { program := "ytceddcogpigolaadoor", sum := "56621d29a85646bd8bede80347fc459d8427e58bf38cc06b604de801ad55e317", func := "ullage/ullagelaw14.AutoSteps", spec := "autoSteps", inPlace := ["internal/bytealg.Compare"], unfollowed := true, recurses := true, named := ["ullage/float.double"], apart := false, laid := [("ullage/float.double", laid_ullage_float_double)] }
def AutoStepsSaid : Prop := autoStepsRow.holds Tryd.pinned (OpenSpec.ofChange autoStepsSpec)

/-- ITS FALSE NEIGHBOUR: 'it returns false'. Refute it at one input. -/
def autoStepsWrong : ChangeSpec := { name := "autoSteps", fn := fun _ => fun
  | [d1, d2] => { results := [.lit (.bool false)], args := [d1, d2] }
  | _ => none }
def AutoStepsWrongFalsely : Prop := autoStepsRow.holds Tryd.pinned (OpenSpec.ofChange autoStepsWrong)

/-- 'ullagelaw14.AutoPrefix': WHATEVER THE INPUT: true; the input reads as it did. -/
def autoPrefixSpec : ChangeSpec := { name := "autoPrefix", fn := fun _ => fun
  | [d1, d2, d3] => { results := [.lit (.bool true)], args := [d1, d2, d3] }
  | _ => none }
def autoPrefixRow : OpenClaim := { program := "ytceddcogpigolaadoor", sum := "56621d29a85646bd8bede80347fc459d8427e58bf38cc06b604de801ad55e317", func := "ullage/ullagelaw14.AutoPrefix", spec := "autoPrefix", inPlace := ["internal/bytealg.Compare"], unfollowed := true, recurses := true, named := ["ullage/float.double"], apart := false, laid := [("ullage/float.double", laid_ullage_float_double)] }
def AutoPrefixSaid : Prop := autoPrefixRow.holds Tryd.pinned (OpenSpec.ofChange autoPrefixSpec)

/-- ITS FALSE NEIGHBOUR: 'it returns false'. Refute it at one input. -/
def autoPrefixWrong : ChangeSpec := { name := "autoPrefix", fn := fun _ => fun
  | [d1, d2, d3] => { results := [.lit (.bool false)], args := [d1, d2, d3] }
  | _ => none }
def AutoPrefixWrongFalsely : Prop := autoPrefixRow.holds Tryd.pinned (OpenSpec.ofChange autoPrefixWrong)

/-- 'ullagelaw15.PlainPrefix': WHATEVER THE INPUT: true; the input reads as it did. -/
def plainPrefixSpec : ChangeSpec := { name := "plainPrefix", fn := fun _ => fun
  | [d1, d2] => { results := [.lit (.bool true)], args := [d1, d2] }
  | _ => none }
def plainPrefixRow : OpenClaim := { program := "ytceddcogpigolaadoor", sum := "56621d29a85646bd8bede80347fc459d8427e58bf38cc06b604de801ad55e317", func := "ullage/ullagelaw15.PlainPrefix", spec := "plainPrefix", inPlace := ["internal/bytealg.Compare"], unfollowed := true, recurses := true, named := ["ullage/float.double"], apart := false, laid := [("ullage/float.double", laid_ullage_float_double)] }
def PlainPrefixSaid : Prop := plainPrefixRow.holds Tryd.pinned (OpenSpec.ofChange plainPrefixSpec)

/-- ITS FALSE NEIGHBOUR: 'it returns false'. Refute it at one input. -/
def plainPrefixWrong : ChangeSpec := { name := "plainPrefix", fn := fun _ => fun
  | [d1, d2] => { results := [.lit (.bool false)], args := [d1, d2] }
  | _ => none }
def PlainPrefixWrongFalsely : Prop := plainPrefixRow.holds Tryd.pinned (OpenSpec.ofChange plainPrefixWrong)

/-- 'ullagelaw20.LiveAny': WHATEVER THE INPUT: true; the input reads as it did. -/
def liveAnySpec : ChangeSpec := { name := "liveAny", fn := fun _ => fun
  | [d1, d2, d3] => { results := [.lit (.bool true)], args := [d1, d2, d3] }
  | _ => none }
def liveAnyRow : OpenClaim := { program := "ytceddcogpigolaadoor", sum := "56621d29a85646bd8bede80347fc459d8427e58bf38cc06b604de801ad55e317", func := "ullage/ullagelaw20.LiveAny", spec := "liveAny", unfollowed := true, recurses := true, named := ["ullage/float.double", "math/bits.deBruijn64tab"], loops := true, apart := false, laid := [("math/bits.deBruijn64tab", laid_math_bits_deBruijn64tab), ("ullage/float.double", laid_ullage_float_double)] }
def LiveAnySaid : Prop := liveAnyRow.holds Tryd.pinned (OpenSpec.ofChange liveAnySpec)

/-- ITS FALSE NEIGHBOUR: 'it returns false'. Refute it at one input. -/
def liveAnyWrong : ChangeSpec := { name := "liveAny", fn := fun _ => fun
  | [d1, d2, d3] => { results := [.lit (.bool false)], args := [d1, d2, d3] }
  | _ => none }
def LiveAnyWrongFalsely : Prop := liveAnyRow.holds Tryd.pinned (OpenSpec.ofChange liveAnyWrong)

/-- 'ullagelaw09.EncOne': WHATEVER THE INPUT: true; the input reads as it did. -/
def encOneSpec : ChangeSpec := { name := "encOne", fn := fun _ => fun
  | [d1, d2] => { results := [.lit (.bool true)], args := [d1, d2] }
  | _ => none }
def encOneRow : OpenClaim := { program := "ytceddcogpigolaadoor", sum := "56621d29a85646bd8bede80347fc459d8427e58bf38cc06b604de801ad55e317", func := "ullage/ullagelaw09.EncOne", spec := "encOne", inPlace := ["internal/bytealg.Compare"], unfollowed := true, recurses := true, named := ["ullage/float.double"], loops := true, apart := false, laid := [("ullage/float.double", laid_ullage_float_double)] }
def EncOneSaid : Prop := encOneRow.holds Tryd.pinned (OpenSpec.ofChange encOneSpec)

/-- ITS FALSE NEIGHBOUR: 'it returns false'. Refute it at one input. -/
def encOneWrong : ChangeSpec := { name := "encOne", fn := fun _ => fun
  | [d1, d2] => { results := [.lit (.bool false)], args := [d1, d2] }
  | _ => none }
def EncOneWrongFalsely : Prop := encOneRow.holds Tryd.pinned (OpenSpec.ofChange encOneWrong)

/-- 'ullagelaw11.LimitFits': WHATEVER THE INPUT: true; the input reads as it did. -/
def limitFitsSpec : ChangeSpec := { name := "limitFits", fn := fun _ => fun
  | [d1, d2] => { results := [.lit (.bool true)], args := [d1, d2] }
  | _ => none }
def limitFitsRow : OpenClaim := { program := "ytceddcogpigolaadoor", sum := "56621d29a85646bd8bede80347fc459d8427e58bf38cc06b604de801ad55e317", func := "ullage/ullagelaw11.LimitFits", spec := "limitFits", inPlace := ["internal/bytealg.Compare"], unfollowed := true, recurses := true, named := ["ullage/float.double"], loops := true, apart := false, laid := [("ullage/float.double", laid_ullage_float_double)] }
def LimitFitsSaid : Prop := limitFitsRow.holds Tryd.pinned (OpenSpec.ofChange limitFitsSpec)

/-- ITS FALSE NEIGHBOUR: 'it returns false'. Refute it at one input. -/
def limitFitsWrong : ChangeSpec := { name := "limitFits", fn := fun _ => fun
  | [d1, d2] => { results := [.lit (.bool false)], args := [d1, d2] }
  | _ => none }
def LimitFitsWrongFalsely : Prop := limitFitsRow.holds Tryd.pinned (OpenSpec.ofChange limitFitsWrong)

/-- 'ullagelaw11.LimitNeeded': WHATEVER THE INPUT: true; the input reads as it did. -/
def limitNeededSpec : ChangeSpec := { name := "limitNeeded", fn := fun _ => fun
  | [d1, d2] => { results := [.lit (.bool true)], args := [d1, d2] }
  | _ => none }
def limitNeededRow : OpenClaim := { program := "ytceddcogpigolaadoor", sum := "56621d29a85646bd8bede80347fc459d8427e58bf38cc06b604de801ad55e317", func := "ullage/ullagelaw11.LimitNeeded", spec := "limitNeeded", inPlace := ["internal/bytealg.Compare"], unfollowed := true, recurses := true, named := ["ullage/float.double"], loops := true, apart := false, laid := [("ullage/float.double", laid_ullage_float_double)] }
def LimitNeededSaid : Prop := limitNeededRow.holds Tryd.pinned (OpenSpec.ofChange limitNeededSpec)

/-- ITS FALSE NEIGHBOUR: 'it returns false'. Refute it at one input. -/
def limitNeededWrong : ChangeSpec := { name := "limitNeeded", fn := fun _ => fun
  | [d1, d2] => { results := [.lit (.bool false)], args := [d1, d2] }
  | _ => none }
def LimitNeededWrongFalsely : Prop := limitNeededRow.holds Tryd.pinned (OpenSpec.ofChange limitNeededWrong)

/-- 'ullagelaw11.LimitBoth': WHATEVER THE INPUT: true; the input reads as it did. -/
def limitBothSpec : ChangeSpec := { name := "limitBoth", fn := fun _ => fun
  | [d1, d2, d3] => { results := [.lit (.bool true)], args := [d1, d2, d3] }
  | _ => none }
def limitBothRow : OpenClaim := { program := "ytceddcogpigolaadoor", sum := "56621d29a85646bd8bede80347fc459d8427e58bf38cc06b604de801ad55e317", func := "ullage/ullagelaw11.LimitBoth", spec := "limitBoth", inPlace := ["internal/bytealg.Compare"], unfollowed := true, recurses := true, named := ["ullage/float.double"], loops := true, apart := false, laid := [("ullage/float.double", laid_ullage_float_double)] }
def LimitBothSaid : Prop := limitBothRow.holds Tryd.pinned (OpenSpec.ofChange limitBothSpec)

/-- ITS FALSE NEIGHBOUR: 'it returns false'. Refute it at one input. -/
def limitBothWrong : ChangeSpec := { name := "limitBoth", fn := fun _ => fun
  | [d1, d2, d3] => { results := [.lit (.bool false)], args := [d1, d2, d3] }
  | _ => none }
def LimitBothWrongFalsely : Prop := limitBothRow.holds Tryd.pinned (OpenSpec.ofChange limitBothWrong)

/- THE SECOND FORM. 'bulk': how many values and letters a reading holds, each counted each time it is reached (what is shared counts as often as it is met; a slice's spare places count too). A statement '..UptoSaid' is the law's where the arguments, and the package variables that the reading takes, are together of bulk at most 1048576: NARROWER than '..Said'. Prove '..Said' where nothing that the law and all that it calls make is longer than what came in: it says more and counts as full. Else prove '..UptoSaid'. A law counts once. -/
mutual
def uptoBulk {H : Type} : DataW H → Nat
  | .lit (.string bytes) => bytes.length + 1
  | .lit _ => 1
  | .nil => 1
  | .ptr d => uptoBulk d + 1
  | .slice elems spare => uptoBulkAll elems + uptoBulkAll spare + 1
  | .agg parts => uptoBulkAll parts + 1
  | .iface _ d => uptoBulk d + 1
  | .map entries => uptoBulkEntries entries + 1
  | .held _ => 1
def uptoBulkAll {H : Type} : List (DataW H) → Nat
  | [] => 0
  | d :: r => uptoBulk d + uptoBulkAll r
def uptoBulkEntries {H : Type} : List (Lit × DataW H) → Nat
  | [] => 0
  | x :: r => uptoBulkEntry x + uptoBulkEntries r
def uptoBulkEntry {H : Type} : Lit × DataW H → Nat
  | (.string bytes, d) => bytes.length + uptoBulk d + 1
  | (_, d) => uptoBulk d + 1
 end
def uptoSmall : (H : Type) → List (DataW H) → Bool := fun _ ds => decide (uptoBulkAll ds ≤ 1048576)
def OpenSpec.upto (s : _root_.Go.ChangeSpec) : _root_.Go.OpenSpec := { _root_.Go.OpenSpec.ofChange s with cond := some uptoSmall }

/-- 'ullagelaw12.FaultOthers', WHERE WHAT IT READS IS OF BULK AT MOST 1048576: true; the input reads as it did. -/
def faultOthersUptoRow : OpenClaim := { program := "ytceddcogpigolaadoor", sum := "56621d29a85646bd8bede80347fc459d8427e58bf38cc06b604de801ad55e317", func := "ullage/ullagelaw12.FaultOthers", spec := "faultOthers", inPlace := ["internal/reflectlite.ValueOf", "(internal/reflectlite.Value).Type", "(internal/reflectlite.Value).IsNil", "internal/reflectlite.TypeOf", "(internal/reflectlite.Value).Elem", "(internal/reflectlite.Value).Set"], unfollowed := true, recurses := true, named := ["errors.errorType", "internal/strconv.uint64pow10", "math/bits.deBruijn32tab", "math/bits.deBruijn64tab"], apart := false, laid := [("math/bits.deBruijn32tab", laid_math_bits_deBruijn32tab), ("math/bits.deBruijn64tab", laid_math_bits_deBruijn64tab), ("internal/strconv.uint64pow10", laid_internal_strconv_uint64pow10), ("errors.errorType", laid_errors_errorType)], narrowed := true }
def FaultOthersUptoSaid : Prop := faultOthersUptoRow.holds Tryd.pinned (OpenSpec.upto faultOthersSpec)

/-- 'ullagelaw12.FaultTells', WHERE WHAT IT READS IS OF BULK AT MOST 1048576: true; the input reads as it did. -/
def faultTellsUptoRow : OpenClaim := { program := "ytceddcogpigolaadoor", sum := "56621d29a85646bd8bede80347fc459d8427e58bf38cc06b604de801ad55e317", func := "ullage/ullagelaw12.FaultTells", spec := "faultTells", inPlace := ["internal/reflectlite.ValueOf", "(internal/reflectlite.Value).Type", "(internal/reflectlite.Value).IsNil", "internal/reflectlite.TypeOf", "(internal/reflectlite.Value).Elem", "(internal/reflectlite.Value).Set"], unfollowed := true, recurses := true, named := ["errors.errorType", "internal/strconv.uint64pow10", "math/bits.deBruijn32tab", "math/bits.deBruijn64tab"], apart := false, laid := [("math/bits.deBruijn32tab", laid_math_bits_deBruijn32tab), ("math/bits.deBruijn64tab", laid_math_bits_deBruijn64tab), ("internal/strconv.uint64pow10", laid_internal_strconv_uint64pow10), ("errors.errorType", laid_errors_errorType)], narrowed := true }
def FaultTellsUptoSaid : Prop := faultTellsUptoRow.holds Tryd.pinned (OpenSpec.upto faultTellsSpec)

/-- 'ullagelaw19.CandSets', WHERE WHAT IT READS IS OF BULK AT MOST 1048576: true; the input reads as it did. -/
def candSetsUptoRow : OpenClaim := { program := "ytceddcogpigolaadoor", sum := "56621d29a85646bd8bede80347fc459d8427e58bf38cc06b604de801ad55e317", func := "ullage/ullagelaw19.CandSets", spec := "candSets", unfollowed := true, recurses := true, named := ["ullage/float.double", "math/bits.deBruijn64tab"], apart := false, laid := [("math/bits.deBruijn64tab", laid_math_bits_deBruijn64tab), ("ullage/float.double", laid_ullage_float_double)], narrowed := true }
def CandSetsUptoSaid : Prop := candSetsUptoRow.holds Tryd.pinned (OpenSpec.upto candSetsSpec)

/-- 'ullagelaw14.AutoSteps', WHERE WHAT IT READS IS OF BULK AT MOST 1048576: true; the input reads as it did. -/
def autoStepsUptoRow : OpenClaim := { program := "ytceddcogpigolaadoor", sum := "56621d29a85646bd8bede80347fc459d8427e58bf38cc06b604de801ad55e317", func := "ullage/ullagelaw14.AutoSteps", spec := "autoSteps", inPlace := ["internal/bytealg.Compare"], unfollowed := true, recurses := true, named := ["ullage/float.double"], apart := false, laid := [("ullage/float.double", laid_ullage_float_double)], narrowed := true }
def AutoStepsUptoSaid : Prop := autoStepsUptoRow.holds Tryd.pinned (OpenSpec.upto autoStepsSpec)

/-- 'ullagelaw14.AutoPrefix', WHERE WHAT IT READS IS OF BULK AT MOST 1048576: true; the input reads as it did. -/
def autoPrefixUptoRow : OpenClaim := { program := "ytceddcogpigolaadoor", sum := "56621d29a85646bd8bede80347fc459d8427e58bf38cc06b604de801ad55e317", func := "ullage/ullagelaw14.AutoPrefix", spec := "autoPrefix", inPlace := ["internal/bytealg.Compare"], unfollowed := true, recurses := true, named := ["ullage/float.double"], apart := false, laid := [("ullage/float.double", laid_ullage_float_double)], narrowed := true }
def AutoPrefixUptoSaid : Prop := autoPrefixUptoRow.holds Tryd.pinned (OpenSpec.upto autoPrefixSpec)

/-- 'ullagelaw15.PlainPrefix', WHERE WHAT IT READS IS OF BULK AT MOST 1048576: true; the input reads as it did. -/
def plainPrefixUptoRow : OpenClaim := { program := "ytceddcogpigolaadoor", sum := "56621d29a85646bd8bede80347fc459d8427e58bf38cc06b604de801ad55e317", func := "ullage/ullagelaw15.PlainPrefix", spec := "plainPrefix", inPlace := ["internal/bytealg.Compare"], unfollowed := true, recurses := true, named := ["ullage/float.double"], apart := false, laid := [("ullage/float.double", laid_ullage_float_double)], narrowed := true }
def PlainPrefixUptoSaid : Prop := plainPrefixUptoRow.holds Tryd.pinned (OpenSpec.upto plainPrefixSpec)

/-- 'ullagelaw20.LiveAny', WHERE WHAT IT READS IS OF BULK AT MOST 1048576: true; the input reads as it did. -/
def liveAnyUptoRow : OpenClaim := { program := "ytceddcogpigolaadoor", sum := "56621d29a85646bd8bede80347fc459d8427e58bf38cc06b604de801ad55e317", func := "ullage/ullagelaw20.LiveAny", spec := "liveAny", unfollowed := true, recurses := true, named := ["ullage/float.double", "math/bits.deBruijn64tab"], loops := true, apart := false, laid := [("math/bits.deBruijn64tab", laid_math_bits_deBruijn64tab), ("ullage/float.double", laid_ullage_float_double)], narrowed := true }
def LiveAnyUptoSaid : Prop := liveAnyUptoRow.holds Tryd.pinned (OpenSpec.upto liveAnySpec)

/-- 'ullagelaw09.EncOne', WHERE WHAT IT READS IS OF BULK AT MOST 1048576: true; the input reads as it did. -/
def encOneUptoRow : OpenClaim := { program := "ytceddcogpigolaadoor", sum := "56621d29a85646bd8bede80347fc459d8427e58bf38cc06b604de801ad55e317", func := "ullage/ullagelaw09.EncOne", spec := "encOne", inPlace := ["internal/bytealg.Compare"], unfollowed := true, recurses := true, named := ["ullage/float.double"], loops := true, apart := false, laid := [("ullage/float.double", laid_ullage_float_double)], narrowed := true }
def EncOneUptoSaid : Prop := encOneUptoRow.holds Tryd.pinned (OpenSpec.upto encOneSpec)

/-- 'ullagelaw11.LimitFits', WHERE WHAT IT READS IS OF BULK AT MOST 1048576: true; the input reads as it did. -/
def limitFitsUptoRow : OpenClaim := { program := "ytceddcogpigolaadoor", sum := "56621d29a85646bd8bede80347fc459d8427e58bf38cc06b604de801ad55e317", func := "ullage/ullagelaw11.LimitFits", spec := "limitFits", inPlace := ["internal/bytealg.Compare"], unfollowed := true, recurses := true, named := ["ullage/float.double"], loops := true, apart := false, laid := [("ullage/float.double", laid_ullage_float_double)], narrowed := true }
def LimitFitsUptoSaid : Prop := limitFitsUptoRow.holds Tryd.pinned (OpenSpec.upto limitFitsSpec)

/-- 'ullagelaw11.LimitNeeded', WHERE WHAT IT READS IS OF BULK AT MOST 1048576: true; the input reads as it did. -/
def limitNeededUptoRow : OpenClaim := { program := "ytceddcogpigolaadoor", sum := "56621d29a85646bd8bede80347fc459d8427e58bf38cc06b604de801ad55e317", func := "ullage/ullagelaw11.LimitNeeded", spec := "limitNeeded", inPlace := ["internal/bytealg.Compare"], unfollowed := true, recurses := true, named := ["ullage/float.double"], loops := true, apart := false, laid := [("ullage/float.double", laid_ullage_float_double)], narrowed := true }
def LimitNeededUptoSaid : Prop := limitNeededUptoRow.holds Tryd.pinned (OpenSpec.upto limitNeededSpec)

/-- 'ullagelaw11.LimitBoth', WHERE WHAT IT READS IS OF BULK AT MOST 1048576: true; the input reads as it did. -/
def limitBothUptoRow : OpenClaim := { program := "ytceddcogpigolaadoor", sum := "56621d29a85646bd8bede80347fc459d8427e58bf38cc06b604de801ad55e317", func := "ullage/ullagelaw11.LimitBoth", spec := "limitBoth", inPlace := ["internal/bytealg.Compare"], unfollowed := true, recurses := true, named := ["ullage/float.double"], loops := true, apart := false, laid := [("ullage/float.double", laid_ullage_float_double)], narrowed := true }
def LimitBothUptoSaid : Prop := limitBothUptoRow.holds Tryd.pinned (OpenSpec.upto limitBothSpec)

end Rows
end Go.Proofs.YtceddcogpigolaaDoor
