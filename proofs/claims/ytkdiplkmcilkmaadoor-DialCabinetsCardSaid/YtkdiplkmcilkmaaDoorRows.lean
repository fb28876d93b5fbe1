/-
  NARROWER THAN 'FOR EVERY INPUT', by the rows' own cells (each row's printed sentence says how): DialSets: laid · DialAlgebra: laid · DialMarks: laid · DialAngles: laid · DialGrows: laid · DialMembers: laid · DialConfuses: laid · DialKnows: laid · DialStrikesRead: laid · DialMakersStrike: laid · DialKeys: laid · DialTwice: laid · DialProposes: laid · DialSharper: laid · DialCabinets: laid.
  DERIVED. THE GIVEN ROWS OF THIS SEAT. 15 by the template 'for every input the law returns true; each argument reads behind the call as it read before'; 0 by the template 'total and deterministic' (their statements: YtkdiplkmcilkmaaDoorTotals.lean).
  GIVEN WITH THE SEED: the statements are not yours to turn. If you find one false, say at which input.
  Laid BY PROGRAM, IN A SANDBOX (cutbox-rows.mjs): the forced cells as the released guide's own fill.sh prints them over the translation be767d0c119d0edb… (all of the seat's roots in one cut). By AI agents, Wed Nov 11 2026. No macro, syntax, notation, axiom, sorry.
-/
import Derived.Test.YtkdiplkmcilkmaaDoorChecked
import GoSem.Claim
import GoSem.ClaimJoined
import GoSem.ClaimMapViews
import Derived.JoinedTies
import Derived.KernelRfl
namespace Go.Proofs.YtkdiplkmcilkmaaDoor
/- THE CELL 'sum', in the pinned program and in every row, IS THE sha256 OF THE DUMP (.gsa) THAT YtkdiplkmcilkmaaDoorProg.lean LOADS. Nothing in Lean hashes anything: it is a label: what it is worth is what the hold of that sum in a sandbox is worth. -/
noncomputable def Tryd.pinned : Pinned := { name := "ytkdiplkmcilkmaadoor", sum := "be767d0c119d0edb7006dce31b4473f2162a8ba985f1e700770f02fe4df21853", checked := Tryd.checked }
namespace Rows
def none {H : Type} : Left H := { results := [], args := [] }

/- WHAT THE LISTED PACKAGE-LEVEL VARIABLES READ AS WHEN THE CALL BEGINS. Each datum BY PROGRAM (the guide's laid-datum.mjs) off the statement by which the dump's own 'gosem.cut.vars' lays the variable. In a bare row this is a premise. The card (YtkdiplkmcilkmaaDoorCards.lean) ties it to the program's text. -/
def laid_math_bits_deBruijn32tab {H : Type} : DataW H := .agg [.lit (.int .u8 0), .lit (.int .u8 1), .lit (.int .u8 28), .lit (.int .u8 2), .lit (.int .u8 29), .lit (.int .u8 14), .lit (.int .u8 24), .lit (.int .u8 3), .lit (.int .u8 30), .lit (.int .u8 22), .lit (.int .u8 20), .lit (.int .u8 15), .lit (.int .u8 25), .lit (.int .u8 17), .lit (.int .u8 4), .lit (.int .u8 8), .lit (.int .u8 31), .lit (.int .u8 27), .lit (.int .u8 13), .lit (.int .u8 23), .lit (.int .u8 21), .lit (.int .u8 19), .lit (.int .u8 16), .lit (.int .u8 7), .lit (.int .u8 26), .lit (.int .u8 12), .lit (.int .u8 18), .lit (.int .u8 6), .lit (.int .u8 11), .lit (.int .u8 5), .lit (.int .u8 10), .lit (.int .u8 9)]
def laid_math_bits_deBruijn64tab {H : Type} : DataW H := .agg [.lit (.int .u8 0), .lit (.int .u8 1), .lit (.int .u8 56), .lit (.int .u8 2), .lit (.int .u8 57), .lit (.int .u8 49), .lit (.int .u8 28), .lit (.int .u8 3), .lit (.int .u8 61), .lit (.int .u8 58), .lit (.int .u8 42), .lit (.int .u8 50), .lit (.int .u8 38), .lit (.int .u8 29), .lit (.int .u8 17), .lit (.int .u8 4), .lit (.int .u8 62), .lit (.int .u8 47), .lit (.int .u8 59), .lit (.int .u8 36), .lit (.int .u8 45), .lit (.int .u8 43), .lit (.int .u8 51), .lit (.int .u8 22), .lit (.int .u8 53), .lit (.int .u8 39), .lit (.int .u8 33), .lit (.int .u8 30), .lit (.int .u8 24), .lit (.int .u8 18), .lit (.int .u8 12), .lit (.int .u8 5), .lit (.int .u8 63), .lit (.int .u8 55), .lit (.int .u8 48), .lit (.int .u8 27), .lit (.int .u8 60), .lit (.int .u8 41), .lit (.int .u8 37), .lit (.int .u8 16), .lit (.int .u8 46), .lit (.int .u8 35), .lit (.int .u8 44), .lit (.int .u8 21), .lit (.int .u8 52), .lit (.int .u8 32), .lit (.int .u8 23), .lit (.int .u8 11), .lit (.int .u8 54), .lit (.int .u8 26), .lit (.int .u8 40), .lit (.int .u8 15), .lit (.int .u8 34), .lit (.int .u8 20), .lit (.int .u8 31), .lit (.int .u8 10), .lit (.int .u8 25), .lit (.int .u8 14), .lit (.int .u8 19), .lit (.int .u8 9), .lit (.int .u8 13), .lit (.int .u8 8), .lit (.int .u8 7), .lit (.int .u8 6)]
def laid_internal_strconv_uint64pow10 {H : Type} : DataW H := .agg [.lit (.int .u64 1), .lit (.int .u64 10), .lit (.int .u64 100), .lit (.int .u64 1000), .lit (.int .u64 10000), .lit (.int .u64 100000), .lit (.int .u64 1000000), .lit (.int .u64 10000000), .lit (.int .u64 100000000), .lit (.int .u64 1000000000), .lit (.int .u64 10000000000), .lit (.int .u64 100000000000), .lit (.int .u64 1000000000000), .lit (.int .u64 10000000000000), .lit (.int .u64 100000000000000), .lit (.int .u64 1000000000000000), .lit (.int .u64 10000000000000000), .lit (.int .u64 100000000000000000), .lit (.int .u64 1000000000000000000), .lit (.int .u64 10000000000000000000)]

/-- 'patrollaw01.DialSets': WHATEVER THE INPUT: true; the input reads as it did. -/
def dialSetsSpec : ChangeSpec := { name := "dialSets", fn := fun _ => fun
  | [d1, d2] => { results := [.lit (.bool true)], args := [d1, d2] }
  | _ => none }
def dialSetsRow : OpenClaim := { program := "ytkdiplkmcilkmaadoor", sum := "be767d0c119d0edb7006dce31b4473f2162a8ba985f1e700770f02fe4df21853", func := "patrol/patrollaw01.DialSets", spec := "dialSets", inPlace := ["internal/abi.NoEscape"], unfollowed := true, recurses := true, named := ["internal/strconv.uint64pow10", "math/bits.deBruijn32tab", "math/bits.deBruijn64tab"], apart := false, laid := [("math/bits.deBruijn32tab", laid_math_bits_deBruijn32tab), ("math/bits.deBruijn64tab", laid_math_bits_deBruijn64tab), ("internal/strconv.uint64pow10", laid_internal_strconv_uint64pow10)] }
def DialSetsSaid : Prop := dialSetsRow.holds Tryd.pinned (OpenSpec.ofChange dialSetsSpec)

/-- ITS FALSE NEIGHBOUR: 'it returns false'. Refute it at one input. -/
def dialSetsWrong : ChangeSpec := { name := "dialSets", fn := fun _ => fun
  | [d1, d2] => { results := [.lit (.bool false)], args := [d1, d2] }
  | _ => none }
def DialSetsWrongFalsely : Prop := dialSetsRow.holds Tryd.pinned (OpenSpec.ofChange dialSetsWrong)

/-- 'patrollaw01.DialAlgebra': WHATEVER THE INPUT: true; the input reads as it did. -/
def dialAlgebraSpec : ChangeSpec := { name := "dialAlgebra", fn := fun _ => fun
  | [d1, d2, d3, d4, d5] => { results := [.lit (.bool true)], args := [d1, d2, d3, d4, d5] }
  | _ => none }
def dialAlgebraRow : OpenClaim := { program := "ytkdiplkmcilkmaadoor", sum := "be767d0c119d0edb7006dce31b4473f2162a8ba985f1e700770f02fe4df21853", func := "patrol/patrollaw01.DialAlgebra", spec := "dialAlgebra", inPlace := ["internal/abi.NoEscape"], unfollowed := true, recurses := true, named := ["internal/strconv.uint64pow10", "math/bits.deBruijn32tab", "math/bits.deBruijn64tab"], apart := false, laid := [("math/bits.deBruijn32tab", laid_math_bits_deBruijn32tab), ("math/bits.deBruijn64tab", laid_math_bits_deBruijn64tab), ("internal/strconv.uint64pow10", laid_internal_strconv_uint64pow10)] }
def DialAlgebraSaid : Prop := dialAlgebraRow.holds Tryd.pinned (OpenSpec.ofChange dialAlgebraSpec)

/-- ITS FALSE NEIGHBOUR: 'it returns false'. Refute it at one input. -/
def dialAlgebraWrong : ChangeSpec := { name := "dialAlgebra", fn := fun _ => fun
  | [d1, d2, d3, d4, d5] => { results := [.lit (.bool false)], args := [d1, d2, d3, d4, d5] }
  | _ => none }
def DialAlgebraWrongFalsely : Prop := dialAlgebraRow.holds Tryd.pinned (OpenSpec.ofChange dialAlgebraWrong)

/-- 'patrollaw01.DialMarks': WHATEVER THE INPUT: true; the input reads as it did. -/
def dialMarksSpec : ChangeSpec := { name := "dialMarks", fn := fun _ => fun
  | [d1, d2, d3, d4, d5, d6, d7] => { results := [.lit (.bool true)], args := [d1, d2, d3, d4, d5, d6, d7] }
  | _ => none }
def dialMarksRow : OpenClaim := { program := "ytkdiplkmcilkmaadoor", sum := "be767d0c119d0edb7006dce31b4473f2162a8ba985f1e700770f02fe4df21853", func := "patrol/patrollaw01.DialMarks", spec := "dialMarks", inPlace := ["internal/abi.NoEscape"], unfollowed := true, recurses := true, named := ["internal/strconv.uint64pow10", "math/bits.deBruijn32tab", "math/bits.deBruijn64tab"], apart := false, laid := [("math/bits.deBruijn32tab", laid_math_bits_deBruijn32tab), ("math/bits.deBruijn64tab", laid_math_bits_deBruijn64tab), ("internal/strconv.uint64pow10", laid_internal_strconv_uint64pow10)] }
def DialMarksSaid : Prop := dialMarksRow.holds Tryd.pinned (OpenSpec.ofChange dialMarksSpec)

/-- ITS FALSE NEIGHBOUR: 'it returns false'. Refute it at one input. -/
def dialMarksWrong : ChangeSpec := { name := "dialMarks", fn := fun _ => fun
  | [d1, d2, d3, d4, d5, d6, d7] => { results := [.lit (.bool false)], args := [d1, d2, d3, d4, d5, d6, d7] }
  | _ => none }
def DialMarksWrongFalsely : Prop := dialMarksRow.holds Tryd.pinned (OpenSpec.ofChange dialMarksWrong)

/-- 'patrollaw01.DialAngles': WHATEVER THE INPUT: true; the input reads as it did. -/
def dialAnglesSpec : ChangeSpec := { name := "dialAngles", fn := fun _ => fun
  | [d1, d2, d3] => { results := [.lit (.bool true)], args := [d1, d2, d3] }
  | _ => none }
def dialAnglesRow : OpenClaim := { program := "ytkdiplkmcilkmaadoor", sum := "be767d0c119d0edb7006dce31b4473f2162a8ba985f1e700770f02fe4df21853", func := "patrol/patrollaw01.DialAngles", spec := "dialAngles", inPlace := ["internal/abi.NoEscape"], unfollowed := true, recurses := true, named := ["internal/strconv.uint64pow10", "math/bits.deBruijn32tab", "math/bits.deBruijn64tab"], apart := false, laid := [("math/bits.deBruijn32tab", laid_math_bits_deBruijn32tab), ("math/bits.deBruijn64tab", laid_math_bits_deBruijn64tab), ("internal/strconv.uint64pow10", laid_internal_strconv_uint64pow10)] }
def DialAnglesSaid : Prop := dialAnglesRow.holds Tryd.pinned (OpenSpec.ofChange dialAnglesSpec)

/-- ITS FALSE NEIGHBOUR: 'it returns false'. Refute it at one input. -/
def dialAnglesWrong : ChangeSpec := { name := "dialAngles", fn := fun _ => fun
  | [d1, d2, d3] => { results := [.lit (.bool false)], args := [d1, d2, d3] }
  | _ => none }
def DialAnglesWrongFalsely : Prop := dialAnglesRow.holds Tryd.pinned (OpenSpec.ofChange dialAnglesWrong)

/-- 'patrollaw01.DialGrows': WHATEVER THE INPUT: true; the input reads as it did. -/
def dialGrowsSpec : ChangeSpec := { name := "dialGrows", fn := fun _ => fun
  | [d1, d2, d3] => { results := [.lit (.bool true)], args := [d1, d2, d3] }
  | _ => none }
def dialGrowsRow : OpenClaim := { program := "ytkdiplkmcilkmaadoor", sum := "be767d0c119d0edb7006dce31b4473f2162a8ba985f1e700770f02fe4df21853", func := "patrol/patrollaw01.DialGrows", spec := "dialGrows", inPlace := ["internal/abi.NoEscape"], unfollowed := true, recurses := true, named := ["internal/strconv.uint64pow10", "math/bits.deBruijn32tab", "math/bits.deBruijn64tab"], apart := false, laid := [("math/bits.deBruijn32tab", laid_math_bits_deBruijn32tab), ("math/bits.deBruijn64tab", laid_math_bits_deBruijn64tab), ("internal/strconv.uint64pow10", laid_internal_strconv_uint64pow10)] }
def DialGrowsSaid : Prop := dialGrowsRow.holds Tryd.pinned (OpenSpec.ofChange dialGrowsSpec)

/-- ITS FALSE NEIGHBOUR: 'it returns false'. Refute it at one input. -/
def dialGrowsWrong : ChangeSpec := { name := "dialGrows", fn := fun _ => fun
  | [d1, d2, d3] => { results := [.lit (.bool false)], args := [d1, d2, d3] }
  | _ => none }
def DialGrowsWrongFalsely : Prop := dialGrowsRow.holds Tryd.pinned (OpenSpec.ofChange dialGrowsWrong)

/-- 'patrollaw01.DialMembers': WHATEVER THE INPUT: true; the input reads as it did. -/
def dialMembersSpec : ChangeSpec := { name := "dialMembers", fn := fun _ => fun
  | [d1, d2, d3, d4] => { results := [.lit (.bool true)], args := [d1, d2, d3, d4] }
  | _ => none }
def dialMembersRow : OpenClaim := { program := "ytkdiplkmcilkmaadoor", sum := "be767d0c119d0edb7006dce31b4473f2162a8ba985f1e700770f02fe4df21853", func := "patrol/patrollaw01.DialMembers", spec := "dialMembers", inPlace := ["internal/abi.NoEscape"], unfollowed := true, recurses := true, named := ["internal/strconv.uint64pow10", "math/bits.deBruijn32tab", "math/bits.deBruijn64tab"], apart := false, laid := [("math/bits.deBruijn32tab", laid_math_bits_deBruijn32tab), ("math/bits.deBruijn64tab", laid_math_bits_deBruijn64tab), ("internal/strconv.uint64pow10", laid_internal_strconv_uint64pow10)] }
def DialMembersSaid : Prop := dialMembersRow.holds Tryd.pinned (OpenSpec.ofChange dialMembersSpec)

/-- ITS FALSE NEIGHBOUR: 'it returns false'. Refute it at one input. -/
def dialMembersWrong : ChangeSpec := { name := "dialMembers", fn := fun _ => fun
  | [d1, d2, d3, d4] => { results := [.lit (.bool false)], args := [d1, d2, d3, d4] }
  | _ => none }
def DialMembersWrongFalsely : Prop := dialMembersRow.holds Tryd.pinned (OpenSpec.ofChange dialMembersWrong)

/-- 'patrollaw01.DialConfuses': WHATEVER THE INPUT: true; the input reads as it did. -/
def dialConfusesSpec : ChangeSpec := { name := "dialConfuses", fn := fun _ => fun
  | [d1, d2, d3] => { results := [.lit (.bool true)], args := [d1, d2, d3] }
  | _ => none }
def dialConfusesRow : OpenClaim := { program := "ytkdiplkmcilkmaadoor", sum := "be767d0c119d0edb7006dce31b4473f2162a8ba985f1e700770f02fe4df21853", func := "patrol/patrollaw01.DialConfuses", spec := "dialConfuses", inPlace := ["internal/abi.NoEscape"], unfollowed := true, recurses := true, named := ["internal/strconv.uint64pow10", "math/bits.deBruijn32tab", "math/bits.deBruijn64tab"], apart := false, laid := [("math/bits.deBruijn32tab", laid_math_bits_deBruijn32tab), ("math/bits.deBruijn64tab", laid_math_bits_deBruijn64tab), ("internal/strconv.uint64pow10", laid_internal_strconv_uint64pow10)] }
def DialConfusesSaid : Prop := dialConfusesRow.holds Tryd.pinned (OpenSpec.ofChange dialConfusesSpec)

/-- ITS FALSE NEIGHBOUR: 'it returns false'. Refute it at one input. -/
def dialConfusesWrong : ChangeSpec := { name := "dialConfuses", fn := fun _ => fun
  | [d1, d2, d3] => { results := [.lit (.bool false)], args := [d1, d2, d3] }
  | _ => none }
def DialConfusesWrongFalsely : Prop := dialConfusesRow.holds Tryd.pinned (OpenSpec.ofChange dialConfusesWrong)

/-- 'patrollaw01.DialKnows': WHATEVER THE INPUT: true; the input reads as it did. -/
def dialKnowsSpec : ChangeSpec := { name := "dialKnows", fn := fun _ => fun
  | [d1, d2, d3, d4] => { results := [.lit (.bool true)], args := [d1, d2, d3, d4] }
  | _ => none }
def dialKnowsRow : OpenClaim := { program := "ytkdiplkmcilkmaadoor", sum := "be767d0c119d0edb7006dce31b4473f2162a8ba985f1e700770f02fe4df21853", func := "patrol/patrollaw01.DialKnows", spec := "dialKnows", inPlace := ["internal/abi.NoEscape"], unfollowed := true, recurses := true, named := ["internal/strconv.uint64pow10", "math/bits.deBruijn32tab", "math/bits.deBruijn64tab"], apart := false, laid := [("math/bits.deBruijn32tab", laid_math_bits_deBruijn32tab), ("math/bits.deBruijn64tab", laid_math_bits_deBruijn64tab), ("internal/strconv.uint64pow10", laid_internal_strconv_uint64pow10)] }
def DialKnowsSaid : Prop := dialKnowsRow.holds Tryd.pinned (OpenSpec.ofChange dialKnowsSpec)

/-- ITS FALSE NEIGHBOUR: 'it returns false'. Refute it at one input. -/
def dialKnowsWrong : ChangeSpec := { name := "dialKnows", fn := fun _ => fun
  | [d1, d2, d3, d4] => { results := [.lit (.bool false)], args := [d1, d2, d3, d4] }
  | _ => none }
def DialKnowsWrongFalsely : Prop := dialKnowsRow.holds Tryd.pinned (OpenSpec.ofChange dialKnowsWrong)

/-- 'patrollaw01.DialStrikesRead': WHATEVER THE INPUT: true; the input reads as it did. -/
def dialStrikesReadSpec : ChangeSpec := { name := "dialStrikesRead", fn := fun _ => fun
  | [d1, d2, d3, d4, d5, d6, d7, d8] => { results := [.lit (.bool true)], args := [d1, d2, d3, d4, d5, d6, d7, d8] }
  | _ => none }
def dialStrikesReadRow : OpenClaim := { program := "ytkdiplkmcilkmaadoor", sum := "be767d0c119d0edb7006dce31b4473f2162a8ba985f1e700770f02fe4df21853", func := "patrol/patrollaw01.DialStrikesRead", spec := "dialStrikesRead", inPlace := ["internal/abi.NoEscape"], unfollowed := true, recurses := true, named := ["internal/strconv.uint64pow10", "math/bits.deBruijn32tab", "math/bits.deBruijn64tab"], apart := false, laid := [("math/bits.deBruijn32tab", laid_math_bits_deBruijn32tab), ("math/bits.deBruijn64tab", laid_math_bits_deBruijn64tab), ("internal/strconv.uint64pow10", laid_internal_strconv_uint64pow10)] }
def DialStrikesReadSaid : Prop := dialStrikesReadRow.holds Tryd.pinned (OpenSpec.ofChange dialStrikesReadSpec)

/-- ITS FALSE NEIGHBOUR: 'it returns false'. Refute it at one input. -/
def dialStrikesReadWrong : ChangeSpec := { name := "dialStrikesRead", fn := fun _ => fun
  | [d1, d2, d3, d4, d5, d6, d7, d8] => { results := [.lit (.bool false)], args := [d1, d2, d3, d4, d5, d6, d7, d8] }
  | _ => none }
def DialStrikesReadWrongFalsely : Prop := dialStrikesReadRow.holds Tryd.pinned (OpenSpec.ofChange dialStrikesReadWrong)

/-- 'patrollaw01.DialMakersStrike': WHATEVER THE INPUT: true; the input reads as it did. -/
def dialMakersStrikeSpec : ChangeSpec := { name := "dialMakersStrike", fn := fun _ => fun
  | [d1, d2, d3, d4, d5] => { results := [.lit (.bool true)], args := [d1, d2, d3, d4, d5] }
  | _ => none }
def dialMakersStrikeRow : OpenClaim := { program := "ytkdiplkmcilkmaadoor", sum := "be767d0c119d0edb7006dce31b4473f2162a8ba985f1e700770f02fe4df21853", func := "patrol/patrollaw01.DialMakersStrike", spec := "dialMakersStrike", inPlace := ["internal/abi.NoEscape"], unfollowed := true, recurses := true, named := ["internal/strconv.uint64pow10", "math/bits.deBruijn32tab", "math/bits.deBruijn64tab"], apart := false, laid := [("math/bits.deBruijn32tab", laid_math_bits_deBruijn32tab), ("math/bits.deBruijn64tab", laid_math_bits_deBruijn64tab), ("internal/strconv.uint64pow10", laid_internal_strconv_uint64pow10)] }
def DialMakersStrikeSaid : Prop := dialMakersStrikeRow.holds Tryd.pinned (OpenSpec.ofChange dialMakersStrikeSpec)

/-- ITS FALSE NEIGHBOUR: 'it returns false'. Refute it at one input. -/
def dialMakersStrikeWrong : ChangeSpec := { name := "dialMakersStrike", fn := fun _ => fun
  | [d1, d2, d3, d4, d5] => { results := [.lit (.bool false)], args := [d1, d2, d3, d4, d5] }
  | _ => none }
def DialMakersStrikeWrongFalsely : Prop := dialMakersStrikeRow.holds Tryd.pinned (OpenSpec.ofChange dialMakersStrikeWrong)

/-- 'patrollaw01.DialKeys': WHATEVER THE INPUT: true; the input reads as it did. -/
def dialKeysSpec : ChangeSpec := { name := "dialKeys", fn := fun _ => fun
  | [d1, d2] => { results := [.lit (.bool true)], args := [d1, d2] }
  | _ => none }
def dialKeysRow : OpenClaim := { program := "ytkdiplkmcilkmaadoor", sum := "be767d0c119d0edb7006dce31b4473f2162a8ba985f1e700770f02fe4df21853", func := "patrol/patrollaw01.DialKeys", spec := "dialKeys", inPlace := ["internal/abi.NoEscape"], unfollowed := true, recurses := true, named := ["internal/strconv.uint64pow10", "math/bits.deBruijn32tab", "math/bits.deBruijn64tab"], apart := false, laid := [("math/bits.deBruijn32tab", laid_math_bits_deBruijn32tab), ("math/bits.deBruijn64tab", laid_math_bits_deBruijn64tab), ("internal/strconv.uint64pow10", laid_internal_strconv_uint64pow10)] }
def DialKeysSaid : Prop := dialKeysRow.holds Tryd.pinned (OpenSpec.ofChange dialKeysSpec)

/-- ITS FALSE NEIGHBOUR: 'it returns false'. Refute it at one input. -/
def dialKeysWrong : ChangeSpec := { name := "dialKeys", fn := fun _ => fun
  | [d1, d2] => { results := [.lit (.bool false)], args := [d1, d2] }
  | _ => none }
def DialKeysWrongFalsely : Prop := dialKeysRow.holds Tryd.pinned (OpenSpec.ofChange dialKeysWrong)

/-- 'patrollaw01.DialTwice': WHATEVER THE INPUT: true; the input reads as it did. -/
def dialTwiceSpec : ChangeSpec := { name := "dialTwice", fn := fun _ => fun
  | [d1, d2, d3, d4, d5, d6, d7, d8, d9, d10] => { results := [.lit (.bool true)], args := [d1, d2, d3, d4, d5, d6, d7, d8, d9, d10] }
  | _ => none }
def dialTwiceRow : OpenClaim := { program := "ytkdiplkmcilkmaadoor", sum := "be767d0c119d0edb7006dce31b4473f2162a8ba985f1e700770f02fe4df21853", func := "patrol/patrollaw01.DialTwice", spec := "dialTwice", inPlace := ["internal/abi.NoEscape"], unfollowed := true, recurses := true, named := ["internal/strconv.uint64pow10", "math/bits.deBruijn32tab", "math/bits.deBruijn64tab"], apart := false, laid := [("math/bits.deBruijn32tab", laid_math_bits_deBruijn32tab), ("math/bits.deBruijn64tab", laid_math_bits_deBruijn64tab), ("internal/strconv.uint64pow10", laid_internal_strconv_uint64pow10)] }
def DialTwiceSaid : Prop := dialTwiceRow.holds Tryd.pinned (OpenSpec.ofChange dialTwiceSpec)

/-- ITS FALSE NEIGHBOUR: 'it returns false'. Refute it at one input. -/
def dialTwiceWrong : ChangeSpec := { name := "dialTwice", fn := fun _ => fun
  | [d1, d2, d3, d4, d5, d6, d7, d8, d9, d10] => { results := [.lit (.bool false)], args := [d1, d2, d3, d4, d5, d6, d7, d8, d9, d10] }
  | _ => none }
def DialTwiceWrongFalsely : Prop := dialTwiceRow.holds Tryd.pinned (OpenSpec.ofChange dialTwiceWrong)

/-- 'patrollaw01.DialProposes': WHATEVER THE INPUT: true; the input reads as it did. -/
def dialProposesSpec : ChangeSpec := { name := "dialProposes", fn := fun _ => fun
  | [d1, d2, d3, d4, d5] => { results := [.lit (.bool true)], args := [d1, d2, d3, d4, d5] }
  | _ => none }
def dialProposesRow : OpenClaim := { program := "ytkdiplkmcilkmaadoor", sum := "be767d0c119d0edb7006dce31b4473f2162a8ba985f1e700770f02fe4df21853", func := "patrol/patrollaw01.DialProposes", spec := "dialProposes", inPlace := ["internal/abi.NoEscape"], unfollowed := true, recurses := true, named := ["internal/strconv.uint64pow10", "math/bits.deBruijn32tab", "math/bits.deBruijn64tab"], apart := false, laid := [("math/bits.deBruijn32tab", laid_math_bits_deBruijn32tab), ("math/bits.deBruijn64tab", laid_math_bits_deBruijn64tab), ("internal/strconv.uint64pow10", laid_internal_strconv_uint64pow10)] }
def DialProposesSaid : Prop := dialProposesRow.holds Tryd.pinned (OpenSpec.ofChange dialProposesSpec)

/-- ITS FALSE NEIGHBOUR: 'it returns false'. Refute it at one input. -/
def dialProposesWrong : ChangeSpec := { name := "dialProposes", fn := fun _ => fun
  | [d1, d2, d3, d4, d5] => { results := [.lit (.bool false)], args := [d1, d2, d3, d4, d5] }
  | _ => none }
def DialProposesWrongFalsely : Prop := dialProposesRow.holds Tryd.pinned (OpenSpec.ofChange dialProposesWrong)

/-- 'patrollaw01.DialSharper': WHATEVER THE INPUT: true; the input reads as it did. -/
def dialSharperSpec : ChangeSpec := { name := "dialSharper", fn := fun _ => fun
  | [d1, d2, d3, d4, d5, d6] => { results := [.lit (.bool true)], args := [d1, d2, d3, d4, d5, d6] }
  | _ => none }
def dialSharperRow : OpenClaim := { program := "ytkdiplkmcilkmaadoor", sum := "be767d0c119d0edb7006dce31b4473f2162a8ba985f1e700770f02fe4df21853", func := "patrol/patrollaw01.DialSharper", spec := "dialSharper", inPlace := ["internal/abi.NoEscape"], unfollowed := true, recurses := true, named := ["internal/strconv.uint64pow10", "math/bits.deBruijn32tab", "math/bits.deBruijn64tab"], apart := false, laid := [("math/bits.deBruijn32tab", laid_math_bits_deBruijn32tab), ("math/bits.deBruijn64tab", laid_math_bits_deBruijn64tab), ("internal/strconv.uint64pow10", laid_internal_strconv_uint64pow10)] }
def DialSharperSaid : Prop := dialSharperRow.holds Tryd.pinned (OpenSpec.ofChange dialSharperSpec)

/-- ITS FALSE NEIGHBOUR: 'it returns false'. Refute it at one input. -/
def dialSharperWrong : ChangeSpec := { name := "dialSharper", fn := fun _ => fun
  | [d1, d2, d3, d4, d5, d6] => { results := [.lit (.bool false)], args := [d1, d2, d3, d4, d5, d6] }
  | _ => none }
def DialSharperWrongFalsely : Prop := dialSharperRow.holds Tryd.pinned (OpenSpec.ofChange dialSharperWrong)

/-- 'patrollaw01.DialCabinets': WHATEVER THE INPUT: true; the input reads as it did. -/
def dialCabinetsSpec : ChangeSpec := { name := "dialCabinets", fn := fun _ => fun
  | [d1, d2, d3, d4, d5] => { results := [.lit (.bool true)], args := [d1, d2, d3, d4, d5] }
  | _ => none }
def dialCabinetsRow : OpenClaim := { program := "ytkdiplkmcilkmaadoor", sum := "be767d0c119d0edb7006dce31b4473f2162a8ba985f1e700770f02fe4df21853", func := "patrol/patrollaw01.DialCabinets", spec := "dialCabinets", inPlace := ["internal/abi.NoEscape"], unfollowed := true, recurses := true, named := ["internal/strconv.uint64pow10", "math/bits.deBruijn32tab", "math/bits.deBruijn64tab"], apart := false, laid := [("math/bits.deBruijn32tab", laid_math_bits_deBruijn32tab), ("math/bits.deBruijn64tab", laid_math_bits_deBruijn64tab), ("internal/strconv.uint64pow10", laid_internal_strconv_uint64pow10)] }
def DialCabinetsSaid : Prop := dialCabinetsRow.holds Tryd.pinned (OpenSpec.ofChange dialCabinetsSpec)

/-- ITS FALSE NEIGHBOUR: 'it returns false'. Refute it at one input. -/
def dialCabinetsWrong : ChangeSpec := { name := "dialCabinets", fn := fun _ => fun
  | [d1, d2, d3, d4, d5] => { results := [.lit (.bool false)], args := [d1, d2, d3, d4, d5] }
  | _ => none }
def DialCabinetsWrongFalsely : Prop := dialCabinetsRow.holds Tryd.pinned (OpenSpec.ofChange dialCabinetsWrong)

/- THE SECOND FORM. 'bulk': how many values and letters a reading holds, each counted each time it is reached (what is shared counts as often as it is met; a slice's spare places count too). A statement '..UptoSaid' is the law's where the arguments, and the package variables that the reading takes, are together of bulk at most 1048576: NARROWER than '..Said'. Prove '..Said' where nothing that the law and all that it calls make is longer than what came in: it says more and counts as full. Else prove '..UptoSaid'. A law counts once. -/
mutual
def uptoBulk {H : Type} : DataW H → Nat
  | .lit (.string bytes) => bytes.length + 1
  | .lit _ => 1
  | .nil => 1
  | .ptr d => uptoBulk d + 1
  | .slice elems spare => uptoBulkAll elems + uptoBulkAll spare + 1
  | .agg parts => uptoBulkAll parts + 1
  | .iface _ d => uptoBulk d + 1
  | .map entries => uptoBulkEntries entries + 1
  | .held _ => 1
def uptoBulkAll {H : Type} : List (DataW H) → Nat
  | [] => 0
  | d :: r => uptoBulk d + uptoBulkAll r
def uptoBulkEntries {H : Type} : List (Lit × DataW H) → Nat
  | [] => 0
  | x :: r => uptoBulkEntry x + uptoBulkEntries r
def uptoBulkEntry {H : Type} : Lit × DataW H → Nat
  | (.string bytes, d) => bytes.length + uptoBulk d + 1
  | (_, d) => uptoBulk d + 1
 end
def uptoSmall : (H : Type) → List (DataW H) → Bool := fun _ ds => decide (uptoBulkAll ds ≤ 1048576)
def OpenSpec.upto (s : _root_.Go.ChangeSpec) : _root_.Go.OpenSpec := { _root_.Go.OpenSpec.ofChange s with cond := some uptoSmall }

/-- 'patrollaw01.DialSets', WHERE WHAT IT READS IS OF BULK AT MOST 1048576: true; the input reads as it did. -/
def dialSetsUptoRow : OpenClaim := { program := "ytkdiplkmcilkmaadoor", sum := "be767d0c119d0edb7006dce31b4473f2162a8ba985f1e700770f02fe4df21853", func := "patrol/patrollaw01.DialSets", spec := "dialSets", inPlace := ["internal/abi.NoEscape"], unfollowed := true, recurses := true, named := ["internal/strconv.uint64pow10", "math/bits.deBruijn32tab", "math/bits.deBruijn64tab"], apart := false, laid := [("math/bits.deBruijn32tab", laid_math_bits_deBruijn32tab), ("math/bits.deBruijn64tab", laid_math_bits_deBruijn64tab), ("internal/strconv.uint64pow10", laid_internal_strconv_uint64pow10)], narrowed := true }
def DialSetsUptoSaid : Prop := dialSetsUptoRow.holds Tryd.pinned (OpenSpec.upto dialSetsSpec)

/-- 'patrollaw01.DialAlgebra', WHERE WHAT IT READS IS OF BULK AT MOST 1048576: true; the input reads as it did. -/
def dialAlgebraUptoRow : OpenClaim := { program := "ytkdiplkmcilkmaadoor", sum := "be767d0c119d0edb7006dce31b4473f2162a8ba985f1e700770f02fe4df21853", func := "patrol/patrollaw01.DialAlgebra", spec := "dialAlgebra", inPlace := ["internal/abi.NoEscape"], unfollowed := true, recurses := true, named := ["internal/strconv.uint64pow10", "math/bits.deBruijn32tab", "math/bits.deBruijn64tab"], apart := false, laid := [("math/bits.deBruijn32tab", laid_math_bits_deBruijn32tab), ("math/bits.deBruijn64tab", laid_math_bits_deBruijn64tab), ("internal/strconv.uint64pow10", laid_internal_strconv_uint64pow10)], narrowed := true }
def DialAlgebraUptoSaid : Prop := dialAlgebraUptoRow.holds Tryd.pinned (OpenSpec.upto dialAlgebraSpec)

/-- 'patrollaw01.DialMarks', WHERE WHAT IT READS IS OF BULK AT MOST 1048576: true; the input reads as it did. -/
def dialMarksUptoRow : OpenClaim := { program := "ytkdiplkmcilkmaadoor", sum := "be767d0c119d0edb7006dce31b4473f2162a8ba985f1e700770f02fe4df21853", func := "patrol/patrollaw01.DialMarks", spec := "dialMarks", inPlace := ["internal/abi.NoEscape"], unfollowed := true, recurses := true, named := ["internal/strconv.uint64pow10", "math/bits.deBruijn32tab", "math/bits.deBruijn64tab"], apart := false, laid := [("math/bits.deBruijn32tab", laid_math_bits_deBruijn32tab), ("math/bits.deBruijn64tab", laid_math_bits_deBruijn64tab), ("internal/strconv.uint64pow10", laid_internal_strconv_uint64pow10)], narrowed := true }
def DialMarksUptoSaid : Prop := dialMarksUptoRow.holds Tryd.pinned (OpenSpec.upto dialMarksSpec)

/-- 'patrollaw01.DialAngles', WHERE WHAT IT READS IS OF BULK AT MOST 1048576: true; the input reads as it did. -/
def dialAnglesUptoRow : OpenClaim := { program := "ytkdiplkmcilkmaadoor", sum := "be767d0c119d0edb7006dce31b4473f2162a8ba985f1e700770f02fe4df21853", func := "patrol/patrollaw01.DialAngles", spec := "dialAngles", inPlace := ["internal/abi.NoEscape"], unfollowed := true, recurses := true, named := ["internal/strconv.uint64pow10", "math/bits.deBruijn32tab", "math/bits.deBruijn64tab"], apart := false, laid := [("math/bits.deBruijn32tab", laid_math_bits_deBruijn32tab), ("math/bits.deBruijn64tab", laid_math_bits_deBruijn64tab), ("internal/strconv.uint64pow10", laid_internal_strconv_uint64pow10)], narrowed := true }
def DialAnglesUptoSaid : Prop := dialAnglesUptoRow.holds Tryd.pinned (OpenSpec.upto dialAnglesSpec)

/-- 'patrollaw01.DialGrows', WHERE WHAT IT READS IS OF BULK AT MOST 1048576: true; the input reads as it did. -/
def dialGrowsUptoRow : OpenClaim := { program := "ytkdiplkmcilkmaadoor", sum := "be767d0c119d0edb7006dce31b4473f2162a8ba985f1e700770f02fe4df21853", func := "patrol/patrollaw01.DialGrows", spec := "dialGrows", inPlace := ["internal/abi.NoEscape"], unfollowed := true, recurses := true, named := ["internal/strconv.uint64pow10", "math/bits.deBruijn32tab", "math/bits.deBruijn64tab"], apart := false, laid := [("math/bits.deBruijn32tab", laid_math_bits_deBruijn32tab), ("math/bits.deBruijn64tab", laid_math_bits_deBruijn64tab), ("internal/strconv.uint64pow10", laid_internal_strconv_uint64pow10)], narrowed := true }
def DialGrowsUptoSaid : Prop := dialGrowsUptoRow.holds Tryd.pinned (OpenSpec.upto dialGrowsSpec)

/-- 'patrollaw01.DialMembers', WHERE WHAT IT READS IS OF BULK AT MOST 1048576: true; the input reads as it did. -/
def dialMembersUptoRow : OpenClaim := { program := "ytkdiplkmcilkmaadoor", sum := "be767d0c119d0edb7006dce31b4473f2162a8ba985f1e700770f02fe4df21853", func := "patrol/patrollaw01.DialMembers", spec := "dialMembers", inPlace := ["internal/abi.NoEscape"], unfollowed := true, recurses := true, named := ["internal/strconv.uint64pow10", "math/bits.deBruijn32tab", "math/bits.deBruijn64tab"], apart := false, laid := [("math/bits.deBruijn32tab", laid_math_bits_deBruijn32tab), ("math/bits.deBruijn64tab", laid_math_bits_deBruijn64tab), ("internal/strconv.uint64pow10", laid_internal_strconv_uint64pow10)], narrowed := true }
def DialMembersUptoSaid : Prop := dialMembersUptoRow.holds Tryd.pinned (OpenSpec.upto dialMembersSpec)

/-- 'patrollaw01.DialConfuses', WHERE WHAT IT READS IS OF BULK AT MOST 1048576: true; the input reads as it did. -/
def dialConfusesUptoRow : OpenClaim := { program := "ytkdiplkmcilkmaadoor", sum := "be767d0c119d0edb7006dce31b4473f2162a8ba985f1e700770f02fe4df21853", func := "patrol/patrollaw01.DialConfuses", spec := "dialConfuses", inPlace := ["internal/abi.NoEscape"], unfollowed := true, recurses := true, named := ["internal/strconv.uint64pow10", "math/bits.deBruijn32tab", "math/bits.deBruijn64tab"], apart := false, laid := [("math/bits.deBruijn32tab", laid_math_bits_deBruijn32tab), ("math/bits.deBruijn64tab", laid_math_bits_deBruijn64tab), ("internal/strconv.uint64pow10", laid_internal_strconv_uint64pow10)], narrowed := true }
def DialConfusesUptoSaid : Prop := dialConfusesUptoRow.holds Tryd.pinned (OpenSpec.upto dialConfusesSpec)

/-- 'patrollaw01.DialKnows', WHERE WHAT IT READS IS OF BULK AT MOST 1048576: true; the input reads as it did. -/
def dialKnowsUptoRow : OpenClaim := { program := "ytkdiplkmcilkmaadoor", sum := "be767d0c119d0edb7006dce31b4473f2162a8ba985f1e700770f02fe4df21853", func := "patrol/patrollaw01.DialKnows", spec := "dialKnows", inPlace := ["internal/abi.NoEscape"], unfollowed := true, recurses := true, named := ["internal/strconv.uint64pow10", "math/bits.deBruijn32tab", "math/bits.deBruijn64tab"], apart := false, laid := [("math/bits.deBruijn32tab", laid_math_bits_deBruijn32tab), ("math/bits.deBruijn64tab", laid_math_bits_deBruijn64tab), ("internal/strconv.uint64pow10", laid_internal_strconv_uint64pow10)], narrowed := true }
def DialKnowsUptoSaid : Prop := dialKnowsUptoRow.holds Tryd.pinned (OpenSpec.upto dialKnowsSpec)

/-- 'patrollaw01.DialStrikesRead', WHERE WHAT IT READS IS OF BULK AT MOST 1048576: true; the input reads as it did. -/
def dialStrikesReadUptoRow : OpenClaim := { program := "ytkdiplkmcilkmaadoor", sum := "be767d0c119d0edb7006dce31b4473f2162a8ba985f1e700770f02fe4df21853", func := "patrol/patrollaw01.DialStrikesRead", spec := "dialStrikesRead", inPlace := ["internal/abi.NoEscape"], unfollowed := true, recurses := true, named := ["internal/strconv.uint64pow10", "math/bits.deBruijn32tab", "math/bits.deBruijn64tab"], apart := false, laid := [("math/bits.deBruijn32tab", laid_math_bits_deBruijn32tab), ("math/bits.deBruijn64tab", laid_math_bits_deBruijn64tab), ("internal/strconv.uint64pow10", laid_internal_strconv_uint64pow10)], narrowed := true }
def DialStrikesReadUptoSaid : Prop := dialStrikesReadUptoRow.holds Tryd.pinned (OpenSpec.upto dialStrikesReadSpec)

/-- 'patrollaw01.DialMakersStrike', WHERE WHAT IT READS IS OF BULK AT MOST 1048576: true; the input reads as it did. -/
def dialMakersStrikeUptoRow : OpenClaim := { program := "ytkdiplkmcilkmaadoor", sum := "be767d0c119d0edb7006dce31b4473f2162a8ba985f1e700770f02fe4df21853", func := "patrol/patrollaw01.DialMakersStrike", spec := "dialMakersStrike", inPlace := ["internal/abi.NoEscape"], unfollowed := true, recurses := true, named := ["internal/strconv.uint64pow10", "math/bits.deBruijn32tab", "math/bits.deBruijn64tab"], apart := false, laid := [("math/bits.deBruijn32tab", laid_math_bits_deBruijn32tab), ("math/bits.deBruijn64tab", laid_math_bits_deBruijn64tab), ("internal/strconv.uint64pow10", laid_internal_strconv_uint64pow10)], narrowed := true }
def DialMakersStrikeUptoSaid : Prop := dialMakersStrikeUptoRow.holds Tryd.pinned (OpenSpec.upto dialMakersStrikeSpec)

/-- 'patrollaw01.DialKeys', WHERE WHAT IT READS IS OF BULK AT MOST 1048576: true; the input reads as it did. -/
def dialKeysUptoRow : OpenClaim := { program := "ytkdiplkmcilkmaadoor", sum := "be767d0c119d0edb7006dce31b4473f2162a8ba985f1e700770f02fe4df21853", func := "patrol/patrollaw01.DialKeys", spec := "dialKeys", inPlace := ["internal/abi.NoEscape"], unfollowed := true, recurses := true, named := ["internal/strconv.uint64pow10", "math/bits.deBruijn32tab", "math/bits.deBruijn64tab"], apart := false, laid := [("math/bits.deBruijn32tab", laid_math_bits_deBruijn32tab), ("math/bits.deBruijn64tab", laid_math_bits_deBruijn64tab), ("internal/strconv.uint64pow10", laid_internal_strconv_uint64pow10)], narrowed := true }
def DialKeysUptoSaid : Prop := dialKeysUptoRow.holds Tryd.pinned (OpenSpec.upto dialKeysSpec)

/-- 'patrollaw01.DialTwice', WHERE WHAT IT READS IS OF BULK AT MOST 1048576: true; the input reads as it did. -/
def dialTwiceUptoRow : OpenClaim := { program := "ytkdiplkmcilkmaadoor", sum := "be767d0c119d0edb7006dce31b4473f2162a8ba985f1e700770f02fe4df21853", func := "patrol/patrollaw01.DialTwice", spec := "dialTwice", inPlace := ["internal/abi.NoEscape"], unfollowed := true, recurses := true, named := ["internal/strconv.uint64pow10", "math/bits.deBruijn32tab", "math/bits.deBruijn64tab"], apart := false, laid := [("math/bits.deBruijn32tab", laid_math_bits_deBruijn32tab), ("math/bits.deBruijn64tab", laid_math_bits_deBruijn64tab), ("internal/strconv.uint64pow10", laid_internal_strconv_uint64pow10)], narrowed := true }
def DialTwiceUptoSaid : Prop := dialTwiceUptoRow.holds Tryd.pinned (OpenSpec.upto dialTwiceSpec)

/-- 'patrollaw01.DialProposes', WHERE WHAT IT READS IS OF BULK AT MOST 1048576: true; the input reads as it did. -/
def dialProposesUptoRow : OpenClaim := { program := "ytkdiplkmcilkmaadoor", sum := "be767d0c119d0edb7006dce31b4473f2162a8ba985f1e700770f02fe4df21853", func := "patrol/patrollaw01.DialProposes", spec := "dialProposes", inPlace := ["internal/abi.NoEscape"], unfollowed := true, recurses := true, named := ["internal/strconv.uint64pow10", "math/bits.deBruijn32tab", "math/bits.deBruijn64tab"], apart := false, laid := [("math/bits.deBruijn32tab", laid_math_bits_deBruijn32tab), ("math/bits.deBruijn64tab", laid_math_bits_deBruijn64tab), ("internal/strconv.uint64pow10", laid_internal_strconv_uint64pow10)], narrowed := true }
def DialProposesUptoSaid : Prop := dialProposesUptoRow.holds Tryd.pinned (OpenSpec.upto dialProposesSpec)

/-- 'patrollaw01.DialSharper', WHERE WHAT IT READS IS OF BULK AT MOST 1048576: true; the input reads as it did. -/
def dialSharperUptoRow : OpenClaim := { program := "ytkdiplkmcilkmaadoor", sum := "be767d0c119d0edb7006dce31b4473f2162a8ba985f1e700770f02fe4df21853", func := "patrol/patrollaw01.DialSharper", spec := "dialSharper", inPlace := ["internal/abi.NoEscape"], unfollowed := true, recurses := true, named := ["internal/strconv.uint64pow10", "math/bits.deBruijn32tab", "math/bits.deBruijn64tab"], apart := false, laid := [("math/bits.deBruijn32tab", laid_math_bits_deBruijn32tab), ("math/bits.deBruijn64tab", laid_math_bits_deBruijn64tab), ("internal/strconv.uint64pow10", laid_internal_strconv_uint64pow10)], narrowed := true }
def DialSharperUptoSaid : Prop := dialSharperUptoRow.holds Tryd.pinned (OpenSpec.upto dialSharperSpec)

/-- 'patrollaw01.DialCabinets', WHERE WHAT IT READS IS OF BULK AT MOST 1048576: true; the input reads as it did. -/
def dialCabinetsUptoRow : OpenClaim := { program := "ytkdiplkmcilkmaadoor", sum := "be767d0c119d0edb7006dce31b4473f2162a8ba985f1e700770f02fe4df21853", func := "patrol/patrollaw01.DialCabinets", spec := "dialCabinets", inPlace := ["internal/abi.NoEscape"], unfollowed := true, recurses := true, named := ["internal/strconv.uint64pow10", "math/bits.deBruijn32tab", "math/bits.deBruijn64tab"], apart := false, laid := [("math/bits.deBruijn32tab", laid_math_bits_deBruijn32tab), ("math/bits.deBruijn64tab", laid_math_bits_deBruijn64tab), ("internal/strconv.uint64pow10", laid_internal_strconv_uint64pow10)], narrowed := true }
def DialCabinetsUptoSaid : Prop := dialCabinetsUptoRow.holds Tryd.pinned (OpenSpec.upto dialCabinetsSpec)

end Rows
end Go.Proofs.YtkdiplkmcilkmaaDoor
