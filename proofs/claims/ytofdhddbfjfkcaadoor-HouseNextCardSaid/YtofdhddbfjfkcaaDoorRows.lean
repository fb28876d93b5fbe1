/-
  NARROWER THAN 'FOR EVERY INPUT', by the rows' own cells (each row's printed sentence says how): HouseWalks: laid · HouseShuts: laid · HouseTimes: laid · HouseWalls: laid · HouseChecks: laid · HouseWays: laid · HouseClosing: laid · HouseBothWays: laid · HouseProofs: laid · HouseRoutes: laid · HouseTriangle: laid · HouseDistances: laid · HouseWalked: laid · HouseLater: laid · HouseTours: laid · HouseDoors: laid · HouseNext: laid.
  DERIVED. THE GIVEN ROWS OF THIS SEAT. 17 by the template 'for every input the law returns true; each argument reads behind the call as it read before'; 0 by the template 'total and deterministic' (their statements: YtofdhddbfjfkcaaDoorTotals.lean).
  GIVEN WITH THE SEED: the statements are not yours to turn. If you find one false, say at which input.
  Laid BY PROGRAM, IN A SANDBOX (cutbox-rows.mjs): the forced cells as the released guide's own fill.sh prints them over the translation bf18bea3e03751d8… (all of the seat's roots in one cut). By AI agents, Wed Nov 11 2026. No macro, syntax, notation, axiom, sorry.
-/
import Derived.Test.YtofdhddbfjfkcaaDoorChecked
import GoSem.Claim
import GoSem.ClaimJoined
import GoSem.ClaimMapViews
import Derived.JoinedTies
import Derived.KernelRfl
namespace Go.Proofs.YtofdhddbfjfkcaaDoor
/- THE CELL 'sum', in the pinned program and in every row, IS THE sha256 OF THE DUMP (.gsa) THAT YtofdhddbfjfkcaaDoorProg.lean LOADS. Nothing in Lean hashes anything: it is a label: what it is worth is what the hold of that sum in a sandbox is worth. -/
noncomputable def Tryd.pinned : Pinned := { name := "ytofdhddbfjfkcaadoor", sum := "bf18bea3e03751d8fb758ec3b1125484c556889bc5a6c3a83ebc89493000e1ad", checked := Tryd.checked }
namespace Rows
def none {H : Type} : Left H := { results := [], args := [] }

/- WHAT THE LISTED PACKAGE-LEVEL VARIABLES READ AS WHEN THE CALL BEGINS. Each datum BY PROGRAM (the guide's laid-datum.mjs) off the statement by which the dump's own 'gosem.cut.vars' lays the variable. In a bare row this is a premise. The card (YtofdhddbfjfkcaaDoorCards.lean) ties it to the program's text. -/
def laid_math_bits_deBruijn32tab {H : Type} : DataW H := .agg [.lit (.int .u8 0), .lit (.int .u8 1), .lit (.int .u8 28), .lit (.int .u8 2), .lit (.int .u8 29), .lit (.int .u8 14), .lit (.int .u8 24), .lit (.int .u8 3), .lit (.int .u8 30), .lit (.int .u8 22), .lit (.int .u8 20), .lit (.int .u8 15), .lit (.int .u8 25), .lit (.int .u8 17), .lit (.int .u8 4), .lit (.int .u8 8), .lit (.int .u8 31), .lit (.int .u8 27), .lit (.int .u8 13), .lit (.int .u8 23), .lit (.int .u8 21), .lit (.int .u8 19), .lit (.int .u8 16), .lit (.int .u8 7), .lit (.int .u8 26), .lit (.int .u8 12), .lit (.int .u8 18), .lit (.int .u8 6), .lit (.int .u8 11), .lit (.int .u8 5), .lit (.int .u8 10), .lit (.int .u8 9)]
def laid_math_bits_deBruijn64tab {H : Type} : DataW H := .agg [.lit (.int .u8 0), .lit (.int .u8 1), .lit (.int .u8 56), .lit (.int .u8 2), .lit (.int .u8 57), .lit (.int .u8 49), .lit (.int .u8 28), .lit (.int .u8 3), .lit (.int .u8 61), .lit (.int .u8 58), .lit (.int .u8 42), .lit (.int .u8 50), .lit (.int .u8 38), .lit (.int .u8 29), .lit (.int .u8 17), .lit (.int .u8 4), .lit (.int .u8 62), .lit (.int .u8 47), .lit (.int .u8 59), .lit (.int .u8 36), .lit (.int .u8 45), .lit (.int .u8 43), .lit (.int .u8 51), .lit (.int .u8 22), .lit (.int .u8 53), .lit (.int .u8 39), .lit (.int .u8 33), .lit (.int .u8 30), .lit (.int .u8 24), .lit (.int .u8 18), .lit (.int .u8 12), .lit (.int .u8 5), .lit (.int .u8 63), .lit (.int .u8 55), .lit (.int .u8 48), .lit (.int .u8 27), .lit (.int .u8 60), .lit (.int .u8 41), .lit (.int .u8 37), .lit (.int .u8 16), .lit (.int .u8 46), .lit (.int .u8 35), .lit (.int .u8 44), .lit (.int .u8 21), .lit (.int .u8 52), .lit (.int .u8 32), .lit (.int .u8 23), .lit (.int .u8 11), .lit (.int .u8 54), .lit (.int .u8 26), .lit (.int .u8 40), .lit (.int .u8 15), .lit (.int .u8 34), .lit (.int .u8 20), .lit (.int .u8 31), .lit (.int .u8 10), .lit (.int .u8 25), .lit (.int .u8 14), .lit (.int .u8 19), .lit (.int .u8 9), .lit (.int .u8 13), .lit (.int .u8 8), .lit (.int .u8 7), .lit (.int .u8 6)]
def laid_internal_strconv_uint64pow10 {H : Type} : DataW H := .agg [.lit (.int .u64 1), .lit (.int .u64 10), .lit (.int .u64 100), .lit (.int .u64 1000), .lit (.int .u64 10000), .lit (.int .u64 100000), .lit (.int .u64 1000000), .lit (.int .u64 10000000), .lit (.int .u64 100000000), .lit (.int .u64 1000000000), .lit (.int .u64 10000000000), .lit (.int .u64 100000000000), .lit (.int .u64 1000000000000), .lit (.int .u64 10000000000000), .lit (.int .u64 100000000000000), .lit (.int .u64 1000000000000000), .lit (.int .u64 10000000000000000), .lit (.int .u64 100000000000000000), .lit (.int .u64 1000000000000000000), .lit (.int .u64 10000000000000000000)]

/-- 'patrollaw03.HouseWalks': WHATEVER THE INPUT: true; the input reads as it did. -/
def houseWalksSpec : ChangeSpec := { name := "houseWalks", fn := fun _ => fun
  | [d1, d2, d3, d4] => { results := [.lit (.bool true)], args := [d1, d2, d3, d4] }
  | _ => none }
def houseWalksRow : OpenClaim := { program := "ytofdhddbfjfkcaadoor", sum := "bf18bea3e03751d8fb758ec3b1125484c556889bc5a6c3a83ebc89493000e1ad", func := "patrol/patrollaw03.HouseWalks", spec := "houseWalks", inPlace := ["internal/abi.NoEscape", "internal/bytealg.MakeNoZero"], unfollowed := true, recurses := true, named := ["internal/strconv.uint64pow10", "math/bits.deBruijn32tab", "math/bits.deBruijn64tab"], apart := false, laid := [("math/bits.deBruijn32tab", laid_math_bits_deBruijn32tab), ("math/bits.deBruijn64tab", laid_math_bits_deBruijn64tab), ("internal/strconv.uint64pow10", laid_internal_strconv_uint64pow10)] }
def HouseWalksSaid : Prop := houseWalksRow.holds Tryd.pinned (OpenSpec.ofChange houseWalksSpec)

/-- ITS FALSE NEIGHBOUR: 'it returns false'. Refute it at one input. -/
def houseWalksWrong : ChangeSpec := { name := "houseWalks", fn := fun _ => fun
  | [d1, d2, d3, d4] => { results := [.lit (.bool false)], args := [d1, d2, d3, d4] }
  | _ => none }
def HouseWalksWrongFalsely : Prop := houseWalksRow.holds Tryd.pinned (OpenSpec.ofChange houseWalksWrong)

/-- 'patrollaw03.HouseShuts': WHATEVER THE INPUT: true; the input reads as it did. -/
def houseShutsSpec : ChangeSpec := { name := "houseShuts", fn := fun _ => fun
  | [d1, d2, d3] => { results := [.lit (.bool true)], args := [d1, d2, d3] }
  | _ => none }
def houseShutsRow : OpenClaim := { program := "ytofdhddbfjfkcaadoor", sum := "bf18bea3e03751d8fb758ec3b1125484c556889bc5a6c3a83ebc89493000e1ad", func := "patrol/patrollaw03.HouseShuts", spec := "houseShuts", inPlace := ["internal/abi.NoEscape", "internal/bytealg.MakeNoZero"], unfollowed := true, recurses := true, named := ["internal/strconv.uint64pow10", "math/bits.deBruijn32tab", "math/bits.deBruijn64tab"], apart := false, laid := [("math/bits.deBruijn32tab", laid_math_bits_deBruijn32tab), ("math/bits.deBruijn64tab", laid_math_bits_deBruijn64tab), ("internal/strconv.uint64pow10", laid_internal_strconv_uint64pow10)] }
def HouseShutsSaid : Prop := houseShutsRow.holds Tryd.pinned (OpenSpec.ofChange houseShutsSpec)

/-- ITS FALSE NEIGHBOUR: 'it returns false'. Refute it at one input. -/
def houseShutsWrong : ChangeSpec := { name := "houseShuts", fn := fun _ => fun
  | [d1, d2, d3] => { results := [.lit (.bool false)], args := [d1, d2, d3] }
  | _ => none }
def HouseShutsWrongFalsely : Prop := houseShutsRow.holds Tryd.pinned (OpenSpec.ofChange houseShutsWrong)

/-- 'patrollaw03.HouseTimes': WHATEVER THE INPUT: true; the input reads as it did. -/
def houseTimesSpec : ChangeSpec := { name := "houseTimes", fn := fun _ => fun
  | [d1, d2, d3, d4, d5] => { results := [.lit (.bool true)], args := [d1, d2, d3, d4, d5] }
  | _ => none }
def houseTimesRow : OpenClaim := { program := "ytofdhddbfjfkcaadoor", sum := "bf18bea3e03751d8fb758ec3b1125484c556889bc5a6c3a83ebc89493000e1ad", func := "patrol/patrollaw03.HouseTimes", spec := "houseTimes", inPlace := ["internal/abi.NoEscape", "internal/bytealg.MakeNoZero"], unfollowed := true, recurses := true, named := ["internal/strconv.uint64pow10", "math/bits.deBruijn32tab", "math/bits.deBruijn64tab"], apart := false, laid := [("math/bits.deBruijn32tab", laid_math_bits_deBruijn32tab), ("math/bits.deBruijn64tab", laid_math_bits_deBruijn64tab), ("internal/strconv.uint64pow10", laid_internal_strconv_uint64pow10)] }
def HouseTimesSaid : Prop := houseTimesRow.holds Tryd.pinned (OpenSpec.ofChange houseTimesSpec)

/-- ITS FALSE NEIGHBOUR: 'it returns false'. Refute it at one input. -/
def houseTimesWrong : ChangeSpec := { name := "houseTimes", fn := fun _ => fun
  | [d1, d2, d3, d4, d5] => { results := [.lit (.bool false)], args := [d1, d2, d3, d4, d5] }
  | _ => none }
def HouseTimesWrongFalsely : Prop := houseTimesRow.holds Tryd.pinned (OpenSpec.ofChange houseTimesWrong)

/-- 'patrollaw03.HouseWalls': WHATEVER THE INPUT: true; the input reads as it did. -/
def houseWallsSpec : ChangeSpec := { name := "houseWalls", fn := fun _ => fun
  | [d1, d2, d3, d4, d5] => { results := [.lit (.bool true)], args := [d1, d2, d3, d4, d5] }
  | _ => none }
def houseWallsRow : OpenClaim := { program := "ytofdhddbfjfkcaadoor", sum := "bf18bea3e03751d8fb758ec3b1125484c556889bc5a6c3a83ebc89493000e1ad", func := "patrol/patrollaw03.HouseWalls", spec := "houseWalls", inPlace := ["internal/abi.NoEscape", "internal/bytealg.MakeNoZero"], unfollowed := true, recurses := true, named := ["internal/strconv.uint64pow10", "math/bits.deBruijn32tab", "math/bits.deBruijn64tab"], apart := false, laid := [("math/bits.deBruijn32tab", laid_math_bits_deBruijn32tab), ("math/bits.deBruijn64tab", laid_math_bits_deBruijn64tab), ("internal/strconv.uint64pow10", laid_internal_strconv_uint64pow10)] }
def HouseWallsSaid : Prop := houseWallsRow.holds Tryd.pinned (OpenSpec.ofChange houseWallsSpec)

/-- ITS FALSE NEIGHBOUR: 'it returns false'. Refute it at one input. -/
def houseWallsWrong : ChangeSpec := { name := "houseWalls", fn := fun _ => fun
  | [d1, d2, d3, d4, d5] => { results := [.lit (.bool false)], args := [d1, d2, d3, d4, d5] }
  | _ => none }
def HouseWallsWrongFalsely : Prop := houseWallsRow.holds Tryd.pinned (OpenSpec.ofChange houseWallsWrong)

/-- 'patrollaw03.HouseChecks': WHATEVER THE INPUT: true; the input reads as it did. -/
def houseChecksSpec : ChangeSpec := { name := "houseChecks", fn := fun _ => fun
  | [d1, d2] => { results := [.lit (.bool true)], args := [d1, d2] }
  | _ => none }
def houseChecksRow : OpenClaim := { program := "ytofdhddbfjfkcaadoor", sum := "bf18bea3e03751d8fb758ec3b1125484c556889bc5a6c3a83ebc89493000e1ad", func := "patrol/patrollaw03.HouseChecks", spec := "houseChecks", inPlace := ["internal/abi.NoEscape", "internal/bytealg.MakeNoZero"], unfollowed := true, recurses := true, named := ["internal/strconv.uint64pow10", "math/bits.deBruijn32tab", "math/bits.deBruijn64tab"], apart := false, laid := [("math/bits.deBruijn32tab", laid_math_bits_deBruijn32tab), ("math/bits.deBruijn64tab", laid_math_bits_deBruijn64tab), ("internal/strconv.uint64pow10", laid_internal_strconv_uint64pow10)] }
def HouseChecksSaid : Prop := houseChecksRow.holds Tryd.pinned (OpenSpec.ofChange houseChecksSpec)

/-- ITS FALSE NEIGHBOUR: 'it returns false'. Refute it at one input. -/
def houseChecksWrong : ChangeSpec := { name := "houseChecks", fn := fun _ => fun
  | [d1, d2] => { results := [.lit (.bool false)], args := [d1, d2] }
  | _ => none }
def HouseChecksWrongFalsely : Prop := houseChecksRow.holds Tryd.pinned (OpenSpec.ofChange houseChecksWrong)

/-- 'patrollaw03.HouseWays': WHATEVER THE INPUT: true; the input reads as it did. -/
def houseWaysSpec : ChangeSpec := { name := "houseWays", fn := fun _ => fun
  | [d1, d2, d3, d4] => { results := [.lit (.bool true)], args := [d1, d2, d3, d4] }
  | _ => none }
def houseWaysRow : OpenClaim := { program := "ytofdhddbfjfkcaadoor", sum := "bf18bea3e03751d8fb758ec3b1125484c556889bc5a6c3a83ebc89493000e1ad", func := "patrol/patrollaw03.HouseWays", spec := "houseWays", inPlace := ["internal/abi.NoEscape", "internal/bytealg.MakeNoZero"], unfollowed := true, recurses := true, named := ["internal/strconv.uint64pow10", "math/bits.deBruijn32tab", "math/bits.deBruijn64tab"], apart := false, laid := [("math/bits.deBruijn32tab", laid_math_bits_deBruijn32tab), ("math/bits.deBruijn64tab", laid_math_bits_deBruijn64tab), ("internal/strconv.uint64pow10", laid_internal_strconv_uint64pow10)] }
def HouseWaysSaid : Prop := houseWaysRow.holds Tryd.pinned (OpenSpec.ofChange houseWaysSpec)

/-- ITS FALSE NEIGHBOUR: 'it returns false'. Refute it at one input. -/
def houseWaysWrong : ChangeSpec := { name := "houseWays", fn := fun _ => fun
  | [d1, d2, d3, d4] => { results := [.lit (.bool false)], args := [d1, d2, d3, d4] }
  | _ => none }
def HouseWaysWrongFalsely : Prop := houseWaysRow.holds Tryd.pinned (OpenSpec.ofChange houseWaysWrong)

/-- 'patrollaw03.HouseClosing': WHATEVER THE INPUT: true; the input reads as it did. -/
def houseClosingSpec : ChangeSpec := { name := "houseClosing", fn := fun _ => fun
  | [d1, d2, d3, d4, d5, d6, d7, d8, d9] => { results := [.lit (.bool true)], args := [d1, d2, d3, d4, d5, d6, d7, d8, d9] }
  | _ => none }
def houseClosingRow : OpenClaim := { program := "ytofdhddbfjfkcaadoor", sum := "bf18bea3e03751d8fb758ec3b1125484c556889bc5a6c3a83ebc89493000e1ad", func := "patrol/patrollaw03.HouseClosing", spec := "houseClosing", inPlace := ["internal/abi.NoEscape", "internal/bytealg.MakeNoZero"], unfollowed := true, recurses := true, named := ["internal/strconv.uint64pow10", "math/bits.deBruijn32tab", "math/bits.deBruijn64tab"], apart := false, laid := [("math/bits.deBruijn32tab", laid_math_bits_deBruijn32tab), ("math/bits.deBruijn64tab", laid_math_bits_deBruijn64tab), ("internal/strconv.uint64pow10", laid_internal_strconv_uint64pow10)] }
def HouseClosingSaid : Prop := houseClosingRow.holds Tryd.pinned (OpenSpec.ofChange houseClosingSpec)

/-- ITS FALSE NEIGHBOUR: 'it returns false'. Refute it at one input. -/
def houseClosingWrong : ChangeSpec := { name := "houseClosing", fn := fun _ => fun
  | [d1, d2, d3, d4, d5, d6, d7, d8, d9] => { results := [.lit (.bool false)], args := [d1, d2, d3, d4, d5, d6, d7, d8, d9] }
  | _ => none }
def HouseClosingWrongFalsely : Prop := houseClosingRow.holds Tryd.pinned (OpenSpec.ofChange houseClosingWrong)

/-- 'patrollaw03.HouseBothWays': WHATEVER THE INPUT: true; the input reads as it did. -/
def houseBothWaysSpec : ChangeSpec := { name := "houseBothWays", fn := fun _ => fun
  | [d1, d2, d3, d4, d5, d6] => { results := [.lit (.bool true)], args := [d1, d2, d3, d4, d5, d6] }
  | _ => none }
def houseBothWaysRow : OpenClaim := { program := "ytofdhddbfjfkcaadoor", sum := "bf18bea3e03751d8fb758ec3b1125484c556889bc5a6c3a83ebc89493000e1ad", func := "patrol/patrollaw03.HouseBothWays", spec := "houseBothWays", inPlace := ["internal/abi.NoEscape", "internal/bytealg.MakeNoZero"], unfollowed := true, recurses := true, named := ["internal/strconv.uint64pow10", "math/bits.deBruijn32tab", "math/bits.deBruijn64tab"], apart := false, laid := [("math/bits.deBruijn32tab", laid_math_bits_deBruijn32tab), ("math/bits.deBruijn64tab", laid_math_bits_deBruijn64tab), ("internal/strconv.uint64pow10", laid_internal_strconv_uint64pow10)] }
def HouseBothWaysSaid : Prop := houseBothWaysRow.holds Tryd.pinned (OpenSpec.ofChange houseBothWaysSpec)

/-- ITS FALSE NEIGHBOUR: 'it returns false'. Refute it at one input. -/
def houseBothWaysWrong : ChangeSpec := { name := "houseBothWays", fn := fun _ => fun
  | [d1, d2, d3, d4, d5, d6] => { results := [.lit (.bool false)], args := [d1, d2, d3, d4, d5, d6] }
  | _ => none }
def HouseBothWaysWrongFalsely : Prop := houseBothWaysRow.holds Tryd.pinned (OpenSpec.ofChange houseBothWaysWrong)

/-- 'patrollaw03.HouseProofs': WHATEVER THE INPUT: true; the input reads as it did. -/
def houseProofsSpec : ChangeSpec := { name := "houseProofs", fn := fun _ => fun
  | [d1, d2, d3, d4, d5, d6] => { results := [.lit (.bool true)], args := [d1, d2, d3, d4, d5, d6] }
  | _ => none }
def houseProofsRow : OpenClaim := { program := "ytofdhddbfjfkcaadoor", sum := "bf18bea3e03751d8fb758ec3b1125484c556889bc5a6c3a83ebc89493000e1ad", func := "patrol/patrollaw03.HouseProofs", spec := "houseProofs", inPlace := ["internal/abi.NoEscape", "internal/bytealg.MakeNoZero"], unfollowed := true, recurses := true, named := ["internal/strconv.uint64pow10", "math/bits.deBruijn32tab", "math/bits.deBruijn64tab"], apart := false, laid := [("math/bits.deBruijn32tab", laid_math_bits_deBruijn32tab), ("math/bits.deBruijn64tab", laid_math_bits_deBruijn64tab), ("internal/strconv.uint64pow10", laid_internal_strconv_uint64pow10)] }
def HouseProofsSaid : Prop := houseProofsRow.holds Tryd.pinned (OpenSpec.ofChange houseProofsSpec)

/-- ITS FALSE NEIGHBOUR: 'it returns false'. Refute it at one input. -/
def houseProofsWrong : ChangeSpec := { name := "houseProofs", fn := fun _ => fun
  | [d1, d2, d3, d4, d5, d6] => { results := [.lit (.bool false)], args := [d1, d2, d3, d4, d5, d6] }
  | _ => none }
def HouseProofsWrongFalsely : Prop := houseProofsRow.holds Tryd.pinned (OpenSpec.ofChange houseProofsWrong)

/-- 'patrollaw03.HouseRoutes': WHATEVER THE INPUT: true; the input reads as it did. -/
def houseRoutesSpec : ChangeSpec := { name := "houseRoutes", fn := fun _ => fun
  | [d1, d2, d3, d4] => { results := [.lit (.bool true)], args := [d1, d2, d3, d4] }
  | _ => none }
def houseRoutesRow : OpenClaim := { program := "ytofdhddbfjfkcaadoor", sum := "bf18bea3e03751d8fb758ec3b1125484c556889bc5a6c3a83ebc89493000e1ad", func := "patrol/patrollaw03.HouseRoutes", spec := "houseRoutes", inPlace := ["internal/abi.NoEscape", "internal/bytealg.MakeNoZero"], unfollowed := true, recurses := true, named := ["internal/strconv.uint64pow10", "math/bits.deBruijn32tab", "math/bits.deBruijn64tab"], apart := false, laid := [("math/bits.deBruijn32tab", laid_math_bits_deBruijn32tab), ("math/bits.deBruijn64tab", laid_math_bits_deBruijn64tab), ("internal/strconv.uint64pow10", laid_internal_strconv_uint64pow10)] }
def HouseRoutesSaid : Prop := houseRoutesRow.holds Tryd.pinned (OpenSpec.ofChange houseRoutesSpec)

/-- ITS FALSE NEIGHBOUR: 'it returns false'. Refute it at one input. -/
def houseRoutesWrong : ChangeSpec := { name := "houseRoutes", fn := fun _ => fun
  | [d1, d2, d3, d4] => { results := [.lit (.bool false)], args := [d1, d2, d3, d4] }
  | _ => none }
def HouseRoutesWrongFalsely : Prop := houseRoutesRow.holds Tryd.pinned (OpenSpec.ofChange houseRoutesWrong)

/-- 'patrollaw03.HouseTriangle': WHATEVER THE INPUT: true; the input reads as it did. -/
def houseTriangleSpec : ChangeSpec := { name := "houseTriangle", fn := fun _ => fun
  | [d1, d2, d3, d4, d5] => { results := [.lit (.bool true)], args := [d1, d2, d3, d4, d5] }
  | _ => none }
def houseTriangleRow : OpenClaim := { program := "ytofdhddbfjfkcaadoor", sum := "bf18bea3e03751d8fb758ec3b1125484c556889bc5a6c3a83ebc89493000e1ad", func := "patrol/patrollaw03.HouseTriangle", spec := "houseTriangle", inPlace := ["internal/abi.NoEscape", "internal/bytealg.MakeNoZero"], unfollowed := true, recurses := true, named := ["internal/strconv.uint64pow10", "math/bits.deBruijn32tab", "math/bits.deBruijn64tab"], apart := false, laid := [("math/bits.deBruijn32tab", laid_math_bits_deBruijn32tab), ("math/bits.deBruijn64tab", laid_math_bits_deBruijn64tab), ("internal/strconv.uint64pow10", laid_internal_strconv_uint64pow10)] }
def HouseTriangleSaid : Prop := houseTriangleRow.holds Tryd.pinned (OpenSpec.ofChange houseTriangleSpec)

/-- ITS FALSE NEIGHBOUR: 'it returns false'. Refute it at one input. -/
def houseTriangleWrong : ChangeSpec := { name := "houseTriangle", fn := fun _ => fun
  | [d1, d2, d3, d4, d5] => { results := [.lit (.bool false)], args := [d1, d2, d3, d4, d5] }
  | _ => none }
def HouseTriangleWrongFalsely : Prop := houseTriangleRow.holds Tryd.pinned (OpenSpec.ofChange houseTriangleWrong)

/-- 'patrollaw03.HouseDistances': WHATEVER THE INPUT: true; the input reads as it did. -/
def houseDistancesSpec : ChangeSpec := { name := "houseDistances", fn := fun _ => fun
  | [d1, d2, d3] => { results := [.lit (.bool true)], args := [d1, d2, d3] }
  | _ => none }
def houseDistancesRow : OpenClaim := { program := "ytofdhddbfjfkcaadoor", sum := "bf18bea3e03751d8fb758ec3b1125484c556889bc5a6c3a83ebc89493000e1ad", func := "patrol/patrollaw03.HouseDistances", spec := "houseDistances", inPlace := ["internal/abi.NoEscape", "internal/bytealg.MakeNoZero"], unfollowed := true, recurses := true, named := ["internal/strconv.uint64pow10", "math/bits.deBruijn32tab", "math/bits.deBruijn64tab"], apart := false, laid := [("math/bits.deBruijn32tab", laid_math_bits_deBruijn32tab), ("math/bits.deBruijn64tab", laid_math_bits_deBruijn64tab), ("internal/strconv.uint64pow10", laid_internal_strconv_uint64pow10)] }
def HouseDistancesSaid : Prop := houseDistancesRow.holds Tryd.pinned (OpenSpec.ofChange houseDistancesSpec)

/-- ITS FALSE NEIGHBOUR: 'it returns false'. Refute it at one input. -/
def houseDistancesWrong : ChangeSpec := { name := "houseDistances", fn := fun _ => fun
  | [d1, d2, d3] => { results := [.lit (.bool false)], args := [d1, d2, d3] }
  | _ => none }
def HouseDistancesWrongFalsely : Prop := houseDistancesRow.holds Tryd.pinned (OpenSpec.ofChange houseDistancesWrong)

/-- 'patrollaw03.HouseWalked': WHATEVER THE INPUT: true; the input reads as it did. -/
def houseWalkedSpec : ChangeSpec := { name := "houseWalked", fn := fun _ => fun
  | [d1, d2, d3, d4, d5] => { results := [.lit (.bool true)], args := [d1, d2, d3, d4, d5] }
  | _ => none }
def houseWalkedRow : OpenClaim := { program := "ytofdhddbfjfkcaadoor", sum := "bf18bea3e03751d8fb758ec3b1125484c556889bc5a6c3a83ebc89493000e1ad", func := "patrol/patrollaw03.HouseWalked", spec := "houseWalked", inPlace := ["internal/abi.NoEscape", "internal/bytealg.MakeNoZero"], unfollowed := true, recurses := true, named := ["internal/strconv.uint64pow10", "math/bits.deBruijn32tab", "math/bits.deBruijn64tab"], apart := false, laid := [("math/bits.deBruijn32tab", laid_math_bits_deBruijn32tab), ("math/bits.deBruijn64tab", laid_math_bits_deBruijn64tab), ("internal/strconv.uint64pow10", laid_internal_strconv_uint64pow10)] }
def HouseWalkedSaid : Prop := houseWalkedRow.holds Tryd.pinned (OpenSpec.ofChange houseWalkedSpec)

/-- ITS FALSE NEIGHBOUR: 'it returns false'. Refute it at one input. -/
def houseWalkedWrong : ChangeSpec := { name := "houseWalked", fn := fun _ => fun
  | [d1, d2, d3, d4, d5] => { results := [.lit (.bool false)], args := [d1, d2, d3, d4, d5] }
  | _ => none }
def HouseWalkedWrongFalsely : Prop := houseWalkedRow.holds Tryd.pinned (OpenSpec.ofChange houseWalkedWrong)

/-- 'patrollaw03.HouseLater': WHATEVER THE INPUT: true; the input reads as it did. -/
def houseLaterSpec : ChangeSpec := { name := "houseLater", fn := fun _ => fun
  | [d1, d2, d3, d4, d5, d6, d7, d8] => { results := [.lit (.bool true)], args := [d1, d2, d3, d4, d5, d6, d7, d8] }
  | _ => none }
def houseLaterRow : OpenClaim := { program := "ytofdhddbfjfkcaadoor", sum := "bf18bea3e03751d8fb758ec3b1125484c556889bc5a6c3a83ebc89493000e1ad", func := "patrol/patrollaw03.HouseLater", spec := "houseLater", inPlace := ["internal/abi.NoEscape", "internal/bytealg.MakeNoZero"], unfollowed := true, recurses := true, named := ["internal/strconv.uint64pow10", "math/bits.deBruijn32tab", "math/bits.deBruijn64tab"], apart := false, laid := [("math/bits.deBruijn32tab", laid_math_bits_deBruijn32tab), ("math/bits.deBruijn64tab", laid_math_bits_deBruijn64tab), ("internal/strconv.uint64pow10", laid_internal_strconv_uint64pow10)] }
def HouseLaterSaid : Prop := houseLaterRow.holds Tryd.pinned (OpenSpec.ofChange houseLaterSpec)

/-- ITS FALSE NEIGHBOUR: 'it returns false'. Refute it at one input. -/
def houseLaterWrong : ChangeSpec := { name := "houseLater", fn := fun _ => fun
  | [d1, d2, d3, d4, d5, d6, d7, d8] => { results := [.lit (.bool false)], args := [d1, d2, d3, d4, d5, d6, d7, d8] }
  | _ => none }
def HouseLaterWrongFalsely : Prop := houseLaterRow.holds Tryd.pinned (OpenSpec.ofChange houseLaterWrong)

/-- 'patrollaw03.HouseTours': WHATEVER THE INPUT: true; the input reads as it did. -/
def houseToursSpec : ChangeSpec := { name := "houseTours", fn := fun _ => fun
  | [d1, d2, d3, d4] => { results := [.lit (.bool true)], args := [d1, d2, d3, d4] }
  | _ => none }
def houseToursRow : OpenClaim := { program := "ytofdhddbfjfkcaadoor", sum := "bf18bea3e03751d8fb758ec3b1125484c556889bc5a6c3a83ebc89493000e1ad", func := "patrol/patrollaw03.HouseTours", spec := "houseTours", inPlace := ["internal/abi.NoEscape", "internal/bytealg.MakeNoZero"], unfollowed := true, recurses := true, named := ["internal/strconv.uint64pow10", "math/bits.deBruijn32tab", "math/bits.deBruijn64tab"], apart := false, laid := [("math/bits.deBruijn32tab", laid_math_bits_deBruijn32tab), ("math/bits.deBruijn64tab", laid_math_bits_deBruijn64tab), ("internal/strconv.uint64pow10", laid_internal_strconv_uint64pow10)] }
def HouseToursSaid : Prop := houseToursRow.holds Tryd.pinned (OpenSpec.ofChange houseToursSpec)

/-- ITS FALSE NEIGHBOUR: 'it returns false'. Refute it at one input. -/
def houseToursWrong : ChangeSpec := { name := "houseTours", fn := fun _ => fun
  | [d1, d2, d3, d4] => { results := [.lit (.bool false)], args := [d1, d2, d3, d4] }
  | _ => none }
def HouseToursWrongFalsely : Prop := houseToursRow.holds Tryd.pinned (OpenSpec.ofChange houseToursWrong)

/-- 'patrollaw03.HouseDoors': WHATEVER THE INPUT: true; the input reads as it did. -/
def houseDoorsSpec : ChangeSpec := { name := "houseDoors", fn := fun _ => fun
  | [d1, d2, d3, d4] => { results := [.lit (.bool true)], args := [d1, d2, d3, d4] }
  | _ => none }
def houseDoorsRow : OpenClaim := { program := "ytofdhddbfjfkcaadoor", sum := "bf18bea3e03751d8fb758ec3b1125484c556889bc5a6c3a83ebc89493000e1ad", func := "patrol/patrollaw03.HouseDoors", spec := "houseDoors", inPlace := ["internal/abi.NoEscape", "internal/bytealg.MakeNoZero"], unfollowed := true, recurses := true, named := ["internal/strconv.uint64pow10", "math/bits.deBruijn32tab", "math/bits.deBruijn64tab"], apart := false, laid := [("math/bits.deBruijn32tab", laid_math_bits_deBruijn32tab), ("math/bits.deBruijn64tab", laid_math_bits_deBruijn64tab), ("internal/strconv.uint64pow10", laid_internal_strconv_uint64pow10)] }
def HouseDoorsSaid : Prop := houseDoorsRow.holds Tryd.pinned (OpenSpec.ofChange houseDoorsSpec)

/-- ITS FALSE NEIGHBOUR: 'it returns false'. Refute it at one input. -/
def houseDoorsWrong : ChangeSpec := { name := "houseDoors", fn := fun _ => fun
  | [d1, d2, d3, d4] => { results := [.lit (.bool false)], args := [d1, d2, d3, d4] }
  | _ => none }
def HouseDoorsWrongFalsely : Prop := houseDoorsRow.holds Tryd.pinned (OpenSpec.ofChange houseDoorsWrong)

/-- 'patrollaw03.HouseNext': WHATEVER THE INPUT: true; the input reads as it did. -/
def houseNextSpec : ChangeSpec := { name := "houseNext", fn := fun _ => fun
  | [d1, d2, d3, d4, d5] => { results := [.lit (.bool true)], args := [d1, d2, d3, d4, d5] }
  | _ => none }
def houseNextRow : OpenClaim := { program := "ytofdhddbfjfkcaadoor", sum := "bf18bea3e03751d8fb758ec3b1125484c556889bc5a6c3a83ebc89493000e1ad", func := "patrol/patrollaw03.HouseNext", spec := "houseNext", inPlace := ["internal/abi.NoEscape", "internal/bytealg.MakeNoZero"], unfollowed := true, recurses := true, named := ["internal/strconv.uint64pow10", "math/bits.deBruijn32tab", "math/bits.deBruijn64tab"], apart := false, laid := [("math/bits.deBruijn32tab", laid_math_bits_deBruijn32tab), ("math/bits.deBruijn64tab", laid_math_bits_deBruijn64tab), ("internal/strconv.uint64pow10", laid_internal_strconv_uint64pow10)] }
def HouseNextSaid : Prop := houseNextRow.holds Tryd.pinned (OpenSpec.ofChange houseNextSpec)

/-- ITS FALSE NEIGHBOUR: 'it returns false'. Refute it at one input. -/
def houseNextWrong : ChangeSpec := { name := "houseNext", fn := fun _ => fun
  | [d1, d2, d3, d4, d5] => { results := [.lit (.bool false)], args := [d1, d2, d3, d4, d5] }
  | _ => none }
def HouseNextWrongFalsely : Prop := houseNextRow.holds Tryd.pinned (OpenSpec.ofChange houseNextWrong)

/- THE SECOND FORM. 'bulk': how many values and letters a reading holds, each counted each time it is reached (what is shared counts as often as it is met; a slice's spare places count too). A statement '..UptoSaid' is the law's where the arguments, and the package variables that the reading takes, are together of bulk at most 1048576: NARROWER than '..Said'. Prove '..Said' where nothing that the law and all that it calls make is longer than what came in: it says more and counts as full. Else prove '..UptoSaid'. A law counts once. -/
mutual
def uptoBulk {H : Type} : DataW H → Nat
  | .lit (.string bytes) => bytes.length + 1
  | .lit _ => 1
  | .nil => 1
  | .ptr d => uptoBulk d + 1
  | .slice elems spare => uptoBulkAll elems + uptoBulkAll spare + 1
  | .agg parts => uptoBulkAll parts + 1
  | .iface _ d => uptoBulk d + 1
  | .map entries => uptoBulkEntries entries + 1
  | .held _ => 1
def uptoBulkAll {H : Type} : List (DataW H) → Nat
  | [] => 0
  | d :: r => uptoBulk d + uptoBulkAll r
def uptoBulkEntries {H : Type} : List (Lit × DataW H) → Nat
  | [] => 0
  | x :: r => uptoBulkEntry x + uptoBulkEntries r
def uptoBulkEntry {H : Type} : Lit × DataW H → Nat
  | (.string bytes, d) => bytes.length + uptoBulk d + 1
  | (_, d) => uptoBulk d + 1
 end
def uptoSmall : (H : Type) → List (DataW H) → Bool := fun _ ds => decide (uptoBulkAll ds ≤ 1048576)
def OpenSpec.upto (s : _root_.Go.ChangeSpec) : _root_.Go.OpenSpec := { _root_.Go.OpenSpec.ofChange s with cond := some uptoSmall }

/-- 'patrollaw03.HouseWalks', WHERE WHAT IT READS IS OF BULK AT MOST 1048576: true; the input reads as it did. -/
def houseWalksUptoRow : OpenClaim := { program := "ytofdhddbfjfkcaadoor", sum := "bf18bea3e03751d8fb758ec3b1125484c556889bc5a6c3a83ebc89493000e1ad", func := "patrol/patrollaw03.HouseWalks", spec := "houseWalks", inPlace := ["internal/abi.NoEscape", "internal/bytealg.MakeNoZero"], unfollowed := true, recurses := true, named := ["internal/strconv.uint64pow10", "math/bits.deBruijn32tab", "math/bits.deBruijn64tab"], apart := false, laid := [("math/bits.deBruijn32tab", laid_math_bits_deBruijn32tab), ("math/bits.deBruijn64tab", laid_math_bits_deBruijn64tab), ("internal/strconv.uint64pow10", laid_internal_strconv_uint64pow10)], narrowed := true }
def HouseWalksUptoSaid : Prop := houseWalksUptoRow.holds Tryd.pinned (OpenSpec.upto houseWalksSpec)

/-- 'patrollaw03.HouseShuts', WHERE WHAT IT READS IS OF BULK AT MOST 1048576: true; the input reads as it did. -/
def houseShutsUptoRow : OpenClaim := { program := "ytofdhddbfjfkcaadoor", sum := "bf18bea3e03751d8fb758ec3b1125484c556889bc5a6c3a83ebc89493000e1ad", func := "patrol/patrollaw03.HouseShuts", spec := "houseShuts", inPlace := ["internal/abi.NoEscape", "internal/bytealg.MakeNoZero"], unfollowed := true, recurses := true, named := ["internal/strconv.uint64pow10", "math/bits.deBruijn32tab", "math/bits.deBruijn64tab"], apart := false, laid := [("math/bits.deBruijn32tab", laid_math_bits_deBruijn32tab), ("math/bits.deBruijn64tab", laid_math_bits_deBruijn64tab), ("internal/strconv.uint64pow10", laid_internal_strconv_uint64pow10)], narrowed := true }
def HouseShutsUptoSaid : Prop := houseShutsUptoRow.holds Tryd.pinned (OpenSpec.upto houseShutsSpec)

/-- 'patrollaw03.HouseTimes', WHERE WHAT IT READS IS OF BULK AT MOST 1048576: true; the input reads as it did. -/
def houseTimesUptoRow : OpenClaim := { program := "ytofdhddbfjfkcaadoor", sum := "bf18bea3e03751d8fb758ec3b1125484c556889bc5a6c3a83ebc89493000e1ad", func := "patrol/patrollaw03.HouseTimes", spec := "houseTimes", inPlace := ["internal/abi.NoEscape", "internal/bytealg.MakeNoZero"], unfollowed := true, recurses := true, named := ["internal/strconv.uint64pow10", "math/bits.deBruijn32tab", "math/bits.deBruijn64tab"], apart := false, laid := [("math/bits.deBruijn32tab", laid_math_bits_deBruijn32tab), ("math/bits.deBruijn64tab", laid_math_bits_deBruijn64tab), ("internal/strconv.uint64pow10", laid_internal_strconv_uint64pow10)], narrowed := true }
def HouseTimesUptoSaid : Prop := houseTimesUptoRow.holds Tryd.pinned (OpenSpec.upto houseTimesSpec)

/-- 'patrollaw03.HouseWalls', WHERE WHAT IT READS IS OF BULK AT MOST 1048576: true; the input reads as it did. -/
def houseWallsUptoRow : OpenClaim := { program := "ytofdhddbfjfkcaadoor", sum := "bf18bea3e03751d8fb758ec3b1125484c556889bc5a6c3a83ebc89493000e1ad", func := "patrol/patrollaw03.HouseWalls", spec := "houseWalls", inPlace := ["internal/abi.NoEscape", "internal/bytealg.MakeNoZero"], unfollowed := true, recurses := true, named := ["internal/strconv.uint64pow10", "math/bits.deBruijn32tab", "math/bits.deBruijn64tab"], apart := false, laid := [("math/bits.deBruijn32tab", laid_math_bits_deBruijn32tab), ("math/bits.deBruijn64tab", laid_math_bits_deBruijn64tab), ("internal/strconv.uint64pow10", laid_internal_strconv_uint64pow10)], narrowed := true }
def HouseWallsUptoSaid : Prop := houseWallsUptoRow.holds Tryd.pinned (OpenSpec.upto houseWallsSpec)

/-- 'patrollaw03.HouseChecks', WHERE WHAT IT READS IS OF BULK AT MOST 1048576: true; the input reads as it did. -/
def houseChecksUptoRow : OpenClaim := { program := "ytofdhddbfjfkcaadoor", sum := "bf18bea3e03751d8fb758ec3b1125484c556889bc5a6c3a83ebc89493000e1ad", func := "patrol/patrollaw03.HouseChecks", spec := "houseChecks", inPlace := ["internal/abi.NoEscape", "internal/bytealg.MakeNoZero"], unfollowed := true, recurses := true, named := ["internal/strconv.uint64pow10", "math/bits.deBruijn32tab", "math/bits.deBruijn64tab"], apart := false, laid := [("math/bits.deBruijn32tab", laid_math_bits_deBruijn32tab), ("math/bits.deBruijn64tab", laid_math_bits_deBruijn64tab), ("internal/strconv.uint64pow10", laid_internal_strconv_uint64pow10)], narrowed := true }
def HouseChecksUptoSaid : Prop := houseChecksUptoRow.holds Tryd.pinned (OpenSpec.upto houseChecksSpec)

/-- 'patrollaw03.HouseWays', WHERE WHAT IT READS IS OF BULK AT MOST 1048576: true; the input reads as it did. -/
def houseWaysUptoRow : OpenClaim := { program := "ytofdhddbfjfkcaadoor", sum := "bf18bea3e03751d8fb758ec3b1125484c556889bc5a6c3a83ebc89493000e1ad", func := "patrol/patrollaw03.HouseWays", spec := "houseWays", inPlace := ["internal/abi.NoEscape", "internal/bytealg.MakeNoZero"], unfollowed := true, recurses := true, named := ["internal/strconv.uint64pow10", "math/bits.deBruijn32tab", "math/bits.deBruijn64tab"], apart := false, laid := [("math/bits.deBruijn32tab", laid_math_bits_deBruijn32tab), ("math/bits.deBruijn64tab", laid_math_bits_deBruijn64tab), ("internal/strconv.uint64pow10", laid_internal_strconv_uint64pow10)], narrowed := true }
def HouseWaysUptoSaid : Prop := houseWaysUptoRow.holds Tryd.pinned (OpenSpec.upto houseWaysSpec)

/-- 'patrollaw03.HouseClosing', WHERE WHAT IT READS IS OF BULK AT MOST 1048576: true; the input reads as it did. -/
def houseClosingUptoRow : OpenClaim := { program := "ytofdhddbfjfkcaadoor", sum := "bf18bea3e03751d8fb758ec3b1125484c556889bc5a6c3a83ebc89493000e1ad", func := "patrol/patrollaw03.HouseClosing", spec := "houseClosing", inPlace := ["internal/abi.NoEscape", "internal/bytealg.MakeNoZero"], unfollowed := true, recurses := true, named := ["internal/strconv.uint64pow10", "math/bits.deBruijn32tab", "math/bits.deBruijn64tab"], apart := false, laid := [("math/bits.deBruijn32tab", laid_math_bits_deBruijn32tab), ("math/bits.deBruijn64tab", laid_math_bits_deBruijn64tab), ("internal/strconv.uint64pow10", laid_internal_strconv_uint64pow10)], narrowed := true }
def HouseClosingUptoSaid : Prop := houseClosingUptoRow.holds Tryd.pinned (OpenSpec.upto houseClosingSpec)

/-- 'patrollaw03.HouseBothWays', WHERE WHAT IT READS IS OF BULK AT MOST 1048576: true; the input reads as it did. -/
def houseBothWaysUptoRow : OpenClaim := { program := "ytofdhddbfjfkcaadoor", sum := "bf18bea3e03751d8fb758ec3b1125484c556889bc5a6c3a83ebc89493000e1ad", func := "patrol/patrollaw03.HouseBothWays", spec := "houseBothWays", inPlace := ["internal/abi.NoEscape", "internal/bytealg.MakeNoZero"], unfollowed := true, recurses := true, named := ["internal/strconv.uint64pow10", "math/bits.deBruijn32tab", "math/bits.deBruijn64tab"], apart := false, laid := [("math/bits.deBruijn32tab", laid_math_bits_deBruijn32tab), ("math/bits.deBruijn64tab", laid_math_bits_deBruijn64tab), ("internal/strconv.uint64pow10", laid_internal_strconv_uint64pow10)], narrowed := true }
def HouseBothWaysUptoSaid : Prop := houseBothWaysUptoRow.holds Tryd.pinned (OpenSpec.upto houseBothWaysSpec)

/-- 'patrollaw03.HouseProofs', WHERE WHAT IT READS IS OF BULK AT MOST 1048576: true; the input reads as it did. -/
def houseProofsUptoRow : OpenClaim := { program := "ytofdhddbfjfkcaadoor", sum := "bf18bea3e03751d8fb758ec3b1125484c556889bc5a6c3a83ebc89493000e1ad", func := "patrol/patrollaw03.HouseProofs", spec := "houseProofs", inPlace := ["internal/abi.NoEscape", "internal/bytealg.MakeNoZero"], unfollowed := true, recurses := true, named := ["internal/strconv.uint64pow10", "math/bits.deBruijn32tab", "math/bits.deBruijn64tab"], apart := false, laid := [("math/bits.deBruijn32tab", laid_math_bits_deBruijn32tab), ("math/bits.deBruijn64tab", laid_math_bits_deBruijn64tab), ("internal/strconv.uint64pow10", laid_internal_strconv_uint64pow10)], narrowed := true }
def HouseProofsUptoSaid : Prop := houseProofsUptoRow.holds Tryd.pinned (OpenSpec.upto houseProofsSpec)

/-- 'patrollaw03.HouseRoutes', WHERE WHAT IT READS IS OF BULK AT MOST 1048576: true; the input reads as it did. -/
def houseRoutesUptoRow : OpenClaim := { program := "ytofdhddbfjfkcaadoor", sum := "bf18bea3e03751d8fb758ec3b1125484c556889bc5a6c3a83ebc89493000e1ad", func := "patrol/patrollaw03.HouseRoutes", spec := "houseRoutes", inPlace := ["internal/abi.NoEscape", "internal/bytealg.MakeNoZero"], unfollowed := true, recurses := true, named := ["internal/strconv.uint64pow10", "math/bits.deBruijn32tab", "math/bits.deBruijn64tab"], apart := false, laid := [("math/bits.deBruijn32tab", laid_math_bits_deBruijn32tab), ("math/bits.deBruijn64tab", laid_math_bits_deBruijn64tab), ("internal/strconv.uint64pow10", laid_internal_strconv_uint64pow10)], narrowed := true }
def HouseRoutesUptoSaid : Prop := houseRoutesUptoRow.holds Tryd.pinned (OpenSpec.upto houseRoutesSpec)

/-- 'patrollaw03.HouseTriangle', WHERE WHAT IT READS IS OF BULK AT MOST 1048576: true; the input reads as it did. -/
def houseTriangleUptoRow : OpenClaim := { program := "ytofdhddbfjfkcaadoor", sum := "bf18bea3e03751d8fb758ec3b1125484c556889bc5a6c3a83ebc89493000e1ad", func := "patrol/patrollaw03.HouseTriangle", spec := "houseTriangle", inPlace := ["internal/abi.NoEscape", "internal/bytealg.MakeNoZero"], unfollowed := true, recurses := true, named := ["internal/strconv.uint64pow10", "math/bits.deBruijn32tab", "math/bits.deBruijn64tab"], apart := false, laid := [("math/bits.deBruijn32tab", laid_math_bits_deBruijn32tab), ("math/bits.deBruijn64tab", laid_math_bits_deBruijn64tab), ("internal/strconv.uint64pow10", laid_internal_strconv_uint64pow10)], narrowed := true }
def HouseTriangleUptoSaid : Prop := houseTriangleUptoRow.holds Tryd.pinned (OpenSpec.upto houseTriangleSpec)

/-- 'patrollaw03.HouseDistances', WHERE WHAT IT READS IS OF BULK AT MOST 1048576: true; the input reads as it did. -/
def houseDistancesUptoRow : OpenClaim := { program := "ytofdhddbfjfkcaadoor", sum := "bf18bea3e03751d8fb758ec3b1125484c556889bc5a6c3a83ebc89493000e1ad", func := "patrol/patrollaw03.HouseDistances", spec := "houseDistances", inPlace := ["internal/abi.NoEscape", "internal/bytealg.MakeNoZero"], unfollowed := true, recurses := true, named := ["internal/strconv.uint64pow10", "math/bits.deBruijn32tab", "math/bits.deBruijn64tab"], apart := false, laid := [("math/bits.deBruijn32tab", laid_math_bits_deBruijn32tab), ("math/bits.deBruijn64tab", laid_math_bits_deBruijn64tab), ("internal/strconv.uint64pow10", laid_internal_strconv_uint64pow10)], narrowed := true }
def HouseDistancesUptoSaid : Prop := houseDistancesUptoRow.holds Tryd.pinned (OpenSpec.upto houseDistancesSpec)

/-- 'patrollaw03.HouseWalked', WHERE WHAT IT READS IS OF BULK AT MOST 1048576: true; the input reads as it did. -/
def houseWalkedUptoRow : OpenClaim := { program := "ytofdhddbfjfkcaadoor", sum := "bf18bea3e03751d8fb758ec3b1125484c556889bc5a6c3a83ebc89493000e1ad", func := "patrol/patrollaw03.HouseWalked", spec := "houseWalked", inPlace := ["internal/abi.NoEscape", "internal/bytealg.MakeNoZero"], unfollowed := true, recurses := true, named := ["internal/strconv.uint64pow10", "math/bits.deBruijn32tab", "math/bits.deBruijn64tab"], apart := false, laid := [("math/bits.deBruijn32tab", laid_math_bits_deBruijn32tab), ("math/bits.deBruijn64tab", laid_math_bits_deBruijn64tab), ("internal/strconv.uint64pow10", laid_internal_strconv_uint64pow10)], narrowed := true }
def HouseWalkedUptoSaid : Prop := houseWalkedUptoRow.holds Tryd.pinned (OpenSpec.upto houseWalkedSpec)

/-- 'patrollaw03.HouseLater', WHERE WHAT IT READS IS OF BULK AT MOST 1048576: true; the input reads as it did. -/
def houseLaterUptoRow : OpenClaim := { program := "ytofdhddbfjfkcaadoor", sum := "bf18bea3e03751d8fb758ec3b1125484c556889bc5a6c3a83ebc89493000e1ad", func := "patrol/patrollaw03.HouseLater", spec := "houseLater", inPlace := ["internal/abi.NoEscape", "internal/bytealg.MakeNoZero"], unfollowed := true, recurses := true, named := ["internal/strconv.uint64pow10", "math/bits.deBruijn32tab", "math/bits.deBruijn64tab"], apart := false, laid := [("math/bits.deBruijn32tab", laid_math_bits_deBruijn32tab), ("math/bits.deBruijn64tab", laid_math_bits_deBruijn64tab), ("internal/strconv.uint64pow10", laid_internal_strconv_uint64pow10)], narrowed := true }
def HouseLaterUptoSaid : Prop := houseLaterUptoRow.holds Tryd.pinned (OpenSpec.upto houseLaterSpec)

/-- 'patrollaw03.HouseTours', WHERE WHAT IT READS IS OF BULK AT MOST 1048576: true; the input reads as it did. -/
def houseToursUptoRow : OpenClaim := { program := "ytofdhddbfjfkcaadoor", sum := "bf18bea3e03751d8fb758ec3b1125484c556889bc5a6c3a83ebc89493000e1ad", func := "patrol/patrollaw03.HouseTours", spec := "houseTours", inPlace := ["internal/abi.NoEscape", "internal/bytealg.MakeNoZero"], unfollowed := true, recurses := true, named := ["internal/strconv.uint64pow10", "math/bits.deBruijn32tab", "math/bits.deBruijn64tab"], apart := false, laid := [("math/bits.deBruijn32tab", laid_math_bits_deBruijn32tab), ("math/bits.deBruijn64tab", laid_math_bits_deBruijn64tab), ("internal/strconv.uint64pow10", laid_internal_strconv_uint64pow10)], narrowed := true }
def HouseToursUptoSaid : Prop := houseToursUptoRow.holds Tryd.pinned (OpenSpec.upto houseToursSpec)

/-- 'patrollaw03.HouseDoors', WHERE WHAT IT READS IS OF BULK AT MOST 1048576: true; the input reads as it did. -/
def houseDoorsUptoRow : OpenClaim := { program := "ytofdhddbfjfkcaadoor", sum := "bf18bea3e03751d8fb758ec3b1125484c556889bc5a6c3a83ebc89493000e1ad", func := "patrol/patrollaw03.HouseDoors", spec := "houseDoors", inPlace := ["internal/abi.NoEscape", "internal/bytealg.MakeNoZero"], unfollowed := true, recurses := true, named := ["internal/strconv.uint64pow10", "math/bits.deBruijn32tab", "math/bits.deBruijn64tab"], apart := false, laid := [("math/bits.deBruijn32tab", laid_math_bits_deBruijn32tab), ("math/bits.deBruijn64tab", laid_math_bits_deBruijn64tab), ("internal/strconv.uint64pow10", laid_internal_strconv_uint64pow10)], narrowed := true }
def HouseDoorsUptoSaid : Prop := houseDoorsUptoRow.holds Tryd.pinned (OpenSpec.upto houseDoorsSpec)

/-- 'patrollaw03.HouseNext', WHERE WHAT IT READS IS OF BULK AT MOST 1048576: true; the input reads as it did. -/
def houseNextUptoRow : OpenClaim := { program := "ytofdhddbfjfkcaadoor", sum := "bf18bea3e03751d8fb758ec3b1125484c556889bc5a6c3a83ebc89493000e1ad", func := "patrol/patrollaw03.HouseNext", spec := "houseNext", inPlace := ["internal/abi.NoEscape", "internal/bytealg.MakeNoZero"], unfollowed := true, recurses := true, named := ["internal/strconv.uint64pow10", "math/bits.deBruijn32tab", "math/bits.deBruijn64tab"], apart := false, laid := [("math/bits.deBruijn32tab", laid_math_bits_deBruijn32tab), ("math/bits.deBruijn64tab", laid_math_bits_deBruijn64tab), ("internal/strconv.uint64pow10", laid_internal_strconv_uint64pow10)], narrowed := true }
def HouseNextUptoSaid : Prop := houseNextUptoRow.holds Tryd.pinned (OpenSpec.upto houseNextSpec)

end Rows
end Go.Proofs.YtofdhddbfjfkcaaDoor
