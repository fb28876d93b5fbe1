/-
  No cell of these rows narrows 'for every input' (looked for: loops, veiled, ifaces, maps, wideKeys, modest, calm, conditions, laid).
  DERIVED. THE GIVEN ROWS OF THIS SEAT. 16 by the template 'for every input the law returns true; each argument reads behind the call as it read before'; 0 by the template 'total and deterministic' (their statements: YtdlflcambboojaaTotals.lean).
  GIVEN WITH THE SEED: the statements are not yours to turn. If you find one false, say at which input.
  Laid BY PROGRAM, IN A SANDBOX (cutbox-rows.mjs): the forced cells as the released guide's own fill.sh prints them over the translation 8f7952db2081f051… (all of the seat's roots in one cut). By AI agents, Wed Nov 11 2026. No macro, syntax, notation, axiom, sorry.
-/
import Derived.Test.YtdlflcambboojaaChecked
import GoSem.Claim
import GoSem.ClaimJoined
import GoSem.ClaimMapViews
import Derived.JoinedTies
import Derived.KernelRfl
namespace Go.Proofs.Ytdlflcambboojaa
/- THE CELL 'sum', in the pinned program and in every row, IS THE sha256 OF THE DUMP (.gsa) THAT YtdlflcambboojaaProg.lean LOADS. Nothing in Lean hashes anything: it is a label: what it is worth is what the hold of that sum in a sandbox is worth. -/
noncomputable def Try.pinned : Pinned := { name := "ytdlflcambboojaa", sum := "8f7952db2081f051ed9edc88c12d5fab186f3531dccd0f948b14ac6f6706d933", checked := Try.checked }
namespace Rows
def none {H : Type} : Left H := { results := [], args := [] }

/-- 'patrollaw02.ClockBetween': WHATEVER THE INPUT: true; the input reads as it did. -/
def clockBetweenSpec : ChangeSpec := { name := "clockBetween", fn := fun _ => fun
  | [d1, d2, d3, d4] => { results := [.lit (.bool true)], args := [d1, d2, d3, d4] }
  | _ => none }
def clockBetweenRow : OpenClaim := { program := "ytdlflcambboojaa", sum := "8f7952db2081f051ed9edc88c12d5fab186f3531dccd0f948b14ac6f6706d933", func := "patrol/patrollaw02.ClockBetween", spec := "clockBetween", unfollowed := true, recurses := true, plainKeys := false, apart := false }
def ClockBetweenSaid : Prop := clockBetweenRow.holds Try.pinned (OpenSpec.ofChange clockBetweenSpec)

/-- ITS FALSE NEIGHBOUR: 'it returns false'. Refute it at one input. -/
def clockBetweenWrong : ChangeSpec := { name := "clockBetween", fn := fun _ => fun
  | [d1, d2, d3, d4] => { results := [.lit (.bool false)], args := [d1, d2, d3, d4] }
  | _ => none }
def ClockBetweenWrongFalsely : Prop := clockBetweenRow.holds Try.pinned (OpenSpec.ofChange clockBetweenWrong)

/-- 'patrollaw02.ClockCycles': WHATEVER THE INPUT: true; the input reads as it did. -/
def clockCyclesSpec : ChangeSpec := { name := "clockCycles", fn := fun _ => fun
  | [d1, d2] => { results := [.lit (.bool true)], args := [d1, d2] }
  | _ => none }
def clockCyclesRow : OpenClaim := { program := "ytdlflcambboojaa", sum := "8f7952db2081f051ed9edc88c12d5fab186f3531dccd0f948b14ac6f6706d933", func := "patrol/patrollaw02.ClockCycles", spec := "clockCycles", unfollowed := true, recurses := true, plainKeys := false, apart := false }
def ClockCyclesSaid : Prop := clockCyclesRow.holds Try.pinned (OpenSpec.ofChange clockCyclesSpec)

/-- ITS FALSE NEIGHBOUR: 'it returns false'. Refute it at one input. -/
def clockCyclesWrong : ChangeSpec := { name := "clockCycles", fn := fun _ => fun
  | [d1, d2] => { results := [.lit (.bool false)], args := [d1, d2] }
  | _ => none }
def ClockCyclesWrongFalsely : Prop := clockCyclesRow.holds Try.pinned (OpenSpec.ofChange clockCyclesWrong)

/-- 'patrollaw02.ClockMore': WHATEVER THE INPUT: true; the input reads as it did. -/
def clockMoreSpec : ChangeSpec := { name := "clockMore", fn := fun _ => fun
  | [d1, d2, d3, d4] => { results := [.lit (.bool true)], args := [d1, d2, d3, d4] }
  | _ => none }
def clockMoreRow : OpenClaim := { program := "ytdlflcambboojaa", sum := "8f7952db2081f051ed9edc88c12d5fab186f3531dccd0f948b14ac6f6706d933", func := "patrol/patrollaw02.ClockMore", spec := "clockMore", unfollowed := true, recurses := true, plainKeys := false, apart := false }
def ClockMoreSaid : Prop := clockMoreRow.holds Try.pinned (OpenSpec.ofChange clockMoreSpec)

/-- ITS FALSE NEIGHBOUR: 'it returns false'. Refute it at one input. -/
def clockMoreWrong : ChangeSpec := { name := "clockMore", fn := fun _ => fun
  | [d1, d2, d3, d4] => { results := [.lit (.bool false)], args := [d1, d2, d3, d4] }
  | _ => none }
def ClockMoreWrongFalsely : Prop := clockMoreRow.holds Try.pinned (OpenSpec.ofChange clockMoreWrong)

/-- 'patrollaw02.ClockOrder': WHATEVER THE INPUT: true; the input reads as it did. -/
def clockOrderSpec : ChangeSpec := { name := "clockOrder", fn := fun _ => fun
  | [d1, d2] => { results := [.lit (.bool true)], args := [d1, d2] }
  | _ => none }
def clockOrderRow : OpenClaim := { program := "ytdlflcambboojaa", sum := "8f7952db2081f051ed9edc88c12d5fab186f3531dccd0f948b14ac6f6706d933", func := "patrol/patrollaw02.ClockOrder", spec := "clockOrder", unfollowed := true, recurses := true, plainKeys := false, apart := false }
def ClockOrderSaid : Prop := clockOrderRow.holds Try.pinned (OpenSpec.ofChange clockOrderSpec)

/-- ITS FALSE NEIGHBOUR: 'it returns false'. Refute it at one input. -/
def clockOrderWrong : ChangeSpec := { name := "clockOrder", fn := fun _ => fun
  | [d1, d2] => { results := [.lit (.bool false)], args := [d1, d2] }
  | _ => none }
def ClockOrderWrongFalsely : Prop := clockOrderRow.holds Try.pinned (OpenSpec.ofChange clockOrderWrong)

/-- 'patrollaw02.ClockLess': WHATEVER THE INPUT: true; the input reads as it did. -/
def clockLessSpec : ChangeSpec := { name := "clockLess", fn := fun _ => fun
  | [d1, d2] => { results := [.lit (.bool true)], args := [d1, d2] }
  | _ => none }
def clockLessRow : OpenClaim := { program := "ytdlflcambboojaa", sum := "8f7952db2081f051ed9edc88c12d5fab186f3531dccd0f948b14ac6f6706d933", func := "patrol/patrollaw02.ClockLess", spec := "clockLess", unfollowed := true, recurses := true, plainKeys := false, apart := false }
def ClockLessSaid : Prop := clockLessRow.holds Try.pinned (OpenSpec.ofChange clockLessSpec)

/-- ITS FALSE NEIGHBOUR: 'it returns false'. Refute it at one input. -/
def clockLessWrong : ChangeSpec := { name := "clockLess", fn := fun _ => fun
  | [d1, d2] => { results := [.lit (.bool false)], args := [d1, d2] }
  | _ => none }
def ClockLessWrongFalsely : Prop := clockLessRow.holds Try.pinned (OpenSpec.ofChange clockLessWrong)

/-- 'patrollaw02.ClockMemory': WHATEVER THE INPUT: true; the input reads as it did. -/
def clockMemorySpec : ChangeSpec := { name := "clockMemory", fn := fun _ => fun
  | [d1, d2] => { results := [.lit (.bool true)], args := [d1, d2] }
  | _ => none }
def clockMemoryRow : OpenClaim := { program := "ytdlflcambboojaa", sum := "8f7952db2081f051ed9edc88c12d5fab186f3531dccd0f948b14ac6f6706d933", func := "patrol/patrollaw02.ClockMemory", spec := "clockMemory", unfollowed := true, recurses := true, plainKeys := false, apart := false }
def ClockMemorySaid : Prop := clockMemoryRow.holds Try.pinned (OpenSpec.ofChange clockMemorySpec)

/-- ITS FALSE NEIGHBOUR: 'it returns false'. Refute it at one input. -/
def clockMemoryWrong : ChangeSpec := { name := "clockMemory", fn := fun _ => fun
  | [d1, d2] => { results := [.lit (.bool false)], args := [d1, d2] }
  | _ => none }
def ClockMemoryWrongFalsely : Prop := clockMemoryRow.holds Try.pinned (OpenSpec.ofChange clockMemoryWrong)

/-- 'patrollaw02.ClockRecords': WHATEVER THE INPUT: true; the input reads as it did. -/
def clockRecordsSpec : ChangeSpec := { name := "clockRecords", fn := fun _ => fun
  | [d1, d2] => { results := [.lit (.bool true)], args := [d1, d2] }
  | _ => none }
def clockRecordsRow : OpenClaim := { program := "ytdlflcambboojaa", sum := "8f7952db2081f051ed9edc88c12d5fab186f3531dccd0f948b14ac6f6706d933", func := "patrol/patrollaw02.ClockRecords", spec := "clockRecords", unfollowed := true, recurses := true, plainKeys := false, apart := false }
def ClockRecordsSaid : Prop := clockRecordsRow.holds Try.pinned (OpenSpec.ofChange clockRecordsSpec)

/-- ITS FALSE NEIGHBOUR: 'it returns false'. Refute it at one input. -/
def clockRecordsWrong : ChangeSpec := { name := "clockRecords", fn := fun _ => fun
  | [d1, d2] => { results := [.lit (.bool false)], args := [d1, d2] }
  | _ => none }
def ClockRecordsWrongFalsely : Prop := clockRecordsRow.holds Try.pinned (OpenSpec.ofChange clockRecordsWrong)

/-- 'patrollaw02.ClockRefuses': WHATEVER THE INPUT: true; the input reads as it did. -/
def clockRefusesSpec : ChangeSpec := { name := "clockRefuses", fn := fun _ => fun
  | [d1, d2] => { results := [.lit (.bool true)], args := [d1, d2] }
  | _ => none }
def clockRefusesRow : OpenClaim := { program := "ytdlflcambboojaa", sum := "8f7952db2081f051ed9edc88c12d5fab186f3531dccd0f948b14ac6f6706d933", func := "patrol/patrollaw02.ClockRefuses", spec := "clockRefuses", unfollowed := true, recurses := true, plainKeys := false, apart := false }
def ClockRefusesSaid : Prop := clockRefusesRow.holds Try.pinned (OpenSpec.ofChange clockRefusesSpec)

/-- ITS FALSE NEIGHBOUR: 'it returns false'. Refute it at one input. -/
def clockRefusesWrong : ChangeSpec := { name := "clockRefuses", fn := fun _ => fun
  | [d1, d2] => { results := [.lit (.bool false)], args := [d1, d2] }
  | _ => none }
def ClockRefusesWrongFalsely : Prop := clockRefusesRow.holds Try.pinned (OpenSpec.ofChange clockRefusesWrong)

/-- 'patrollaw02.ClockSuspects': WHATEVER THE INPUT: true; the input reads as it did. -/
def clockSuspectsSpec : ChangeSpec := { name := "clockSuspects", fn := fun _ => fun
  | [d1, d2] => { results := [.lit (.bool true)], args := [d1, d2] }
  | _ => none }
def clockSuspectsRow : OpenClaim := { program := "ytdlflcambboojaa", sum := "8f7952db2081f051ed9edc88c12d5fab186f3531dccd0f948b14ac6f6706d933", func := "patrol/patrollaw02.ClockSuspects", spec := "clockSuspects", unfollowed := true, recurses := true, plainKeys := false, apart := false }
def ClockSuspectsSaid : Prop := clockSuspectsRow.holds Try.pinned (OpenSpec.ofChange clockSuspectsSpec)

/-- ITS FALSE NEIGHBOUR: 'it returns false'. Refute it at one input. -/
def clockSuspectsWrong : ChangeSpec := { name := "clockSuspects", fn := fun _ => fun
  | [d1, d2] => { results := [.lit (.bool false)], args := [d1, d2] }
  | _ => none }
def ClockSuspectsWrongFalsely : Prop := clockSuspectsRow.holds Try.pinned (OpenSpec.ofChange clockSuspectsWrong)

/-- 'patrollaw02.ClockTimes': WHATEVER THE INPUT: true; the input reads as it did. -/
def clockTimesSpec : ChangeSpec := { name := "clockTimes", fn := fun _ => fun
  | [d1, d2, d3, d4] => { results := [.lit (.bool true)], args := [d1, d2, d3, d4] }
  | _ => none }
def clockTimesRow : OpenClaim := { program := "ytdlflcambboojaa", sum := "8f7952db2081f051ed9edc88c12d5fab186f3531dccd0f948b14ac6f6706d933", func := "patrol/patrollaw02.ClockTimes", spec := "clockTimes", unfollowed := true, recurses := true, plainKeys := false, apart := false }
def ClockTimesSaid : Prop := clockTimesRow.holds Try.pinned (OpenSpec.ofChange clockTimesSpec)

/-- ITS FALSE NEIGHBOUR: 'it returns false'. Refute it at one input. -/
def clockTimesWrong : ChangeSpec := { name := "clockTimes", fn := fun _ => fun
  | [d1, d2, d3, d4] => { results := [.lit (.bool false)], args := [d1, d2, d3, d4] }
  | _ => none }
def ClockTimesWrongFalsely : Prop := clockTimesRow.holds Try.pinned (OpenSpec.ofChange clockTimesWrong)

/-- 'patrollaw02.ClockBounds': WHATEVER THE INPUT: true; the input reads as it did. -/
def clockBoundsSpec : ChangeSpec := { name := "clockBounds", fn := fun _ => fun
  | [d] => { results := [.lit (.bool true)], args := [d] }
  | _ => none }
def clockBoundsRow : OpenClaim := { program := "ytdlflcambboojaa", sum := "8f7952db2081f051ed9edc88c12d5fab186f3531dccd0f948b14ac6f6706d933", func := "patrol/patrollaw02.ClockBounds", spec := "clockBounds", unfollowed := true, recurses := true, plainKeys := false, apart := false }
def ClockBoundsSaid : Prop := clockBoundsRow.holds Try.pinned (OpenSpec.ofChange clockBoundsSpec)

/-- ITS FALSE NEIGHBOUR: 'it returns false'. Refute it at one input. -/
def clockBoundsWrong : ChangeSpec := { name := "clockBounds", fn := fun _ => fun
  | [d] => { results := [.lit (.bool false)], args := [d] }
  | _ => none }
def ClockBoundsWrongFalsely : Prop := clockBoundsRow.holds Try.pinned (OpenSpec.ofChange clockBoundsWrong)

/-- 'patrollaw02.ClockRuns': WHATEVER THE INPUT: true; the input reads as it did. -/
def clockRunsSpec : ChangeSpec := { name := "clockRuns", fn := fun _ => fun
  | [d1, d2, d3] => { results := [.lit (.bool true)], args := [d1, d2, d3] }
  | _ => none }
def clockRunsRow : OpenClaim := { program := "ytdlflcambboojaa", sum := "8f7952db2081f051ed9edc88c12d5fab186f3531dccd0f948b14ac6f6706d933", func := "patrol/patrollaw02.ClockRuns", spec := "clockRuns", unfollowed := true, recurses := true, plainKeys := false, apart := false }
def ClockRunsSaid : Prop := clockRunsRow.holds Try.pinned (OpenSpec.ofChange clockRunsSpec)

/-- ITS FALSE NEIGHBOUR: 'it returns false'. Refute it at one input. -/
def clockRunsWrong : ChangeSpec := { name := "clockRuns", fn := fun _ => fun
  | [d1, d2, d3] => { results := [.lit (.bool false)], args := [d1, d2, d3] }
  | _ => none }
def ClockRunsWrongFalsely : Prop := clockRunsRow.holds Try.pinned (OpenSpec.ofChange clockRunsWrong)

/-- 'patrollaw02.ClockTrue': WHATEVER THE INPUT: true; the input reads as it did. -/
def clockTrueSpec : ChangeSpec := { name := "clockTrue", fn := fun _ => fun
  | [d1, d2, d3] => { results := [.lit (.bool true)], args := [d1, d2, d3] }
  | _ => none }
def clockTrueRow : OpenClaim := { program := "ytdlflcambboojaa", sum := "8f7952db2081f051ed9edc88c12d5fab186f3531dccd0f948b14ac6f6706d933", func := "patrol/patrollaw02.ClockTrue", spec := "clockTrue", unfollowed := true, recurses := true, plainKeys := false, apart := false }
def ClockTrueSaid : Prop := clockTrueRow.holds Try.pinned (OpenSpec.ofChange clockTrueSpec)

/-- ITS FALSE NEIGHBOUR: 'it returns false'. Refute it at one input. -/
def clockTrueWrong : ChangeSpec := { name := "clockTrue", fn := fun _ => fun
  | [d1, d2, d3] => { results := [.lit (.bool false)], args := [d1, d2, d3] }
  | _ => none }
def ClockTrueWrongFalsely : Prop := clockTrueRow.holds Try.pinned (OpenSpec.ofChange clockTrueWrong)

/-- 'patrollaw02.ClockPaths': WHATEVER THE INPUT: true; the input reads as it did. -/
def clockPathsSpec : ChangeSpec := { name := "clockPaths", fn := fun _ => fun
  | [d1, d2, d3, d4] => { results := [.lit (.bool true)], args := [d1, d2, d3, d4] }
  | _ => none }
def clockPathsRow : OpenClaim := { program := "ytdlflcambboojaa", sum := "8f7952db2081f051ed9edc88c12d5fab186f3531dccd0f948b14ac6f6706d933", func := "patrol/patrollaw02.ClockPaths", spec := "clockPaths", unfollowed := true, recurses := true, plainKeys := false, apart := false }
def ClockPathsSaid : Prop := clockPathsRow.holds Try.pinned (OpenSpec.ofChange clockPathsSpec)

/-- ITS FALSE NEIGHBOUR: 'it returns false'. Refute it at one input. -/
def clockPathsWrong : ChangeSpec := { name := "clockPaths", fn := fun _ => fun
  | [d1, d2, d3, d4] => { results := [.lit (.bool false)], args := [d1, d2, d3, d4] }
  | _ => none }
def ClockPathsWrongFalsely : Prop := clockPathsRow.holds Try.pinned (OpenSpec.ofChange clockPathsWrong)

/-- 'patrollaw02.ClockSharp': WHATEVER THE INPUT: true; the input reads as it did. -/
def clockSharpSpec : ChangeSpec := { name := "clockSharp", fn := fun _ => fun
  | [d] => { results := [.lit (.bool true)], args := [d] }
  | _ => none }
def clockSharpRow : OpenClaim := { program := "ytdlflcambboojaa", sum := "8f7952db2081f051ed9edc88c12d5fab186f3531dccd0f948b14ac6f6706d933", func := "patrol/patrollaw02.ClockSharp", spec := "clockSharp", unfollowed := true, recurses := true, plainKeys := false, apart := false }
def ClockSharpSaid : Prop := clockSharpRow.holds Try.pinned (OpenSpec.ofChange clockSharpSpec)

/-- ITS FALSE NEIGHBOUR: 'it returns false'. Refute it at one input. -/
def clockSharpWrong : ChangeSpec := { name := "clockSharp", fn := fun _ => fun
  | [d] => { results := [.lit (.bool false)], args := [d] }
  | _ => none }
def ClockSharpWrongFalsely : Prop := clockSharpRow.holds Try.pinned (OpenSpec.ofChange clockSharpWrong)

/-- 'patrollaw02.ClockProves': WHATEVER THE INPUT: true; the input reads as it did. -/
def clockProvesSpec : ChangeSpec := { name := "clockProves", fn := fun _ => fun
  | [d1, d2, d3, d4, d5, d6, d7] => { results := [.lit (.bool true)], args := [d1, d2, d3, d4, d5, d6, d7] }
  | _ => none }
def clockProvesRow : OpenClaim := { program := "ytdlflcambboojaa", sum := "8f7952db2081f051ed9edc88c12d5fab186f3531dccd0f948b14ac6f6706d933", func := "patrol/patrollaw02.ClockProves", spec := "clockProves", unfollowed := true, recurses := true, plainKeys := false, apart := false }
def ClockProvesSaid : Prop := clockProvesRow.holds Try.pinned (OpenSpec.ofChange clockProvesSpec)

/-- ITS FALSE NEIGHBOUR: 'it returns false'. Refute it at one input. -/
def clockProvesWrong : ChangeSpec := { name := "clockProves", fn := fun _ => fun
  | [d1, d2, d3, d4, d5, d6, d7] => { results := [.lit (.bool false)], args := [d1, d2, d3, d4, d5, d6, d7] }
  | _ => none }
def ClockProvesWrongFalsely : Prop := clockProvesRow.holds Try.pinned (OpenSpec.ofChange clockProvesWrong)

/- THE SECOND FORM. 'bulk': how many values and letters a reading holds, each counted each time it is reached (what is shared counts as often as it is met; a slice's spare places count too). A statement '..UptoSaid' is the law's where the arguments, and the package variables that the reading takes, are together of bulk at most 1048576: NARROWER than '..Said'. Prove '..Said' where nothing that the law and all that it calls make is longer than what came in: it says more and counts as full. Else prove '..UptoSaid'. A law counts once. -/
mutual
def uptoBulk {H : Type} : DataW H → Nat
  | .lit (.string bytes) => bytes.length + 1
  | .lit _ => 1
  | .nil => 1
  | .ptr d => uptoBulk d + 1
  | .slice elems spare => uptoBulkAll elems + uptoBulkAll spare + 1
  | .agg parts => uptoBulkAll parts + 1
  | .iface _ d => uptoBulk d + 1
  | .map entries => uptoBulkEntries entries + 1
  | .held _ => 1
def uptoBulkAll {H : Type} : List (DataW H) → Nat
  | [] => 0
  | d :: r => uptoBulk d + uptoBulkAll r
def uptoBulkEntries {H : Type} : List (Lit × DataW H) → Nat
  | [] => 0
  | x :: r => uptoBulkEntry x + uptoBulkEntries r
def uptoBulkEntry {H : Type} : Lit × DataW H → Nat
  | (.string bytes, d) => bytes.length + uptoBulk d + 1
  | (_, d) => uptoBulk d + 1
 end
def uptoSmall : (H : Type) → List (DataW H) → Bool := fun _ ds => decide (uptoBulkAll ds ≤ 1048576)
def OpenSpec.upto (s : _root_.Go.ChangeSpec) : _root_.Go.OpenSpec := { _root_.Go.OpenSpec.ofChange s with cond := some uptoSmall }

/-- 'patrollaw02.ClockBetween', WHERE WHAT IT READS IS OF BULK AT MOST 1048576: true; the input reads as it did. -/
def clockBetweenUptoRow : OpenClaim := { program := "ytdlflcambboojaa", sum := "8f7952db2081f051ed9edc88c12d5fab186f3531dccd0f948b14ac6f6706d933", func := "patrol/patrollaw02.ClockBetween", spec := "clockBetween", unfollowed := true, recurses := true, plainKeys := false, apart := false, narrowed := true }
def ClockBetweenUptoSaid : Prop := clockBetweenUptoRow.holds Try.pinned (OpenSpec.upto clockBetweenSpec)

/-- 'patrollaw02.ClockCycles', WHERE WHAT IT READS IS OF BULK AT MOST 1048576: true; the input reads as it did. -/
def clockCyclesUptoRow : OpenClaim := { program := "ytdlflcambboojaa", sum := "8f7952db2081f051ed9edc88c12d5fab186f3531dccd0f948b14ac6f6706d933", func := "patrol/patrollaw02.ClockCycles", spec := "clockCycles", unfollowed := true, recurses := true, plainKeys := false, apart := false, narrowed := true }
def ClockCyclesUptoSaid : Prop := clockCyclesUptoRow.holds Try.pinned (OpenSpec.upto clockCyclesSpec)

/-- 'patrollaw02.ClockMore', WHERE WHAT IT READS IS OF BULK AT MOST 1048576: true; the input reads as it did. -/
def clockMoreUptoRow : OpenClaim := { program := "ytdlflcambboojaa", sum := "8f7952db2081f051ed9edc88c12d5fab186f3531dccd0f948b14ac6f6706d933", func := "patrol/patrollaw02.ClockMore", spec := "clockMore", unfollowed := true, recurses := true, plainKeys := false, apart := false, narrowed := true }
def ClockMoreUptoSaid : Prop := clockMoreUptoRow.holds Try.pinned (OpenSpec.upto clockMoreSpec)

/-- 'patrollaw02.ClockOrder', WHERE WHAT IT READS IS OF BULK AT MOST 1048576: true; the input reads as it did. -/
def clockOrderUptoRow : OpenClaim := { program := "ytdlflcambboojaa", sum := "8f7952db2081f051ed9edc88c12d5fab186f3531dccd0f948b14ac6f6706d933", func := "patrol/patrollaw02.ClockOrder", spec := "clockOrder", unfollowed := true, recurses := true, plainKeys := false, apart := false, narrowed := true }
def ClockOrderUptoSaid : Prop := clockOrderUptoRow.holds Try.pinned (OpenSpec.upto clockOrderSpec)

/-- 'patrollaw02.ClockLess', WHERE WHAT IT READS IS OF BULK AT MOST 1048576: true; the input reads as it did. -/
def clockLessUptoRow : OpenClaim := { program := "ytdlflcambboojaa", sum := "8f7952db2081f051ed9edc88c12d5fab186f3531dccd0f948b14ac6f6706d933", func := "patrol/patrollaw02.ClockLess", spec := "clockLess", unfollowed := true, recurses := true, plainKeys := false, apart := false, narrowed := true }
def ClockLessUptoSaid : Prop := clockLessUptoRow.holds Try.pinned (OpenSpec.upto clockLessSpec)

/-- 'patrollaw02.ClockMemory', WHERE WHAT IT READS IS OF BULK AT MOST 1048576: true; the input reads as it did. -/
def clockMemoryUptoRow : OpenClaim := { program := "ytdlflcambboojaa", sum := "8f7952db2081f051ed9edc88c12d5fab186f3531dccd0f948b14ac6f6706d933", func := "patrol/patrollaw02.ClockMemory", spec := "clockMemory", unfollowed := true, recurses := true, plainKeys := false, apart := false, narrowed := true }
def ClockMemoryUptoSaid : Prop := clockMemoryUptoRow.holds Try.pinned (OpenSpec.upto clockMemorySpec)

/-- 'patrollaw02.ClockRecords', WHERE WHAT IT READS IS OF BULK AT MOST 1048576: true; the input reads as it did. -/
def clockRecordsUptoRow : OpenClaim := { program := "ytdlflcambboojaa", sum := "8f7952db2081f051ed9edc88c12d5fab186f3531dccd0f948b14ac6f6706d933", func := "patrol/patrollaw02.ClockRecords", spec := "clockRecords", unfollowed := true, recurses := true, plainKeys := false, apart := false, narrowed := true }
def ClockRecordsUptoSaid : Prop := clockRecordsUptoRow.holds Try.pinned (OpenSpec.upto clockRecordsSpec)

/-- 'patrollaw02.ClockRefuses', WHERE WHAT IT READS IS OF BULK AT MOST 1048576: true; the input reads as it did. -/
def clockRefusesUptoRow : OpenClaim := { program := "ytdlflcambboojaa", sum := "8f7952db2081f051ed9edc88c12d5fab186f3531dccd0f948b14ac6f6706d933", func := "patrol/patrollaw02.ClockRefuses", spec := "clockRefuses", unfollowed := true, recurses := true, plainKeys := false, apart := false, narrowed := true }
def ClockRefusesUptoSaid : Prop := clockRefusesUptoRow.holds Try.pinned (OpenSpec.upto clockRefusesSpec)

/-- 'patrollaw02.ClockSuspects', WHERE WHAT IT READS IS OF BULK AT MOST 1048576: true; the input reads as it did. -/
def clockSuspectsUptoRow : OpenClaim := { program := "ytdlflcambboojaa", sum := "8f7952db2081f051ed9edc88c12d5fab186f3531dccd0f948b14ac6f6706d933", func := "patrol/patrollaw02.ClockSuspects", spec := "clockSuspects", unfollowed := true, recurses := true, plainKeys := false, apart := false, narrowed := true }
def ClockSuspectsUptoSaid : Prop := clockSuspectsUptoRow.holds Try.pinned (OpenSpec.upto clockSuspectsSpec)

/-- 'patrollaw02.ClockTimes', WHERE WHAT IT READS IS OF BULK AT MOST 1048576: true; the input reads as it did. -/
def clockTimesUptoRow : OpenClaim := { program := "ytdlflcambboojaa", sum := "8f7952db2081f051ed9edc88c12d5fab186f3531dccd0f948b14ac6f6706d933", func := "patrol/patrollaw02.ClockTimes", spec := "clockTimes", unfollowed := true, recurses := true, plainKeys := false, apart := false, narrowed := true }
def ClockTimesUptoSaid : Prop := clockTimesUptoRow.holds Try.pinned (OpenSpec.upto clockTimesSpec)

/-- 'patrollaw02.ClockBounds', WHERE WHAT IT READS IS OF BULK AT MOST 1048576: true; the input reads as it did. -/
def clockBoundsUptoRow : OpenClaim := { program := "ytdlflcambboojaa", sum := "8f7952db2081f051ed9edc88c12d5fab186f3531dccd0f948b14ac6f6706d933", func := "patrol/patrollaw02.ClockBounds", spec := "clockBounds", unfollowed := true, recurses := true, plainKeys := false, apart := false, narrowed := true }
def ClockBoundsUptoSaid : Prop := clockBoundsUptoRow.holds Try.pinned (OpenSpec.upto clockBoundsSpec)

/-- 'patrollaw02.ClockRuns', WHERE WHAT IT READS IS OF BULK AT MOST 1048576: true; the input reads as it did. -/
def clockRunsUptoRow : OpenClaim := { program := "ytdlflcambboojaa", sum := "8f7952db2081f051ed9edc88c12d5fab186f3531dccd0f948b14ac6f6706d933", func := "patrol/patrollaw02.ClockRuns", spec := "clockRuns", unfollowed := true, recurses := true, plainKeys := false, apart := false, narrowed := true }
def ClockRunsUptoSaid : Prop := clockRunsUptoRow.holds Try.pinned (OpenSpec.upto clockRunsSpec)

/-- 'patrollaw02.ClockTrue', WHERE WHAT IT READS IS OF BULK AT MOST 1048576: true; the input reads as it did. -/
def clockTrueUptoRow : OpenClaim := { program := "ytdlflcambboojaa", sum := "8f7952db2081f051ed9edc88c12d5fab186f3531dccd0f948b14ac6f6706d933", func := "patrol/patrollaw02.ClockTrue", spec := "clockTrue", unfollowed := true, recurses := true, plainKeys := false, apart := false, narrowed := true }
def ClockTrueUptoSaid : Prop := clockTrueUptoRow.holds Try.pinned (OpenSpec.upto clockTrueSpec)

/-- 'patrollaw02.ClockPaths', WHERE WHAT IT READS IS OF BULK AT MOST 1048576: true; the input reads as it did. -/
def clockPathsUptoRow : OpenClaim := { program := "ytdlflcambboojaa", sum := "8f7952db2081f051ed9edc88c12d5fab186f3531dccd0f948b14ac6f6706d933", func := "patrol/patrollaw02.ClockPaths", spec := "clockPaths", unfollowed := true, recurses := true, plainKeys := false, apart := false, narrowed := true }
def ClockPathsUptoSaid : Prop := clockPathsUptoRow.holds Try.pinned (OpenSpec.upto clockPathsSpec)

/-- 'patrollaw02.ClockSharp', WHERE WHAT IT READS IS OF BULK AT MOST 1048576: true; the input reads as it did. -/
def clockSharpUptoRow : OpenClaim := { program := "ytdlflcambboojaa", sum := "8f7952db2081f051ed9edc88c12d5fab186f3531dccd0f948b14ac6f6706d933", func := "patrol/patrollaw02.ClockSharp", spec := "clockSharp", unfollowed := true, recurses := true, plainKeys := false, apart := false, narrowed := true }
def ClockSharpUptoSaid : Prop := clockSharpUptoRow.holds Try.pinned (OpenSpec.upto clockSharpSpec)

/-- 'patrollaw02.ClockProves', WHERE WHAT IT READS IS OF BULK AT MOST 1048576: true; the input reads as it did. -/
def clockProvesUptoRow : OpenClaim := { program := "ytdlflcambboojaa", sum := "8f7952db2081f051ed9edc88c12d5fab186f3531dccd0f948b14ac6f6706d933", func := "patrol/patrollaw02.ClockProves", spec := "clockProves", unfollowed := true, recurses := true, plainKeys := false, apart := false, narrowed := true }
def ClockProvesUptoSaid : Prop := clockProvesUptoRow.holds Try.pinned (OpenSpec.upto clockProvesSpec)

end Rows
end Go.Proofs.Ytdlflcambboojaa
