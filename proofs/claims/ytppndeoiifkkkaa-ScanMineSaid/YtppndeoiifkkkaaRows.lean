/-
  No cell of these rows narrows 'for every input' (looked for: loops, veiled, ifaces, maps, wideKeys, modest, calm, conditions, laid).
  DERIVED. THE GIVEN ROWS OF THIS SEAT. 16 by the template 'for every input the law returns true; each argument reads behind the call as it read before'; 0 by the template 'total and deterministic' (their statements: YtppndeoiifkkkaaTotals.lean).
  GIVEN WITH THE SEED: the statements are not yours to turn. If you find one false, say at which input.
  Laid BY PROGRAM, IN A SANDBOX (cutbox-rows.mjs): the forced cells as the released guide's own fill.sh prints them over the translation a29070d1776c53a6… (all of the seat's roots in one cut). By AI agents, Wed Nov 11 2026. No macro, syntax, notation, axiom, sorry.
-/
import Derived.Test.YtppndeoiifkkkaaChecked
import GoSem.Claim
import GoSem.ClaimJoined
import GoSem.ClaimMapViews
import Derived.JoinedTies
import Derived.KernelRfl
namespace Go.Proofs.Ytppndeoiifkkkaa
/- THE CELL 'sum', in the pinned program and in every row, IS THE sha256 OF THE DUMP (.gsa) THAT YtppndeoiifkkkaaProg.lean LOADS. Nothing in Lean hashes anything: it is a label: what it is worth is what the hold of that sum in a sandbox is worth. -/
noncomputable def Try.pinned : Pinned := { name := "ytppndeoiifkkkaa", sum := "a29070d1776c53a67ea8a50200af2724e6b749f02d604e04a01604e567477b5c", checked := Try.checked }
namespace Rows
def none {H : Type} : Left H := { results := [], args := [] }

/-- 'almshouselaw28.ApartSteps': WHATEVER THE INPUT: true; the input reads as it did. -/
def apartStepsSpec : ChangeSpec := { name := "apartSteps", fn := fun _ => fun
  | [d1, d2, d3] => { results := [.lit (.bool true)], args := [d1, d2, d3] }
  | _ => none }
def apartStepsRow : OpenClaim := { program := "ytppndeoiifkkkaa", sum := "a29070d1776c53a67ea8a50200af2724e6b749f02d604e04a01604e567477b5c", func := "almshouse/almshouselaw28.ApartSteps", spec := "apartSteps", unfollowed := true, recurses := true, apart := false }
def ApartStepsSaid : Prop := apartStepsRow.holds Try.pinned (OpenSpec.ofChange apartStepsSpec)

/-- ITS FALSE NEIGHBOUR: 'it returns false'. Refute it at one input. -/
def apartStepsWrong : ChangeSpec := { name := "apartSteps", fn := fun _ => fun
  | [d1, d2, d3] => { results := [.lit (.bool false)], args := [d1, d2, d3] }
  | _ => none }
def ApartStepsWrongFalsely : Prop := apartStepsRow.holds Try.pinned (OpenSpec.ofChange apartStepsWrong)

/-- 'almshouselaw42.TurnTells': WHATEVER THE INPUT: true; the input reads as it did. -/
def turnTellsSpec : ChangeSpec := { name := "turnTells", fn := fun _ => fun
  | [d1, d2, d3, d4] => { results := [.lit (.bool true)], args := [d1, d2, d3, d4] }
  | _ => none }
def turnTellsRow : OpenClaim := { program := "ytppndeoiifkkkaa", sum := "a29070d1776c53a67ea8a50200af2724e6b749f02d604e04a01604e567477b5c", func := "almshouse/almshouselaw42.TurnTells", spec := "turnTells", apart := false }
def TurnTellsSaid : Prop := turnTellsRow.holds Try.pinned (OpenSpec.ofChange turnTellsSpec)

/-- ITS FALSE NEIGHBOUR: 'it returns false'. Refute it at one input. -/
def turnTellsWrong : ChangeSpec := { name := "turnTells", fn := fun _ => fun
  | [d1, d2, d3, d4] => { results := [.lit (.bool false)], args := [d1, d2, d3, d4] }
  | _ => none }
def TurnTellsWrongFalsely : Prop := turnTellsRow.holds Try.pinned (OpenSpec.ofChange turnTellsWrong)

/-- 'almshouselaw42.TurnWaits': WHATEVER THE INPUT: true; the input reads as it did. -/
def turnWaitsSpec : ChangeSpec := { name := "turnWaits", fn := fun _ => fun
  | [d1, d2] => { results := [.lit (.bool true)], args := [d1, d2] }
  | _ => none }
def turnWaitsRow : OpenClaim := { program := "ytppndeoiifkkkaa", sum := "a29070d1776c53a67ea8a50200af2724e6b749f02d604e04a01604e567477b5c", func := "almshouse/almshouselaw42.TurnWaits", spec := "turnWaits", apart := false }
def TurnWaitsSaid : Prop := turnWaitsRow.holds Try.pinned (OpenSpec.ofChange turnWaitsSpec)

/-- ITS FALSE NEIGHBOUR: 'it returns false'. Refute it at one input. -/
def turnWaitsWrong : ChangeSpec := { name := "turnWaits", fn := fun _ => fun
  | [d1, d2] => { results := [.lit (.bool false)], args := [d1, d2] }
  | _ => none }
def TurnWaitsWrongFalsely : Prop := turnWaitsRow.holds Try.pinned (OpenSpec.ofChange turnWaitsWrong)

/-- 'almshouselaw13.BufferPlays': WHATEVER THE INPUT: true; the input reads as it did. -/
def bufferPlaysSpec : ChangeSpec := { name := "bufferPlays", fn := fun _ => fun
  | [d1, d2] => { results := [.lit (.bool true)], args := [d1, d2] }
  | _ => none }
def bufferPlaysRow : OpenClaim := { program := "ytppndeoiifkkkaa", sum := "a29070d1776c53a67ea8a50200af2724e6b749f02d604e04a01604e567477b5c", func := "almshouse/almshouselaw13.BufferPlays", spec := "bufferPlays", apart := false }
def BufferPlaysSaid : Prop := bufferPlaysRow.holds Try.pinned (OpenSpec.ofChange bufferPlaysSpec)

/-- ITS FALSE NEIGHBOUR: 'it returns false'. Refute it at one input. -/
def bufferPlaysWrong : ChangeSpec := { name := "bufferPlays", fn := fun _ => fun
  | [d1, d2] => { results := [.lit (.bool false)], args := [d1, d2] }
  | _ => none }
def BufferPlaysWrongFalsely : Prop := bufferPlaysRow.holds Try.pinned (OpenSpec.ofChange bufferPlaysWrong)

/-- 'almshouselaw13.BufferNone': WHATEVER THE INPUT: true; the input reads as it did. -/
def bufferNoneSpec : ChangeSpec := { name := "bufferNone", fn := fun _ => fun
  | [d1, d2] => { results := [.lit (.bool true)], args := [d1, d2] }
  | _ => none }
def bufferNoneRow : OpenClaim := { program := "ytppndeoiifkkkaa", sum := "a29070d1776c53a67ea8a50200af2724e6b749f02d604e04a01604e567477b5c", func := "almshouse/almshouselaw13.BufferNone", spec := "bufferNone", apart := false }
def BufferNoneSaid : Prop := bufferNoneRow.holds Try.pinned (OpenSpec.ofChange bufferNoneSpec)

/-- ITS FALSE NEIGHBOUR: 'it returns false'. Refute it at one input. -/
def bufferNoneWrong : ChangeSpec := { name := "bufferNone", fn := fun _ => fun
  | [d1, d2] => { results := [.lit (.bool false)], args := [d1, d2] }
  | _ => none }
def BufferNoneWrongFalsely : Prop := bufferNoneRow.holds Try.pinned (OpenSpec.ofChange bufferNoneWrong)

/-- 'almshouselaw49.PlanTells': WHATEVER THE INPUT: true; the input reads as it did. -/
def planTellsSpec : ChangeSpec := { name := "planTells", fn := fun _ => fun
  | [d1, d2, d3] => { results := [.lit (.bool true)], args := [d1, d2, d3] }
  | _ => none }
def planTellsRow : OpenClaim := { program := "ytppndeoiifkkkaa", sum := "a29070d1776c53a67ea8a50200af2724e6b749f02d604e04a01604e567477b5c", func := "almshouse/almshouselaw49.PlanTells", spec := "planTells", unfollowed := true, recurses := true, apart := false }
def PlanTellsSaid : Prop := planTellsRow.holds Try.pinned (OpenSpec.ofChange planTellsSpec)

/-- ITS FALSE NEIGHBOUR: 'it returns false'. Refute it at one input. -/
def planTellsWrong : ChangeSpec := { name := "planTells", fn := fun _ => fun
  | [d1, d2, d3] => { results := [.lit (.bool false)], args := [d1, d2, d3] }
  | _ => none }
def PlanTellsWrongFalsely : Prop := planTellsRow.holds Try.pinned (OpenSpec.ofChange planTellsWrong)

/-- 'almshouselaw49.PlanEmpty': WHATEVER THE INPUT: true; the input reads as it did. -/
def planEmptySpec : ChangeSpec := { name := "planEmpty", fn := fun _ => fun
  | [d1, d2, d3] => { results := [.lit (.bool true)], args := [d1, d2, d3] }
  | _ => none }
def planEmptyRow : OpenClaim := { program := "ytppndeoiifkkkaa", sum := "a29070d1776c53a67ea8a50200af2724e6b749f02d604e04a01604e567477b5c", func := "almshouse/almshouselaw49.PlanEmpty", spec := "planEmpty", unfollowed := true, recurses := true, apart := false }
def PlanEmptySaid : Prop := planEmptyRow.holds Try.pinned (OpenSpec.ofChange planEmptySpec)

/-- ITS FALSE NEIGHBOUR: 'it returns false'. Refute it at one input. -/
def planEmptyWrong : ChangeSpec := { name := "planEmpty", fn := fun _ => fun
  | [d1, d2, d3] => { results := [.lit (.bool false)], args := [d1, d2, d3] }
  | _ => none }
def PlanEmptyWrongFalsely : Prop := planEmptyRow.holds Try.pinned (OpenSpec.ofChange planEmptyWrong)

/-- 'almshouselaw46.TallyCounts': WHATEVER THE INPUT: true; the input reads as it did. -/
def tallyCountsSpec : ChangeSpec := { name := "tallyCounts", fn := fun _ => fun
  | [d1, d2] => { results := [.lit (.bool true)], args := [d1, d2] }
  | _ => none }
def tallyCountsRow : OpenClaim := { program := "ytppndeoiifkkkaa", sum := "a29070d1776c53a67ea8a50200af2724e6b749f02d604e04a01604e567477b5c", func := "almshouse/almshouselaw46.TallyCounts", spec := "tallyCounts", apart := false }
def TallyCountsSaid : Prop := tallyCountsRow.holds Try.pinned (OpenSpec.ofChange tallyCountsSpec)

/-- ITS FALSE NEIGHBOUR: 'it returns false'. Refute it at one input. -/
def tallyCountsWrong : ChangeSpec := { name := "tallyCounts", fn := fun _ => fun
  | [d1, d2] => { results := [.lit (.bool false)], args := [d1, d2] }
  | _ => none }
def TallyCountsWrongFalsely : Prop := tallyCountsRow.holds Try.pinned (OpenSpec.ofChange tallyCountsWrong)

/-- 'almshouselaw46.TallyParts': WHATEVER THE INPUT: true; the input reads as it did. -/
def tallyPartsSpec : ChangeSpec := { name := "tallyParts", fn := fun _ => fun
  | [d1, d2] => { results := [.lit (.bool true)], args := [d1, d2] }
  | _ => none }
def tallyPartsRow : OpenClaim := { program := "ytppndeoiifkkkaa", sum := "a29070d1776c53a67ea8a50200af2724e6b749f02d604e04a01604e567477b5c", func := "almshouse/almshouselaw46.TallyParts", spec := "tallyParts", apart := false }
def TallyPartsSaid : Prop := tallyPartsRow.holds Try.pinned (OpenSpec.ofChange tallyPartsSpec)

/-- ITS FALSE NEIGHBOUR: 'it returns false'. Refute it at one input. -/
def tallyPartsWrong : ChangeSpec := { name := "tallyParts", fn := fun _ => fun
  | [d1, d2] => { results := [.lit (.bool false)], args := [d1, d2] }
  | _ => none }
def TallyPartsWrongFalsely : Prop := tallyPartsRow.holds Try.pinned (OpenSpec.ofChange tallyPartsWrong)

/-- 'almshouselaw50.TimelineOrders': WHATEVER THE INPUT: true; the input reads as it did. -/
def timelineOrdersSpec : ChangeSpec := { name := "timelineOrders", fn := fun _ => fun
  | [d1, d2, d3] => { results := [.lit (.bool true)], args := [d1, d2, d3] }
  | _ => none }
def timelineOrdersRow : OpenClaim := { program := "ytppndeoiifkkkaa", sum := "a29070d1776c53a67ea8a50200af2724e6b749f02d604e04a01604e567477b5c", func := "almshouse/almshouselaw50.TimelineOrders", spec := "timelineOrders", unfollowed := true, recurses := true, apart := false }
def TimelineOrdersSaid : Prop := timelineOrdersRow.holds Try.pinned (OpenSpec.ofChange timelineOrdersSpec)

/-- ITS FALSE NEIGHBOUR: 'it returns false'. Refute it at one input. -/
def timelineOrdersWrong : ChangeSpec := { name := "timelineOrders", fn := fun _ => fun
  | [d1, d2, d3] => { results := [.lit (.bool false)], args := [d1, d2, d3] }
  | _ => none }
def TimelineOrdersWrongFalsely : Prop := timelineOrdersRow.holds Try.pinned (OpenSpec.ofChange timelineOrdersWrong)

/-- 'almshouselaw50.TimelineSplits': WHATEVER THE INPUT: true; the input reads as it did. -/
def timelineSplitsSpec : ChangeSpec := { name := "timelineSplits", fn := fun _ => fun
  | [d] => { results := [.lit (.bool true)], args := [d] }
  | _ => none }
def timelineSplitsRow : OpenClaim := { program := "ytppndeoiifkkkaa", sum := "a29070d1776c53a67ea8a50200af2724e6b749f02d604e04a01604e567477b5c", func := "almshouse/almshouselaw50.TimelineSplits", spec := "timelineSplits", unfollowed := true, recurses := true, apart := false }
def TimelineSplitsSaid : Prop := timelineSplitsRow.holds Try.pinned (OpenSpec.ofChange timelineSplitsSpec)

/-- ITS FALSE NEIGHBOUR: 'it returns false'. Refute it at one input. -/
def timelineSplitsWrong : ChangeSpec := { name := "timelineSplits", fn := fun _ => fun
  | [d] => { results := [.lit (.bool false)], args := [d] }
  | _ => none }
def TimelineSplitsWrongFalsely : Prop := timelineSplitsRow.holds Try.pinned (OpenSpec.ofChange timelineSplitsWrong)

/-- 'almshouselaw51.RangesCount': WHATEVER THE INPUT: true; the input reads as it did. -/
def rangesCountSpec : ChangeSpec := { name := "rangesCount", fn := fun _ => fun
  | [d] => { results := [.lit (.bool true)], args := [d] }
  | _ => none }
def rangesCountRow : OpenClaim := { program := "ytppndeoiifkkkaa", sum := "a29070d1776c53a67ea8a50200af2724e6b749f02d604e04a01604e567477b5c", func := "almshouse/almshouselaw51.RangesCount", spec := "rangesCount", unfollowed := true, recurses := true, apart := false }
def RangesCountSaid : Prop := rangesCountRow.holds Try.pinned (OpenSpec.ofChange rangesCountSpec)

/-- ITS FALSE NEIGHBOUR: 'it returns false'. Refute it at one input. -/
def rangesCountWrong : ChangeSpec := { name := "rangesCount", fn := fun _ => fun
  | [d] => { results := [.lit (.bool false)], args := [d] }
  | _ => none }
def RangesCountWrongFalsely : Prop := rangesCountRow.holds Try.pinned (OpenSpec.ofChange rangesCountWrong)

/-- 'almshouselaw16.ScanMine': WHATEVER THE INPUT: true; the input reads as it did. -/
def scanMineSpec : ChangeSpec := { name := "scanMine", fn := fun _ => fun
  | [d1, d2, d3] => { results := [.lit (.bool true)], args := [d1, d2, d3] }
  | _ => none }
def scanMineRow : OpenClaim := { program := "ytppndeoiifkkkaa", sum := "a29070d1776c53a67ea8a50200af2724e6b749f02d604e04a01604e567477b5c", func := "almshouse/almshouselaw16.ScanMine", spec := "scanMine", inPlace := ["sync/atomic.StoreInt64", "sync/atomic.LoadUint32", "sync/atomic.AddInt64", "sync/atomic.LoadInt64", "sync/atomic.StoreUint32", "(*internal/sync.Mutex).Lock", "internal/race.Disable", "sync/atomic.CompareAndSwapInt32", "internal/race.Enable", "internal/race.Acquire", "(*internal/sync.Mutex).lockSlow", "internal/sync.runtime_canSpin", "internal/sync.runtime_doSpin", "internal/sync.throw", "internal/sync.runtime_nanotime", "internal/sync.runtime_SemacquireMutex", "sync/atomic.AddInt32", "(*internal/sync.Mutex).Unlock", "internal/race.ReleaseMerge", "(*internal/sync.Mutex).unlockSlow", "internal/sync.fatal", "internal/sync.runtime_Semrelease"], unfollowed := true, recurses := true, apart := false }
def ScanMineSaid : Prop := scanMineRow.holds Try.pinned (OpenSpec.ofChange scanMineSpec)

/-- ITS FALSE NEIGHBOUR: 'it returns false'. Refute it at one input. -/
def scanMineWrong : ChangeSpec := { name := "scanMine", fn := fun _ => fun
  | [d1, d2, d3] => { results := [.lit (.bool false)], args := [d1, d2, d3] }
  | _ => none }
def ScanMineWrongFalsely : Prop := scanMineRow.holds Try.pinned (OpenSpec.ofChange scanMineWrong)

/-- 'almshouselaw51.RangesLaws': WHATEVER THE INPUT: true; the input reads as it did. -/
def rangesLawsSpec : ChangeSpec := { name := "rangesLaws", fn := fun _ => fun
  | [d1, d2] => { results := [.lit (.bool true)], args := [d1, d2] }
  | _ => none }
def rangesLawsRow : OpenClaim := { program := "ytppndeoiifkkkaa", sum := "a29070d1776c53a67ea8a50200af2724e6b749f02d604e04a01604e567477b5c", func := "almshouse/almshouselaw51.RangesLaws", spec := "rangesLaws", unfollowed := true, recurses := true, apart := false }
def RangesLawsSaid : Prop := rangesLawsRow.holds Try.pinned (OpenSpec.ofChange rangesLawsSpec)

/-- ITS FALSE NEIGHBOUR: 'it returns false'. Refute it at one input. -/
def rangesLawsWrong : ChangeSpec := { name := "rangesLaws", fn := fun _ => fun
  | [d1, d2] => { results := [.lit (.bool false)], args := [d1, d2] }
  | _ => none }
def RangesLawsWrongFalsely : Prop := rangesLawsRow.holds Try.pinned (OpenSpec.ofChange rangesLawsWrong)

/-- 'almshouselaw43.ImageBytes': WHATEVER THE INPUT: true; the input reads as it did. -/
def imageBytesSpec : ChangeSpec := { name := "imageBytes", fn := fun _ => fun
  | [d] => { results := [.lit (.bool true)], args := [d] }
  | _ => none }
def imageBytesRow : OpenClaim := { program := "ytppndeoiifkkkaa", sum := "a29070d1776c53a67ea8a50200af2724e6b749f02d604e04a01604e567477b5c", func := "almshouse/almshouselaw43.ImageBytes", spec := "imageBytes", inPlace := ["sync/atomic.LoadUint32", "(*internal/sync.Mutex).Lock", "internal/race.Disable", "sync/atomic.CompareAndSwapInt32", "internal/race.Enable", "internal/race.Acquire", "(*internal/sync.Mutex).lockSlow", "internal/sync.runtime_canSpin", "internal/sync.runtime_doSpin", "internal/sync.throw", "internal/sync.runtime_nanotime", "internal/sync.runtime_SemacquireMutex", "sync/atomic.AddInt32", "(*internal/sync.Mutex).Unlock", "internal/race.ReleaseMerge", "(*internal/sync.Mutex).unlockSlow", "internal/sync.fatal", "internal/sync.runtime_Semrelease", "sync/atomic.StoreUint32"], unfollowed := true, recurses := true, apart := false }
def ImageBytesSaid : Prop := imageBytesRow.holds Try.pinned (OpenSpec.ofChange imageBytesSpec)

/-- ITS FALSE NEIGHBOUR: 'it returns false'. Refute it at one input. -/
def imageBytesWrong : ChangeSpec := { name := "imageBytes", fn := fun _ => fun
  | [d] => { results := [.lit (.bool false)], args := [d] }
  | _ => none }
def ImageBytesWrongFalsely : Prop := imageBytesRow.holds Try.pinned (OpenSpec.ofChange imageBytesWrong)

/-- 'almshouselaw43.ImageParses': WHATEVER THE INPUT: true; the input reads as it did. -/
def imageParsesSpec : ChangeSpec := { name := "imageParses", fn := fun _ => fun
  | [d1, d2, d3, d4, d5] => { results := [.lit (.bool true)], args := [d1, d2, d3, d4, d5] }
  | _ => none }
def imageParsesRow : OpenClaim := { program := "ytppndeoiifkkkaa", sum := "a29070d1776c53a67ea8a50200af2724e6b749f02d604e04a01604e567477b5c", func := "almshouse/almshouselaw43.ImageParses", spec := "imageParses", inPlace := ["sync/atomic.LoadUint32", "(*internal/sync.Mutex).Lock", "internal/race.Disable", "sync/atomic.CompareAndSwapInt32", "internal/race.Enable", "internal/race.Acquire", "(*internal/sync.Mutex).lockSlow", "internal/sync.runtime_canSpin", "internal/sync.runtime_doSpin", "internal/sync.throw", "internal/sync.runtime_nanotime", "internal/sync.runtime_SemacquireMutex", "sync/atomic.AddInt32", "(*internal/sync.Mutex).Unlock", "internal/race.ReleaseMerge", "(*internal/sync.Mutex).unlockSlow", "internal/sync.fatal", "internal/sync.runtime_Semrelease", "sync/atomic.StoreUint32"], unfollowed := true, recurses := true, apart := false }
def ImageParsesSaid : Prop := imageParsesRow.holds Try.pinned (OpenSpec.ofChange imageParsesSpec)

/-- ITS FALSE NEIGHBOUR: 'it returns false'. Refute it at one input. -/
def imageParsesWrong : ChangeSpec := { name := "imageParses", fn := fun _ => fun
  | [d1, d2, d3, d4, d5] => { results := [.lit (.bool false)], args := [d1, d2, d3, d4, d5] }
  | _ => none }
def ImageParsesWrongFalsely : Prop := imageParsesRow.holds Try.pinned (OpenSpec.ofChange imageParsesWrong)

/- THE SECOND FORM. 'bulk': how many values and letters a reading holds, each counted each time it is reached (what is shared counts as often as it is met; a slice's spare places count too). A statement '..UptoSaid' is the law's where the arguments, and the package variables that the reading takes, are together of bulk at most 1048576: NARROWER than '..Said'. Prove '..Said' where nothing that the law and all that it calls make is longer than what came in: it says more and counts as full. Else prove '..UptoSaid'. A law counts once. -/
mutual
def uptoBulk {H : Type} : DataW H → Nat
  | .lit (.string bytes) => bytes.length + 1
  | .lit _ => 1
  | .nil => 1
  | .ptr d => uptoBulk d + 1
  | .slice elems spare => uptoBulkAll elems + uptoBulkAll spare + 1
  | .agg parts => uptoBulkAll parts + 1
  | .iface _ d => uptoBulk d + 1
  | .map entries => uptoBulkEntries entries + 1
  | .held _ => 1
def uptoBulkAll {H : Type} : List (DataW H) → Nat
  | [] => 0
  | d :: r => uptoBulk d + uptoBulkAll r
def uptoBulkEntries {H : Type} : List (Lit × DataW H) → Nat
  | [] => 0
  | x :: r => uptoBulkEntry x + uptoBulkEntries r
def uptoBulkEntry {H : Type} : Lit × DataW H → Nat
  | (.string bytes, d) => bytes.length + uptoBulk d + 1
  | (_, d) => uptoBulk d + 1
 end
def uptoSmall : (H : Type) → List (DataW H) → Bool := fun _ ds => decide (uptoBulkAll ds ≤ 1048576)
def OpenSpec.upto (s : _root_.Go.ChangeSpec) : _root_.Go.OpenSpec := { _root_.Go.OpenSpec.ofChange s with cond := some uptoSmall }

/-- 'almshouselaw28.ApartSteps', WHERE WHAT IT READS IS OF BULK AT MOST 1048576: true; the input reads as it did. -/
def apartStepsUptoRow : OpenClaim := { program := "ytppndeoiifkkkaa", sum := "a29070d1776c53a67ea8a50200af2724e6b749f02d604e04a01604e567477b5c", func := "almshouse/almshouselaw28.ApartSteps", spec := "apartSteps", unfollowed := true, recurses := true, apart := false, narrowed := true }
def ApartStepsUptoSaid : Prop := apartStepsUptoRow.holds Try.pinned (OpenSpec.upto apartStepsSpec)

/-- 'almshouselaw42.TurnTells', WHERE WHAT IT READS IS OF BULK AT MOST 1048576: true; the input reads as it did. -/
def turnTellsUptoRow : OpenClaim := { program := "ytppndeoiifkkkaa", sum := "a29070d1776c53a67ea8a50200af2724e6b749f02d604e04a01604e567477b5c", func := "almshouse/almshouselaw42.TurnTells", spec := "turnTells", apart := false, narrowed := true }
def TurnTellsUptoSaid : Prop := turnTellsUptoRow.holds Try.pinned (OpenSpec.upto turnTellsSpec)

/-- 'almshouselaw42.TurnWaits', WHERE WHAT IT READS IS OF BULK AT MOST 1048576: true; the input reads as it did. -/
def turnWaitsUptoRow : OpenClaim := { program := "ytppndeoiifkkkaa", sum := "a29070d1776c53a67ea8a50200af2724e6b749f02d604e04a01604e567477b5c", func := "almshouse/almshouselaw42.TurnWaits", spec := "turnWaits", apart := false, narrowed := true }
def TurnWaitsUptoSaid : Prop := turnWaitsUptoRow.holds Try.pinned (OpenSpec.upto turnWaitsSpec)

/-- 'almshouselaw13.BufferPlays', WHERE WHAT IT READS IS OF BULK AT MOST 1048576: true; the input reads as it did. -/
def bufferPlaysUptoRow : OpenClaim := { program := "ytppndeoiifkkkaa", sum := "a29070d1776c53a67ea8a50200af2724e6b749f02d604e04a01604e567477b5c", func := "almshouse/almshouselaw13.BufferPlays", spec := "bufferPlays", apart := false, narrowed := true }
def BufferPlaysUptoSaid : Prop := bufferPlaysUptoRow.holds Try.pinned (OpenSpec.upto bufferPlaysSpec)

/-- 'almshouselaw13.BufferNone', WHERE WHAT IT READS IS OF BULK AT MOST 1048576: true; the input reads as it did. -/
def bufferNoneUptoRow : OpenClaim := { program := "ytppndeoiifkkkaa", sum := "a29070d1776c53a67ea8a50200af2724e6b749f02d604e04a01604e567477b5c", func := "almshouse/almshouselaw13.BufferNone", spec := "bufferNone", apart := false, narrowed := true }
def BufferNoneUptoSaid : Prop := bufferNoneUptoRow.holds Try.pinned (OpenSpec.upto bufferNoneSpec)

/-- 'almshouselaw49.PlanTells', WHERE WHAT IT READS IS OF BULK AT MOST 1048576: true; the input reads as it did. -/
def planTellsUptoRow : OpenClaim := { program := "ytppndeoiifkkkaa", sum := "a29070d1776c53a67ea8a50200af2724e6b749f02d604e04a01604e567477b5c", func := "almshouse/almshouselaw49.PlanTells", spec := "planTells", unfollowed := true, recurses := true, apart := false, narrowed := true }
def PlanTellsUptoSaid : Prop := planTellsUptoRow.holds Try.pinned (OpenSpec.upto planTellsSpec)

/-- 'almshouselaw49.PlanEmpty', WHERE WHAT IT READS IS OF BULK AT MOST 1048576: true; the input reads as it did. -/
def planEmptyUptoRow : OpenClaim := { program := "ytppndeoiifkkkaa", sum := "a29070d1776c53a67ea8a50200af2724e6b749f02d604e04a01604e567477b5c", func := "almshouse/almshouselaw49.PlanEmpty", spec := "planEmpty", unfollowed := true, recurses := true, apart := false, narrowed := true }
def PlanEmptyUptoSaid : Prop := planEmptyUptoRow.holds Try.pinned (OpenSpec.upto planEmptySpec)

/-- 'almshouselaw46.TallyCounts', WHERE WHAT IT READS IS OF BULK AT MOST 1048576: true; the input reads as it did. -/
def tallyCountsUptoRow : OpenClaim := { program := "ytppndeoiifkkkaa", sum := "a29070d1776c53a67ea8a50200af2724e6b749f02d604e04a01604e567477b5c", func := "almshouse/almshouselaw46.TallyCounts", spec := "tallyCounts", apart := false, narrowed := true }
def TallyCountsUptoSaid : Prop := tallyCountsUptoRow.holds Try.pinned (OpenSpec.upto tallyCountsSpec)

/-- 'almshouselaw46.TallyParts', WHERE WHAT IT READS IS OF BULK AT MOST 1048576: true; the input reads as it did. -/
def tallyPartsUptoRow : OpenClaim := { program := "ytppndeoiifkkkaa", sum := "a29070d1776c53a67ea8a50200af2724e6b749f02d604e04a01604e567477b5c", func := "almshouse/almshouselaw46.TallyParts", spec := "tallyParts", apart := false, narrowed := true }
def TallyPartsUptoSaid : Prop := tallyPartsUptoRow.holds Try.pinned (OpenSpec.upto tallyPartsSpec)

/-- 'almshouselaw50.TimelineOrders', WHERE WHAT IT READS IS OF BULK AT MOST 1048576: true; the input reads as it did. -/
def timelineOrdersUptoRow : OpenClaim := { program := "ytppndeoiifkkkaa", sum := "a29070d1776c53a67ea8a50200af2724e6b749f02d604e04a01604e567477b5c", func := "almshouse/almshouselaw50.TimelineOrders", spec := "timelineOrders", unfollowed := true, recurses := true, apart := false, narrowed := true }
def TimelineOrdersUptoSaid : Prop := timelineOrdersUptoRow.holds Try.pinned (OpenSpec.upto timelineOrdersSpec)

/-- 'almshouselaw50.TimelineSplits', WHERE WHAT IT READS IS OF BULK AT MOST 1048576: true; the input reads as it did. -/
def timelineSplitsUptoRow : OpenClaim := { program := "ytppndeoiifkkkaa", sum := "a29070d1776c53a67ea8a50200af2724e6b749f02d604e04a01604e567477b5c", func := "almshouse/almshouselaw50.TimelineSplits", spec := "timelineSplits", unfollowed := true, recurses := true, apart := false, narrowed := true }
def TimelineSplitsUptoSaid : Prop := timelineSplitsUptoRow.holds Try.pinned (OpenSpec.upto timelineSplitsSpec)

/-- 'almshouselaw51.RangesCount', WHERE WHAT IT READS IS OF BULK AT MOST 1048576: true; the input reads as it did. -/
def rangesCountUptoRow : OpenClaim := { program := "ytppndeoiifkkkaa", sum := "a29070d1776c53a67ea8a50200af2724e6b749f02d604e04a01604e567477b5c", func := "almshouse/almshouselaw51.RangesCount", spec := "rangesCount", unfollowed := true, recurses := true, apart := false, narrowed := true }
def RangesCountUptoSaid : Prop := rangesCountUptoRow.holds Try.pinned (OpenSpec.upto rangesCountSpec)

/-- 'almshouselaw16.ScanMine', WHERE WHAT IT READS IS OF BULK AT MOST 1048576: true; the input reads as it did. -/
def scanMineUptoRow : OpenClaim := { program := "ytppndeoiifkkkaa", sum := "a29070d1776c53a67ea8a50200af2724e6b749f02d604e04a01604e567477b5c", func := "almshouse/almshouselaw16.ScanMine", spec := "scanMine", inPlace := ["sync/atomic.StoreInt64", "sync/atomic.LoadUint32", "sync/atomic.AddInt64", "sync/atomic.LoadInt64", "sync/atomic.StoreUint32", "(*internal/sync.Mutex).Lock", "internal/race.Disable", "sync/atomic.CompareAndSwapInt32", "internal/race.Enable", "internal/race.Acquire", "(*internal/sync.Mutex).lockSlow", "internal/sync.runtime_canSpin", "internal/sync.runtime_doSpin", "internal/sync.throw", "internal/sync.runtime_nanotime", "internal/sync.runtime_SemacquireMutex", "sync/atomic.AddInt32", "(*internal/sync.Mutex).Unlock", "internal/race.ReleaseMerge", "(*internal/sync.Mutex).unlockSlow", "internal/sync.fatal", "internal/sync.runtime_Semrelease"], unfollowed := true, recurses := true, apart := false, narrowed := true }
def ScanMineUptoSaid : Prop := scanMineUptoRow.holds Try.pinned (OpenSpec.upto scanMineSpec)

/-- 'almshouselaw51.RangesLaws', WHERE WHAT IT READS IS OF BULK AT MOST 1048576: true; the input reads as it did. -/
def rangesLawsUptoRow : OpenClaim := { program := "ytppndeoiifkkkaa", sum := "a29070d1776c53a67ea8a50200af2724e6b749f02d604e04a01604e567477b5c", func := "almshouse/almshouselaw51.RangesLaws", spec := "rangesLaws", unfollowed := true, recurses := true, apart := false, narrowed := true }
def RangesLawsUptoSaid : Prop := rangesLawsUptoRow.holds Try.pinned (OpenSpec.upto rangesLawsSpec)

/-- 'almshouselaw43.ImageBytes', WHERE WHAT IT READS IS OF BULK AT MOST 1048576: true; the input reads as it did. -/
def imageBytesUptoRow : OpenClaim := { program := "ytppndeoiifkkkaa", sum := "a29070d1776c53a67ea8a50200af2724e6b749f02d604e04a01604e567477b5c", func := "almshouse/almshouselaw43.ImageBytes", spec := "imageBytes", inPlace := ["sync/atomic.LoadUint32", "(*internal/sync.Mutex).Lock", "internal/race.Disable", "sync/atomic.CompareAndSwapInt32", "internal/race.Enable", "internal/race.Acquire", "(*internal/sync.Mutex).lockSlow", "internal/sync.runtime_canSpin", "internal/sync.runtime_doSpin", "internal/sync.throw", "internal/sync.runtime_nanotime", "internal/sync.runtime_SemacquireMutex", "sync/atomic.AddInt32", "(*internal/sync.Mutex).Unlock", "internal/race.ReleaseMerge", "(*internal/sync.Mutex).unlockSlow", "internal/sync.fatal", "internal/sync.runtime_Semrelease", "sync/atomic.StoreUint32"], unfollowed := true, recurses := true, apart := false, narrowed := true }
def ImageBytesUptoSaid : Prop := imageBytesUptoRow.holds Try.pinned (OpenSpec.upto imageBytesSpec)

/-- 'almshouselaw43.ImageParses', WHERE WHAT IT READS IS OF BULK AT MOST 1048576: true; the input reads as it did. -/
def imageParsesUptoRow : OpenClaim := { program := "ytppndeoiifkkkaa", sum := "a29070d1776c53a67ea8a50200af2724e6b749f02d604e04a01604e567477b5c", func := "almshouse/almshouselaw43.ImageParses", spec := "imageParses", inPlace := ["sync/atomic.LoadUint32", "(*internal/sync.Mutex).Lock", "internal/race.Disable", "sync/atomic.CompareAndSwapInt32", "internal/race.Enable", "internal/race.Acquire", "(*internal/sync.Mutex).lockSlow", "internal/sync.runtime_canSpin", "internal/sync.runtime_doSpin", "internal/sync.throw", "internal/sync.runtime_nanotime", "internal/sync.runtime_SemacquireMutex", "sync/atomic.AddInt32", "(*internal/sync.Mutex).Unlock", "internal/race.ReleaseMerge", "(*internal/sync.Mutex).unlockSlow", "internal/sync.fatal", "internal/sync.runtime_Semrelease", "sync/atomic.StoreUint32"], unfollowed := true, recurses := true, apart := false, narrowed := true }
def ImageParsesUptoSaid : Prop := imageParsesUptoRow.holds Try.pinned (OpenSpec.upto imageParsesSpec)

end Rows
end Go.Proofs.Ytppndeoiifkkkaa
