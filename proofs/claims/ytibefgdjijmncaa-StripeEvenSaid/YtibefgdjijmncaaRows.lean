/-
  No cell of these rows narrows 'for every input' (looked for: loops, veiled, ifaces, maps, wideKeys, modest, calm, conditions, laid).
  DERIVED. THE GIVEN ROWS OF THIS SEAT. 8 by the template 'for every input the law returns true; each argument reads behind the call as it read before'; 0 by the template 'total and deterministic' (their statements: YtibefgdjijmncaaTotals.lean).
  GIVEN WITH THE SEED: the statements are not yours to turn. If you find one false, say at which input.
  Laid BY PROGRAM, IN A SANDBOX (cutbox-rows.mjs): the forced cells as the released guide's own fill.sh prints them over the translation 3f4a98fa990ddacf… (all of the seat's roots in one cut). By AI agents, Wed Nov 11 2026. No macro, syntax, notation, axiom, sorry.
-/
import Derived.Test.YtibefgdjijmncaaChecked
import GoSem.Claim
import GoSem.ClaimJoined
import GoSem.ClaimMapViews
import Derived.JoinedTies
import Derived.KernelRfl
namespace Go.Proofs.Ytibefgdjijmncaa
/- THE CELL 'sum', in the pinned program and in every row, IS THE sha256 OF THE DUMP (.gsa) THAT YtibefgdjijmncaaProg.lean LOADS. Nothing in Lean hashes anything: it is a label: what it is worth is what the hold of that sum in a sandbox is worth. -/
noncomputable def Try.pinned : Pinned := { name := "ytibefgdjijmncaa", sum := "3f4a98fa990ddacfc28e171350eab0dd7a39151ecdd80455c655a5cb028c6562", checked := Try.checked }
namespace Rows
def none {H : Type} : Left H := { results := [], args := [] }

/-- 'almshouselaw43.ImageBytes': WHATEVER THE INPUT: true; the input reads as it did. -/
def imageBytesSpec : ChangeSpec := { name := "imageBytes", fn := fun _ => fun
  | [d] => { results := [.lit (.bool true)], args := [d] }
  | _ => none }
def imageBytesRow : OpenClaim := { program := "ytibefgdjijmncaa", sum := "3f4a98fa990ddacfc28e171350eab0dd7a39151ecdd80455c655a5cb028c6562", func := "almshouse/almshouselaw43.ImageBytes", spec := "imageBytes", inPlace := ["sync/atomic.LoadUint32", "(*internal/sync.Mutex).Lock", "internal/race.Disable", "sync/atomic.CompareAndSwapInt32", "internal/race.Enable", "internal/race.Acquire", "(*internal/sync.Mutex).lockSlow", "internal/sync.runtime_canSpin", "internal/sync.runtime_doSpin", "internal/sync.throw", "internal/sync.runtime_nanotime", "internal/sync.runtime_SemacquireMutex", "sync/atomic.AddInt32", "(*internal/sync.Mutex).Unlock", "internal/race.ReleaseMerge", "(*internal/sync.Mutex).unlockSlow", "internal/sync.fatal", "internal/sync.runtime_Semrelease", "sync/atomic.StoreUint32"], unfollowed := true, recurses := true, apart := false }
def ImageBytesSaid : Prop := imageBytesRow.holds Try.pinned (OpenSpec.ofChange imageBytesSpec)

/-- ITS FALSE NEIGHBOUR: 'it returns false'. Refute it at one input. -/
def imageBytesWrong : ChangeSpec := { name := "imageBytes", fn := fun _ => fun
  | [d] => { results := [.lit (.bool false)], args := [d] }
  | _ => none }
def ImageBytesWrongFalsely : Prop := imageBytesRow.holds Try.pinned (OpenSpec.ofChange imageBytesWrong)

/-- 'almshouselaw43.ImageParses': WHATEVER THE INPUT: true; the input reads as it did. -/
def imageParsesSpec : ChangeSpec := { name := "imageParses", fn := fun _ => fun
  | [d1, d2, d3, d4, d5] => { results := [.lit (.bool true)], args := [d1, d2, d3, d4, d5] }
  | _ => none }
def imageParsesRow : OpenClaim := { program := "ytibefgdjijmncaa", sum := "3f4a98fa990ddacfc28e171350eab0dd7a39151ecdd80455c655a5cb028c6562", func := "almshouse/almshouselaw43.ImageParses", spec := "imageParses", inPlace := ["sync/atomic.LoadUint32", "(*internal/sync.Mutex).Lock", "internal/race.Disable", "sync/atomic.CompareAndSwapInt32", "internal/race.Enable", "internal/race.Acquire", "(*internal/sync.Mutex).lockSlow", "internal/sync.runtime_canSpin", "internal/sync.runtime_doSpin", "internal/sync.throw", "internal/sync.runtime_nanotime", "internal/sync.runtime_SemacquireMutex", "sync/atomic.AddInt32", "(*internal/sync.Mutex).Unlock", "internal/race.ReleaseMerge", "(*internal/sync.Mutex).unlockSlow", "internal/sync.fatal", "internal/sync.runtime_Semrelease", "sync/atomic.StoreUint32"], unfollowed := true, recurses := true, apart := false }
def ImageParsesSaid : Prop := imageParsesRow.holds Try.pinned (OpenSpec.ofChange imageParsesSpec)

/-- ITS FALSE NEIGHBOUR: 'it returns false'. Refute it at one input. -/
def imageParsesWrong : ChangeSpec := { name := "imageParses", fn := fun _ => fun
  | [d1, d2, d3, d4, d5] => { results := [.lit (.bool false)], args := [d1, d2, d3, d4, d5] }
  | _ => none }
def ImageParsesWrongFalsely : Prop := imageParsesRow.holds Try.pinned (OpenSpec.ofChange imageParsesWrong)

/-- 'almshouselaw43.ImageDiffers': WHATEVER THE INPUT: true; the input reads as it did. -/
def imageDiffersSpec : ChangeSpec := { name := "imageDiffers", fn := fun _ => fun
  | [d1, d2] => { results := [.lit (.bool true)], args := [d1, d2] }
  | _ => none }
def imageDiffersRow : OpenClaim := { program := "ytibefgdjijmncaa", sum := "3f4a98fa990ddacfc28e171350eab0dd7a39151ecdd80455c655a5cb028c6562", func := "almshouse/almshouselaw43.ImageDiffers", spec := "imageDiffers", inPlace := ["sync/atomic.LoadUint32", "(*internal/sync.Mutex).Lock", "internal/race.Disable", "sync/atomic.CompareAndSwapInt32", "internal/race.Enable", "internal/race.Acquire", "(*internal/sync.Mutex).lockSlow", "internal/sync.runtime_canSpin", "internal/sync.runtime_doSpin", "internal/sync.throw", "internal/sync.runtime_nanotime", "internal/sync.runtime_SemacquireMutex", "sync/atomic.AddInt32", "(*internal/sync.Mutex).Unlock", "internal/race.ReleaseMerge", "(*internal/sync.Mutex).unlockSlow", "internal/sync.fatal", "internal/sync.runtime_Semrelease", "sync/atomic.StoreUint32"], unfollowed := true, recurses := true, apart := false }
def ImageDiffersSaid : Prop := imageDiffersRow.holds Try.pinned (OpenSpec.ofChange imageDiffersSpec)

/-- ITS FALSE NEIGHBOUR: 'it returns false'. Refute it at one input. -/
def imageDiffersWrong : ChangeSpec := { name := "imageDiffers", fn := fun _ => fun
  | [d1, d2] => { results := [.lit (.bool false)], args := [d1, d2] }
  | _ => none }
def ImageDiffersWrongFalsely : Prop := imageDiffersRow.holds Try.pinned (OpenSpec.ofChange imageDiffersWrong)

/-- 'almshouselaw37.StripeTells': WHATEVER THE INPUT: true; the input reads as it did. -/
def stripeTellsSpec : ChangeSpec := { name := "stripeTells", fn := fun _ => fun
  | [d1, d2, d3] => { results := [.lit (.bool true)], args := [d1, d2, d3] }
  | _ => none }
def stripeTellsRow : OpenClaim := { program := "ytibefgdjijmncaa", sum := "3f4a98fa990ddacfc28e171350eab0dd7a39151ecdd80455c655a5cb028c6562", func := "almshouse/almshouselaw37.StripeTells", spec := "stripeTells", recurses := true, apart := false }
def StripeTellsSaid : Prop := stripeTellsRow.holds Try.pinned (OpenSpec.ofChange stripeTellsSpec)

/-- ITS FALSE NEIGHBOUR: 'it returns false'. Refute it at one input. -/
def stripeTellsWrong : ChangeSpec := { name := "stripeTells", fn := fun _ => fun
  | [d1, d2, d3] => { results := [.lit (.bool false)], args := [d1, d2, d3] }
  | _ => none }
def StripeTellsWrongFalsely : Prop := stripeTellsRow.holds Try.pinned (OpenSpec.ofChange stripeTellsWrong)

/-- 'almshouselaw37.StripeEven': WHATEVER THE INPUT: true; the input reads as it did. -/
def stripeEvenSpec : ChangeSpec := { name := "stripeEven", fn := fun _ => fun
  | [d1, d2, d3] => { results := [.lit (.bool true)], args := [d1, d2, d3] }
  | _ => none }
def stripeEvenRow : OpenClaim := { program := "ytibefgdjijmncaa", sum := "3f4a98fa990ddacfc28e171350eab0dd7a39151ecdd80455c655a5cb028c6562", func := "almshouse/almshouselaw37.StripeEven", spec := "stripeEven", recurses := true, apart := false }
def StripeEvenSaid : Prop := stripeEvenRow.holds Try.pinned (OpenSpec.ofChange stripeEvenSpec)

/-- ITS FALSE NEIGHBOUR: 'it returns false'. Refute it at one input. -/
def stripeEvenWrong : ChangeSpec := { name := "stripeEven", fn := fun _ => fun
  | [d1, d2, d3] => { results := [.lit (.bool false)], args := [d1, d2, d3] }
  | _ => none }
def StripeEvenWrongFalsely : Prop := stripeEvenRow.holds Try.pinned (OpenSpec.ofChange stripeEvenWrong)

/-- 'almshouselaw50.TimelineSplits': WHATEVER THE INPUT: true; the input reads as it did. -/
def timelineSplitsSpec : ChangeSpec := { name := "timelineSplits", fn := fun _ => fun
  | [d] => { results := [.lit (.bool true)], args := [d] }
  | _ => none }
def timelineSplitsRow : OpenClaim := { program := "ytibefgdjijmncaa", sum := "3f4a98fa990ddacfc28e171350eab0dd7a39151ecdd80455c655a5cb028c6562", func := "almshouse/almshouselaw50.TimelineSplits", spec := "timelineSplits", unfollowed := true, recurses := true, apart := false }
def TimelineSplitsSaid : Prop := timelineSplitsRow.holds Try.pinned (OpenSpec.ofChange timelineSplitsSpec)

/-- ITS FALSE NEIGHBOUR: 'it returns false'. Refute it at one input. -/
def timelineSplitsWrong : ChangeSpec := { name := "timelineSplits", fn := fun _ => fun
  | [d] => { results := [.lit (.bool false)], args := [d] }
  | _ => none }
def TimelineSplitsWrongFalsely : Prop := timelineSplitsRow.holds Try.pinned (OpenSpec.ofChange timelineSplitsWrong)

/-- 'almshouselaw50.TimelineOrders': WHATEVER THE INPUT: true; the input reads as it did. -/
def timelineOrdersSpec : ChangeSpec := { name := "timelineOrders", fn := fun _ => fun
  | [d1, d2, d3] => { results := [.lit (.bool true)], args := [d1, d2, d3] }
  | _ => none }
def timelineOrdersRow : OpenClaim := { program := "ytibefgdjijmncaa", sum := "3f4a98fa990ddacfc28e171350eab0dd7a39151ecdd80455c655a5cb028c6562", func := "almshouse/almshouselaw50.TimelineOrders", spec := "timelineOrders", unfollowed := true, recurses := true, apart := false }
def TimelineOrdersSaid : Prop := timelineOrdersRow.holds Try.pinned (OpenSpec.ofChange timelineOrdersSpec)

/-- ITS FALSE NEIGHBOUR: 'it returns false'. Refute it at one input. -/
def timelineOrdersWrong : ChangeSpec := { name := "timelineOrders", fn := fun _ => fun
  | [d1, d2, d3] => { results := [.lit (.bool false)], args := [d1, d2, d3] }
  | _ => none }
def TimelineOrdersWrongFalsely : Prop := timelineOrdersRow.holds Try.pinned (OpenSpec.ofChange timelineOrdersWrong)

/-- 'almshouselaw17.HealVoid': WHATEVER THE INPUT: true; the input reads as it did. -/
def healVoidSpec : ChangeSpec := { name := "healVoid", fn := fun _ => fun
  | [d1, d2, d3, d4, d5] => { results := [.lit (.bool true)], args := [d1, d2, d3, d4, d5] }
  | _ => none }
def healVoidRow : OpenClaim := { program := "ytibefgdjijmncaa", sum := "3f4a98fa990ddacfc28e171350eab0dd7a39151ecdd80455c655a5cb028c6562", func := "almshouse/almshouselaw17.HealVoid", spec := "healVoid", unfollowed := true, recurses := true, apart := false }
def HealVoidSaid : Prop := healVoidRow.holds Try.pinned (OpenSpec.ofChange healVoidSpec)

/-- ITS FALSE NEIGHBOUR: 'it returns false'. Refute it at one input. -/
def healVoidWrong : ChangeSpec := { name := "healVoid", fn := fun _ => fun
  | [d1, d2, d3, d4, d5] => { results := [.lit (.bool false)], args := [d1, d2, d3, d4, d5] }
  | _ => none }
def HealVoidWrongFalsely : Prop := healVoidRow.holds Try.pinned (OpenSpec.ofChange healVoidWrong)

/- THE SECOND FORM. 'bulk': how many values and letters a reading holds, each counted each time it is reached (what is shared counts as often as it is met; a slice's spare places count too). A statement '..UptoSaid' is the law's where the arguments, and the package variables that the reading takes, are together of bulk at most 1048576: NARROWER than '..Said'. Prove '..Said' where nothing that the law and all that it calls make is longer than what came in: it says more and counts as full. Else prove '..UptoSaid'. A law counts once. -/
mutual
def uptoBulk {H : Type} : DataW H → Nat
  | .lit (.string bytes) => bytes.length + 1
  | .lit _ => 1
  | .nil => 1
  | .ptr d => uptoBulk d + 1
  | .slice elems spare => uptoBulkAll elems + uptoBulkAll spare + 1
  | .agg parts => uptoBulkAll parts + 1
  | .iface _ d => uptoBulk d + 1
  | .map entries => uptoBulkEntries entries + 1
  | .held _ => 1
def uptoBulkAll {H : Type} : List (DataW H) → Nat
  | [] => 0
  | d :: r => uptoBulk d + uptoBulkAll r
def uptoBulkEntries {H : Type} : List (Lit × DataW H) → Nat
  | [] => 0
  | x :: r => uptoBulkEntry x + uptoBulkEntries r
def uptoBulkEntry {H : Type} : Lit × DataW H → Nat
  | (.string bytes, d) => bytes.length + uptoBulk d + 1
  | (_, d) => uptoBulk d + 1
 end
def uptoSmall : (H : Type) → List (DataW H) → Bool := fun _ ds => decide (uptoBulkAll ds ≤ 1048576)
def OpenSpec.upto (s : _root_.Go.ChangeSpec) : _root_.Go.OpenSpec := { _root_.Go.OpenSpec.ofChange s with cond := some uptoSmall }

/-- 'almshouselaw43.ImageBytes', WHERE WHAT IT READS IS OF BULK AT MOST 1048576: true; the input reads as it did. -/
def imageBytesUptoRow : OpenClaim := { program := "ytibefgdjijmncaa", sum := "3f4a98fa990ddacfc28e171350eab0dd7a39151ecdd80455c655a5cb028c6562", func := "almshouse/almshouselaw43.ImageBytes", spec := "imageBytes", inPlace := ["sync/atomic.LoadUint32", "(*internal/sync.Mutex).Lock", "internal/race.Disable", "sync/atomic.CompareAndSwapInt32", "internal/race.Enable", "internal/race.Acquire", "(*internal/sync.Mutex).lockSlow", "internal/sync.runtime_canSpin", "internal/sync.runtime_doSpin", "internal/sync.throw", "internal/sync.runtime_nanotime", "internal/sync.runtime_SemacquireMutex", "sync/atomic.AddInt32", "(*internal/sync.Mutex).Unlock", "internal/race.ReleaseMerge", "(*internal/sync.Mutex).unlockSlow", "internal/sync.fatal", "internal/sync.runtime_Semrelease", "sync/atomic.StoreUint32"], unfollowed := true, recurses := true, apart := false, narrowed := true }
def ImageBytesUptoSaid : Prop := imageBytesUptoRow.holds Try.pinned (OpenSpec.upto imageBytesSpec)

/-- 'almshouselaw43.ImageParses', WHERE WHAT IT READS IS OF BULK AT MOST 1048576: true; the input reads as it did. -/
def imageParsesUptoRow : OpenClaim := { program := "ytibefgdjijmncaa", sum := "3f4a98fa990ddacfc28e171350eab0dd7a39151ecdd80455c655a5cb028c6562", func := "almshouse/almshouselaw43.ImageParses", spec := "imageParses", inPlace := ["sync/atomic.LoadUint32", "(*internal/sync.Mutex).Lock", "internal/race.Disable", "sync/atomic.CompareAndSwapInt32", "internal/race.Enable", "internal/race.Acquire", "(*internal/sync.Mutex).lockSlow", "internal/sync.runtime_canSpin", "internal/sync.runtime_doSpin", "internal/sync.throw", "internal/sync.runtime_nanotime", "internal/sync.runtime_SemacquireMutex", "sync/atomic.AddInt32", "(*internal/sync.Mutex).Unlock", "internal/race.ReleaseMerge", "(*internal/sync.Mutex).unlockSlow", "internal/sync.fatal", "internal/sync.runtime_Semrelease", "sync/atomic.StoreUint32"], unfollowed := true, recurses := true, apart := false, narrowed := true }
def ImageParsesUptoSaid : Prop := imageParsesUptoRow.holds Try.pinned (OpenSpec.upto imageParsesSpec)

/-- 'almshouselaw43.ImageDiffers', WHERE WHAT IT READS IS OF BULK AT MOST 1048576: true; the input reads as it did. -/
def imageDiffersUptoRow : OpenClaim := { program := "ytibefgdjijmncaa", sum := "3f4a98fa990ddacfc28e171350eab0dd7a39151ecdd80455c655a5cb028c6562", func := "almshouse/almshouselaw43.ImageDiffers", spec := "imageDiffers", inPlace := ["sync/atomic.LoadUint32", "(*internal/sync.Mutex).Lock", "internal/race.Disable", "sync/atomic.CompareAndSwapInt32", "internal/race.Enable", "internal/race.Acquire", "(*internal/sync.Mutex).lockSlow", "internal/sync.runtime_canSpin", "internal/sync.runtime_doSpin", "internal/sync.throw", "internal/sync.runtime_nanotime", "internal/sync.runtime_SemacquireMutex", "sync/atomic.AddInt32", "(*internal/sync.Mutex).Unlock", "internal/race.ReleaseMerge", "(*internal/sync.Mutex).unlockSlow", "internal/sync.fatal", "internal/sync.runtime_Semrelease", "sync/atomic.StoreUint32"], unfollowed := true, recurses := true, apart := false, narrowed := true }
def ImageDiffersUptoSaid : Prop := imageDiffersUptoRow.holds Try.pinned (OpenSpec.upto imageDiffersSpec)

/-- 'almshouselaw37.StripeTells', WHERE WHAT IT READS IS OF BULK AT MOST 1048576: true; the input reads as it did. -/
def stripeTellsUptoRow : OpenClaim := { program := "ytibefgdjijmncaa", sum := "3f4a98fa990ddacfc28e171350eab0dd7a39151ecdd80455c655a5cb028c6562", func := "almshouse/almshouselaw37.StripeTells", spec := "stripeTells", recurses := true, apart := false, narrowed := true }
def StripeTellsUptoSaid : Prop := stripeTellsUptoRow.holds Try.pinned (OpenSpec.upto stripeTellsSpec)

/-- 'almshouselaw37.StripeEven', WHERE WHAT IT READS IS OF BULK AT MOST 1048576: true; the input reads as it did. -/
def stripeEvenUptoRow : OpenClaim := { program := "ytibefgdjijmncaa", sum := "3f4a98fa990ddacfc28e171350eab0dd7a39151ecdd80455c655a5cb028c6562", func := "almshouse/almshouselaw37.StripeEven", spec := "stripeEven", recurses := true, apart := false, narrowed := true }
def StripeEvenUptoSaid : Prop := stripeEvenUptoRow.holds Try.pinned (OpenSpec.upto stripeEvenSpec)

/-- 'almshouselaw50.TimelineSplits', WHERE WHAT IT READS IS OF BULK AT MOST 1048576: true; the input reads as it did. -/
def timelineSplitsUptoRow : OpenClaim := { program := "ytibefgdjijmncaa", sum := "3f4a98fa990ddacfc28e171350eab0dd7a39151ecdd80455c655a5cb028c6562", func := "almshouse/almshouselaw50.TimelineSplits", spec := "timelineSplits", unfollowed := true, recurses := true, apart := false, narrowed := true }
def TimelineSplitsUptoSaid : Prop := timelineSplitsUptoRow.holds Try.pinned (OpenSpec.upto timelineSplitsSpec)

/-- 'almshouselaw50.TimelineOrders', WHERE WHAT IT READS IS OF BULK AT MOST 1048576: true; the input reads as it did. -/
def timelineOrdersUptoRow : OpenClaim := { program := "ytibefgdjijmncaa", sum := "3f4a98fa990ddacfc28e171350eab0dd7a39151ecdd80455c655a5cb028c6562", func := "almshouse/almshouselaw50.TimelineOrders", spec := "timelineOrders", unfollowed := true, recurses := true, apart := false, narrowed := true }
def TimelineOrdersUptoSaid : Prop := timelineOrdersUptoRow.holds Try.pinned (OpenSpec.upto timelineOrdersSpec)

/-- 'almshouselaw17.HealVoid', WHERE WHAT IT READS IS OF BULK AT MOST 1048576: true; the input reads as it did. -/
def healVoidUptoRow : OpenClaim := { program := "ytibefgdjijmncaa", sum := "3f4a98fa990ddacfc28e171350eab0dd7a39151ecdd80455c655a5cb028c6562", func := "almshouse/almshouselaw17.HealVoid", spec := "healVoid", unfollowed := true, recurses := true, apart := false, narrowed := true }
def HealVoidUptoSaid : Prop := healVoidUptoRow.holds Try.pinned (OpenSpec.upto healVoidSpec)

end Rows
end Go.Proofs.Ytibefgdjijmncaa
