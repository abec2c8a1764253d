/-
  No cell of these rows narrows 'for every input' (looked for: loops, veiled, ifaces, maps, wideKeys, modest, calm, conditions, laid).
  DERIVED. THE GIVEN ROWS OF THIS SEAT. 9 by the template 'for every input the law returns true; each argument reads behind the call as it read before'; 0 by the template 'total and deterministic' (their statements: YtcejgadbpahbmaaTotals.lean).
  GIVEN WITH THE SEED: the statements are not yours to turn. If you find one false, say at which input.
  Laid BY PROGRAM, IN A SANDBOX (cutbox-rows.mjs): the forced cells as the released guide's own fill.sh prints them over the translation 307ee9839d50be0d… (all of the seat's roots in one cut). By AI agents, Wed Nov 11 2026. No macro, syntax, notation, axiom, sorry.
-/
import Derived.Test.YtcejgadbpahbmaaChecked
import GoSem.Claim
import GoSem.ClaimJoined
import GoSem.ClaimMapViews
import Derived.JoinedTies
import Derived.KernelRfl
namespace Go.Proofs.Ytcejgadbpahbmaa
/- THE CELL 'sum', in the pinned program and in every row, IS THE sha256 OF THE DUMP (.gsa) THAT YtcejgadbpahbmaaProg.lean LOADS. Nothing in Lean hashes anything: it is a label: what it is worth is what the hold of that sum in a sandbox is worth. -/
noncomputable def Try.pinned : Pinned := { name := "ytcejgadbpahbmaa", sum := "307ee9839d50be0d092510f6faad45d798914d7ff26a6c9d7fca72d0eef71be0", checked := Try.checked }
namespace Rows
def none {H : Type} : Left H := { results := [], args := [] }

/-- 'almshouselaw50.TimelineOrders': WHATEVER THE INPUT: true; the input reads as it did. -/
def timelineOrdersSpec : ChangeSpec := { name := "timelineOrders", fn := fun _ => fun
  | [d1, d2, d3] => { results := [.lit (.bool true)], args := [d1, d2, d3] }
  | _ => none }
def timelineOrdersRow : OpenClaim := { program := "ytcejgadbpahbmaa", sum := "307ee9839d50be0d092510f6faad45d798914d7ff26a6c9d7fca72d0eef71be0", func := "almshouse/almshouselaw50.TimelineOrders", spec := "timelineOrders", unfollowed := true, recurses := true, apart := false }
def TimelineOrdersSaid : Prop := timelineOrdersRow.holds Try.pinned (OpenSpec.ofChange timelineOrdersSpec)

/-- ITS FALSE NEIGHBOUR: 'it returns false'. Refute it at one input. -/
def timelineOrdersWrong : ChangeSpec := { name := "timelineOrders", fn := fun _ => fun
  | [d1, d2, d3] => { results := [.lit (.bool false)], args := [d1, d2, d3] }
  | _ => none }
def TimelineOrdersWrongFalsely : Prop := timelineOrdersRow.holds Try.pinned (OpenSpec.ofChange timelineOrdersWrong)

/-- 'almshouselaw50.TimelineSplits': WHATEVER THE INPUT: true; the input reads as it did. -/
def timelineSplitsSpec : ChangeSpec := { name := "timelineSplits", fn := fun _ => fun
  | [d] => { results := [.lit (.bool true)], args := [d] }
  | _ => none }
def timelineSplitsRow : OpenClaim := { program := "ytcejgadbpahbmaa", sum := "307ee9839d50be0d092510f6faad45d798914d7ff26a6c9d7fca72d0eef71be0", func := "almshouse/almshouselaw50.TimelineSplits", spec := "timelineSplits", unfollowed := true, recurses := true, apart := false }
def TimelineSplitsSaid : Prop := timelineSplitsRow.holds Try.pinned (OpenSpec.ofChange timelineSplitsSpec)

/-- ITS FALSE NEIGHBOUR: 'it returns false'. Refute it at one input. -/
def timelineSplitsWrong : ChangeSpec := { name := "timelineSplits", fn := fun _ => fun
  | [d] => { results := [.lit (.bool false)], args := [d] }
  | _ => none }
def TimelineSplitsWrongFalsely : Prop := timelineSplitsRow.holds Try.pinned (OpenSpec.ofChange timelineSplitsWrong)

/-- 'almshouselaw51.RangesCount': WHATEVER THE INPUT: true; the input reads as it did. -/
def rangesCountSpec : ChangeSpec := { name := "rangesCount", fn := fun _ => fun
  | [d] => { results := [.lit (.bool true)], args := [d] }
  | _ => none }
def rangesCountRow : OpenClaim := { program := "ytcejgadbpahbmaa", sum := "307ee9839d50be0d092510f6faad45d798914d7ff26a6c9d7fca72d0eef71be0", func := "almshouse/almshouselaw51.RangesCount", spec := "rangesCount", unfollowed := true, recurses := true, apart := false }
def RangesCountSaid : Prop := rangesCountRow.holds Try.pinned (OpenSpec.ofChange rangesCountSpec)

/-- ITS FALSE NEIGHBOUR: 'it returns false'. Refute it at one input. -/
def rangesCountWrong : ChangeSpec := { name := "rangesCount", fn := fun _ => fun
  | [d] => { results := [.lit (.bool false)], args := [d] }
  | _ => none }
def RangesCountWrongFalsely : Prop := rangesCountRow.holds Try.pinned (OpenSpec.ofChange rangesCountWrong)

/-- 'almshouselaw51.RangesLaws': WHATEVER THE INPUT: true; the input reads as it did. -/
def rangesLawsSpec : ChangeSpec := { name := "rangesLaws", fn := fun _ => fun
  | [d1, d2] => { results := [.lit (.bool true)], args := [d1, d2] }
  | _ => none }
def rangesLawsRow : OpenClaim := { program := "ytcejgadbpahbmaa", sum := "307ee9839d50be0d092510f6faad45d798914d7ff26a6c9d7fca72d0eef71be0", func := "almshouse/almshouselaw51.RangesLaws", spec := "rangesLaws", unfollowed := true, recurses := true, apart := false }
def RangesLawsSaid : Prop := rangesLawsRow.holds Try.pinned (OpenSpec.ofChange rangesLawsSpec)

/-- ITS FALSE NEIGHBOUR: 'it returns false'. Refute it at one input. -/
def rangesLawsWrong : ChangeSpec := { name := "rangesLaws", fn := fun _ => fun
  | [d1, d2] => { results := [.lit (.bool false)], args := [d1, d2] }
  | _ => none }
def RangesLawsWrongFalsely : Prop := rangesLawsRow.holds Try.pinned (OpenSpec.ofChange rangesLawsWrong)

/-- 'almshouselaw41.QuotaFullest': WHATEVER THE INPUT: true; the input reads as it did. -/
def quotaFullestSpec : ChangeSpec := { name := "quotaFullest", fn := fun _ => fun
  | [d1, d2, d3] => { results := [.lit (.bool true)], args := [d1, d2, d3] }
  | _ => none }
def quotaFullestRow : OpenClaim := { program := "ytcejgadbpahbmaa", sum := "307ee9839d50be0d092510f6faad45d798914d7ff26a6c9d7fca72d0eef71be0", func := "almshouse/almshouselaw41.QuotaFullest", spec := "quotaFullest", unfollowed := true, recurses := true, apart := false }
def QuotaFullestSaid : Prop := quotaFullestRow.holds Try.pinned (OpenSpec.ofChange quotaFullestSpec)

/-- ITS FALSE NEIGHBOUR: 'it returns false'. Refute it at one input. -/
def quotaFullestWrong : ChangeSpec := { name := "quotaFullest", fn := fun _ => fun
  | [d1, d2, d3] => { results := [.lit (.bool false)], args := [d1, d2, d3] }
  | _ => none }
def QuotaFullestWrongFalsely : Prop := quotaFullestRow.holds Try.pinned (OpenSpec.ofChange quotaFullestWrong)

/-- 'almshouselaw41.QuotaMost': WHATEVER THE INPUT: true; the input reads as it did. -/
def quotaMostSpec : ChangeSpec := { name := "quotaMost", fn := fun _ => fun
  | [d1, d2, d3] => { results := [.lit (.bool true)], args := [d1, d2, d3] }
  | _ => none }
def quotaMostRow : OpenClaim := { program := "ytcejgadbpahbmaa", sum := "307ee9839d50be0d092510f6faad45d798914d7ff26a6c9d7fca72d0eef71be0", func := "almshouse/almshouselaw41.QuotaMost", spec := "quotaMost", unfollowed := true, recurses := true, apart := false }
def QuotaMostSaid : Prop := quotaMostRow.holds Try.pinned (OpenSpec.ofChange quotaMostSpec)

/-- ITS FALSE NEIGHBOUR: 'it returns false'. Refute it at one input. -/
def quotaMostWrong : ChangeSpec := { name := "quotaMost", fn := fun _ => fun
  | [d1, d2, d3] => { results := [.lit (.bool false)], args := [d1, d2, d3] }
  | _ => none }
def QuotaMostWrongFalsely : Prop := quotaMostRow.holds Try.pinned (OpenSpec.ofChange quotaMostWrong)

/-- 'almshouselaw17.HealTells': WHATEVER THE INPUT: true; the input reads as it did. -/
def healTellsSpec : ChangeSpec := { name := "healTells", fn := fun _ => fun
  | [d1, d2, d3, d4, d5] => { results := [.lit (.bool true)], args := [d1, d2, d3, d4, d5] }
  | _ => none }
def healTellsRow : OpenClaim := { program := "ytcejgadbpahbmaa", sum := "307ee9839d50be0d092510f6faad45d798914d7ff26a6c9d7fca72d0eef71be0", func := "almshouse/almshouselaw17.HealTells", spec := "healTells", unfollowed := true, recurses := true, apart := false }
def HealTellsSaid : Prop := healTellsRow.holds Try.pinned (OpenSpec.ofChange healTellsSpec)

/-- ITS FALSE NEIGHBOUR: 'it returns false'. Refute it at one input. -/
def healTellsWrong : ChangeSpec := { name := "healTells", fn := fun _ => fun
  | [d1, d2, d3, d4, d5] => { results := [.lit (.bool false)], args := [d1, d2, d3, d4, d5] }
  | _ => none }
def HealTellsWrongFalsely : Prop := healTellsRow.holds Try.pinned (OpenSpec.ofChange healTellsWrong)

/-- 'almshouselaw17.HealKeeps': WHATEVER THE INPUT: true; the input reads as it did. -/
def healKeepsSpec : ChangeSpec := { name := "healKeeps", fn := fun _ => fun
  | [d1, d2, d3, d4, d5] => { results := [.lit (.bool true)], args := [d1, d2, d3, d4, d5] }
  | _ => none }
def healKeepsRow : OpenClaim := { program := "ytcejgadbpahbmaa", sum := "307ee9839d50be0d092510f6faad45d798914d7ff26a6c9d7fca72d0eef71be0", func := "almshouse/almshouselaw17.HealKeeps", spec := "healKeeps", unfollowed := true, recurses := true, apart := false }
def HealKeepsSaid : Prop := healKeepsRow.holds Try.pinned (OpenSpec.ofChange healKeepsSpec)

/-- ITS FALSE NEIGHBOUR: 'it returns false'. Refute it at one input. -/
def healKeepsWrong : ChangeSpec := { name := "healKeeps", fn := fun _ => fun
  | [d1, d2, d3, d4, d5] => { results := [.lit (.bool false)], args := [d1, d2, d3, d4, d5] }
  | _ => none }
def HealKeepsWrongFalsely : Prop := healKeepsRow.holds Try.pinned (OpenSpec.ofChange healKeepsWrong)

/-- 'almshouselaw17.HealVoid': WHATEVER THE INPUT: true; the input reads as it did. -/
def healVoidSpec : ChangeSpec := { name := "healVoid", fn := fun _ => fun
  | [d1, d2, d3, d4, d5] => { results := [.lit (.bool true)], args := [d1, d2, d3, d4, d5] }
  | _ => none }
def healVoidRow : OpenClaim := { program := "ytcejgadbpahbmaa", sum := "307ee9839d50be0d092510f6faad45d798914d7ff26a6c9d7fca72d0eef71be0", func := "almshouse/almshouselaw17.HealVoid", spec := "healVoid", unfollowed := true, recurses := true, apart := false }
def HealVoidSaid : Prop := healVoidRow.holds Try.pinned (OpenSpec.ofChange healVoidSpec)

/-- ITS FALSE NEIGHBOUR: 'it returns false'. Refute it at one input. -/
def healVoidWrong : ChangeSpec := { name := "healVoid", fn := fun _ => fun
  | [d1, d2, d3, d4, d5] => { results := [.lit (.bool false)], args := [d1, d2, d3, d4, d5] }
  | _ => none }
def HealVoidWrongFalsely : Prop := healVoidRow.holds Try.pinned (OpenSpec.ofChange healVoidWrong)

/- THE SECOND FORM. 'bulk': how many values and letters a reading holds, each counted each time it is reached (what is shared counts as often as it is met; a slice's spare places count too). A statement '..UptoSaid' is the law's where the arguments, and the package variables that the reading takes, are together of bulk at most 1048576: NARROWER than '..Said'. Prove '..Said' where nothing that the law and all that it calls make is longer than what came in: it says more and counts as full. Else prove '..UptoSaid'. A law counts once. -/
mutual
def uptoBulk {H : Type} : DataW H → Nat
  | .lit (.string bytes) => bytes.length + 1
  | .lit _ => 1
  | .nil => 1
  | .ptr d => uptoBulk d + 1
  | .slice elems spare => uptoBulkAll elems + uptoBulkAll spare + 1
  | .agg parts => uptoBulkAll parts + 1
  | .iface _ d => uptoBulk d + 1
  | .map entries => uptoBulkEntries entries + 1
  | .held _ => 1
def uptoBulkAll {H : Type} : List (DataW H) → Nat
  | [] => 0
  | d :: r => uptoBulk d + uptoBulkAll r
def uptoBulkEntries {H : Type} : List (Lit × DataW H) → Nat
  | [] => 0
  | x :: r => uptoBulkEntry x + uptoBulkEntries r
def uptoBulkEntry {H : Type} : Lit × DataW H → Nat
  | (.string bytes, d) => bytes.length + uptoBulk d + 1
  | (_, d) => uptoBulk d + 1
 end
def uptoSmall : (H : Type) → List (DataW H) → Bool := fun _ ds => decide (uptoBulkAll ds ≤ 1048576)
def OpenSpec.upto (s : _root_.Go.ChangeSpec) : _root_.Go.OpenSpec := { _root_.Go.OpenSpec.ofChange s with cond := some uptoSmall }

/-- 'almshouselaw50.TimelineOrders', WHERE WHAT IT READS IS OF BULK AT MOST 1048576: true; the input reads as it did. -/
def timelineOrdersUptoRow : OpenClaim := { program := "ytcejgadbpahbmaa", sum := "307ee9839d50be0d092510f6faad45d798914d7ff26a6c9d7fca72d0eef71be0", func := "almshouse/almshouselaw50.TimelineOrders", spec := "timelineOrders", unfollowed := true, recurses := true, apart := false, narrowed := true }
def TimelineOrdersUptoSaid : Prop := timelineOrdersUptoRow.holds Try.pinned (OpenSpec.upto timelineOrdersSpec)

/-- 'almshouselaw50.TimelineSplits', WHERE WHAT IT READS IS OF BULK AT MOST 1048576: true; the input reads as it did. -/
def timelineSplitsUptoRow : OpenClaim := { program := "ytcejgadbpahbmaa", sum := "307ee9839d50be0d092510f6faad45d798914d7ff26a6c9d7fca72d0eef71be0", func := "almshouse/almshouselaw50.TimelineSplits", spec := "timelineSplits", unfollowed := true, recurses := true, apart := false, narrowed := true }
def TimelineSplitsUptoSaid : Prop := timelineSplitsUptoRow.holds Try.pinned (OpenSpec.upto timelineSplitsSpec)

/-- 'almshouselaw51.RangesCount', WHERE WHAT IT READS IS OF BULK AT MOST 1048576: true; the input reads as it did. -/
def rangesCountUptoRow : OpenClaim := { program := "ytcejgadbpahbmaa", sum := "307ee9839d50be0d092510f6faad45d798914d7ff26a6c9d7fca72d0eef71be0", func := "almshouse/almshouselaw51.RangesCount", spec := "rangesCount", unfollowed := true, recurses := true, apart := false, narrowed := true }
def RangesCountUptoSaid : Prop := rangesCountUptoRow.holds Try.pinned (OpenSpec.upto rangesCountSpec)

/-- 'almshouselaw51.RangesLaws', WHERE WHAT IT READS IS OF BULK AT MOST 1048576: true; the input reads as it did. -/
def rangesLawsUptoRow : OpenClaim := { program := "ytcejgadbpahbmaa", sum := "307ee9839d50be0d092510f6faad45d798914d7ff26a6c9d7fca72d0eef71be0", func := "almshouse/almshouselaw51.RangesLaws", spec := "rangesLaws", unfollowed := true, recurses := true, apart := false, narrowed := true }
def RangesLawsUptoSaid : Prop := rangesLawsUptoRow.holds Try.pinned (OpenSpec.upto rangesLawsSpec)

/-- 'almshouselaw41.QuotaFullest', WHERE WHAT IT READS IS OF BULK AT MOST 1048576: true; the input reads as it did. -/
def quotaFullestUptoRow : OpenClaim := { program := "ytcejgadbpahbmaa", sum := "307ee9839d50be0d092510f6faad45d798914d7ff26a6c9d7fca72d0eef71be0", func := "almshouse/almshouselaw41.QuotaFullest", spec := "quotaFullest", unfollowed := true, recurses := true, apart := false, narrowed := true }
def QuotaFullestUptoSaid : Prop := quotaFullestUptoRow.holds Try.pinned (OpenSpec.upto quotaFullestSpec)

/-- 'almshouselaw41.QuotaMost', WHERE WHAT IT READS IS OF BULK AT MOST 1048576: true; the input reads as it did. -/
def quotaMostUptoRow : OpenClaim := { program := "ytcejgadbpahbmaa", sum := "307ee9839d50be0d092510f6faad45d798914d7ff26a6c9d7fca72d0eef71be0", func := "almshouse/almshouselaw41.QuotaMost", spec := "quotaMost", unfollowed := true, recurses := true, apart := false, narrowed := true }
def QuotaMostUptoSaid : Prop := quotaMostUptoRow.holds Try.pinned (OpenSpec.upto quotaMostSpec)

/-- 'almshouselaw17.HealTells', WHERE WHAT IT READS IS OF BULK AT MOST 1048576: true; the input reads as it did. -/
def healTellsUptoRow : OpenClaim := { program := "ytcejgadbpahbmaa", sum := "307ee9839d50be0d092510f6faad45d798914d7ff26a6c9d7fca72d0eef71be0", func := "almshouse/almshouselaw17.HealTells", spec := "healTells", unfollowed := true, recurses := true, apart := false, narrowed := true }
def HealTellsUptoSaid : Prop := healTellsUptoRow.holds Try.pinned (OpenSpec.upto healTellsSpec)

/-- 'almshouselaw17.HealKeeps', WHERE WHAT IT READS IS OF BULK AT MOST 1048576: true; the input reads as it did. -/
def healKeepsUptoRow : OpenClaim := { program := "ytcejgadbpahbmaa", sum := "307ee9839d50be0d092510f6faad45d798914d7ff26a6c9d7fca72d0eef71be0", func := "almshouse/almshouselaw17.HealKeeps", spec := "healKeeps", unfollowed := true, recurses := true, apart := false, narrowed := true }
def HealKeepsUptoSaid : Prop := healKeepsUptoRow.holds Try.pinned (OpenSpec.upto healKeepsSpec)

/-- 'almshouselaw17.HealVoid', WHERE WHAT IT READS IS OF BULK AT MOST 1048576: true; the input reads as it did. -/
def healVoidUptoRow : OpenClaim := { program := "ytcejgadbpahbmaa", sum := "307ee9839d50be0d092510f6faad45d798914d7ff26a6c9d7fca72d0eef71be0", func := "almshouse/almshouselaw17.HealVoid", spec := "healVoid", unfollowed := true, recurses := true, apart := false, narrowed := true }
def HealVoidUptoSaid : Prop := healVoidUptoRow.holds Try.pinned (OpenSpec.upto healVoidSpec)

end Rows
end Go.Proofs.Ytcejgadbpahbmaa
