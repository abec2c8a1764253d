/- From a law's walk to its row: whatever the arguments' types, as long as the call only makes memory. -/
import Derived.Test.YtibefgdjijmncaaFacts
import Derived.Test.YtibefgdjijmncaaBase
import Derived.WalkKit
import Derived.ProofKit
import Derived.OpenShut
namespace Go.Proofs.Ytibefgdjijmncaa
open Go.ChangeShapes Go.WideShapes Go.ChangeAt Go.RowKit
theorem laidOut : laidOutB Try.prog = true := Try.shared1
section
variable {H : Type} {enc : TypeId × Value → H} {W W' : World}
theorem args_stay (hb : Below W.heap.size W W') : ∀ {ts : List TypeId} {vs : List Value} {ds : List (DataW H)} {p : List MemPlace}, (∀ t ∈ ts, Try.prog.readableRec t = true ∧ t < Try.prog.types.size) →
    DataW.TrodAll enc Try.prog W 0 (fun _ => true) true ts vs ds p → (∀ x ∈ p, x.block < W.heap.size) → DataW.TrodAll enc Try.prog W' 0 (fun b => decide (b < W.heap.size)) true ts vs ds p
  | [], [], [], _, _, h, _ => h
  | t :: ts, v :: vs, d :: ds, _, hr, h, hlt => by
    obtain ⟨p, q, h1, h2, rfl⟩ := h
    exact ⟨p, q, Below.trod laidOut (hr t (by simp)).1 (hr t (by simp)).2 h1 hb (fun x hx => hlt x (by simp [hx])), args_stay hb (fun t ht => hr t (by simp [ht])) h2 (fun x hx => hlt x (by simp [hx])), rfl⟩
theorem args_length : ∀ {ts : List TypeId} {vs : List Value} {ds : List (DataW H)} {p : List MemPlace}, DataW.TrodAll enc Try.prog W 0 (fun _ => true) true ts vs ds p → ds.length = ts.length ∧ vs.length = ts.length
  | [], [], [], _, _ => ⟨rfl, rfl⟩
  | t :: ts, v :: vs, d :: ds, _, h => by
    obtain ⟨p, q, h1, h2, rfl⟩ := h
    obtain ⟨a, b⟩ := args_length h2
    simp [a, b]
theorem law_step {n : Nat} {f : Func} {spec : ChangeSpec} {ts : List TypeId} (hp : f.params.toList = ts) (hro : f.resultTypes = #[4]) (hv : spec.vars = []) (hr : ∀ t ∈ ts, Try.prog.readableRec t = true ∧ t < Try.prog.types.size)
    (hs : ∀ ds : List (DataW H), ds.length = ts.length → spec.fn H ds = { results := [.lit (.bool true)], args := ds }) {args : Array Value} {ds gs : List (DataW H)} {before : List MemPlace}
    (hW : DataW.Whole enc Try.prog f.params.toList spec.vars false W args.toList ds gs before)
    (hwalk : ∀ p, DataW.TrodAll enc Try.prog W 0 (fun _ => true) true ts args.toList ds p → Calls Try.prog n args W fun e W' => e = .returned (.bool true) ∧ Below W.heap.size W W') :
    Calls Try.prog n args W fun e W' => ∃ v, e = .returned v ∧ spec.post enc Try.prog f false true false false W args v W' := by
  have hW' := hW
  obtain ⟨p, q, hA, hV, rfl, hfz, hnd⟩ := hW
  rw [hv] at hV
  obtain ⟨rfl, rfl⟩ := trodVars_none hV
  rw [hp] at hA
  obtain ⟨hl, _⟩ := args_length hA
  refine (hwalk p hA).mono fun e W' ⟨he, bel⟩ => ?_
  subst he
  have hlt : ∀ x ∈ p, x.block < W.heap.size := fun x hx => hW'.lt x (by simp [hx])
  have hd := hs ds hl
  refine ⟨_, rfl, ds, [], p ++ [], [], p, [], hW', ?_, ?_, ?_, bel.frame _, fun h => by cases h⟩
  · rw [List.append_nil, hd, hro]
    exact trodAll_mk1 (shut_bool Try.underlying4 _)
  · rw [List.append_nil, hd, hp]
    exact args_stay bel hr hA hlt
  · rw [List.append_nil, hd, hv]
    rfl
end
end Go.Proofs.Ytibefgdjijmncaa
