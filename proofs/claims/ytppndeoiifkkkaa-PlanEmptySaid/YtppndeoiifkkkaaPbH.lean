/- Layer 49 (plan): PlanTells' walk, as the row needs it. -/
import Derived.Test.YtppndeoiifkkkaaPbG
namespace Go.Proofs.Ytppndeoiifkkkaa
open Go.RowKit Sy
set_option linter.unusedVariables false
set_option linter.unusedSimpArgs false
set_option maxHeartbeats 4000000
set_option maxRecDepth 20000
theorem St.none {w : World} : St (fun k => w.heap.size ≤ k) w [] [] w :=
  ⟨Low.refl _ _, fun _ h => h, rfl, fun k l o h => by simp at h, fun k k' l l' o o' h => by simp at h⟩
theorem law_calls {P : Program} {f : FuncId} {tr : Trans} {args : List SV} {vs : List Value} {W : World} (hc : Contract P f true tr) (ht : tr args [] (fun s _ => s = .v (.bool true))) (ha : SV.IsL [] args vs) :
    Calls P f vs.toArray W fun e W' => e = .returned (.bool true) ∧ Below W.heap.size W W' := by
  refine (hc.calls args [] _ (fun k => W.heap.size ≤ k) W W [] vs ht St.none ha).mono ?_
  rintro e W1 ⟨s, m', t, u, rfl, rfl, hst, hu, _⟩
  simp only [SV.Is] at hu
  subst hu
  exact ⟨rfl, hst.low.below⟩
theorem isL_v {r : List Sy.Loc} : ∀ vs : List Value, SV.IsL r (vs.map SV.v) vs
  | [] => by simp [SV.IsL]
  | v :: vs => by simp only [List.map_cons, SV.IsL, SV.Is]; exact ⟨v, vs, rfl, rfl, isL_v vs⟩
theorem isL_agg {r : List Sy.Loc} (vs : List Value) : SV.Is r (.agg (vs.map SV.v)) (.agg vs.toArray) := by
  simp only [SV.Is]
  exact ⟨vs, rfl, isL_v vs⟩
theorem isL_cons {r : List Sy.Loc} {s : SV} {u : Value} {l : List SV} {us : List Value} (h : SV.Is r s u) (h2 : SV.IsL r l us) : SV.IsL r (s :: l) (u :: us) := by
  simp only [SV.IsL]
  exact ⟨u, us, rfl, h, h2⟩
theorem isL_nil {r : List Sy.Loc} : SV.IsL r [] [] := by simp [SV.IsL]
theorem is_v {r : List Sy.Loc} (v : Value) : SV.Is r (.v v) v := by simp only [SV.Is]
theorem planTells_w (g e : Int) (th0 : Bool) (ep0 sz0 sp0 : Int) (A0 : Option Addr) (n0 c0 : Nat) (th1 : Bool) (ep1 sz1 sp1 : Int) (A1 : Option Addr) (n1 c1 : Nat) (th2 : Bool) (ep2 sz2 sp2 : Int) (A2 : Option Addr) (n2 c2 : Nat) (th3 : Bool) (ep3 sz3 sp3 : Int) (A3 : Option Addr) (n3 c3 : Nat) (w0 w1 w2 w3 w4 w5 w6 w7 : Int) (p : Int) (W : World) :
    Calls Try.prog 8 #[.agg #[.int .i64 g, .int .i64 e, .bool th0, .int .i64 ep0, .int .i64 sz0, .int .i64 sp0, .slice A0 n0 c0, .bool th1, .int .i64 ep1, .int .i64 sz1, .int .i64 sp1, .slice A1 n1 c1, .bool th2, .int .i64 ep2, .int .i64 sz2, .int .i64 sp2, .slice A2 n2 c2, .bool th3, .int .i64 ep3, .int .i64 sz3, .int .i64 sp3, .slice A3 n3 c3], .agg #[.int .i64 w0, .int .i64 w1, .int .i64 w2, .int .i64 w3, .int .i64 w4, .int .i64 w5, .int .i64 w6, .int .i64 w7], .int .i64 p] W fun e W' => e = .returned (.bool true) ∧ Below W.heap.size W W' := by
  refine law_calls (vs := [.agg #[.int .i64 g, .int .i64 e, .bool th0, .int .i64 ep0, .int .i64 sz0, .int .i64 sp0, .slice A0 n0 c0, .bool th1, .int .i64 ep1, .int .i64 sz1, .int .i64 sp1, .slice A1 n1 c1, .bool th2, .int .i64 ep2, .int .i64 sz2, .int .i64 sp2, .slice A2 n2 c2, .bool th3, .int .i64 ep3, .int .i64 sz3, .int .i64 sp3, .slice A3 n3 c3], .agg #[.int .i64 w0, .int .i64 w1, .int .i64 w2, .int .i64 w3, .int .i64 w4, .int .i64 w5, .int .i64 w6, .int .i64 w7], .int .i64 p]) (args := [.agg [.v (.int .i64 g), .v (.int .i64 e), .v (.bool th0), .v (.int .i64 ep0), .v (.int .i64 sz0), .v (.int .i64 sp0), .v (.slice A0 n0 c0), .v (.bool th1), .v (.int .i64 ep1), .v (.int .i64 sz1), .v (.int .i64 sp1), .v (.slice A1 n1 c1), .v (.bool th2), .v (.int .i64 ep2), .v (.int .i64 sz2), .v (.int .i64 sp2), .v (.slice A2 n2 c2), .v (.bool th3), .v (.int .i64 ep3), .v (.int .i64 sz3), .v (.int .i64 sp3), .v (.slice A3 n3 c3)], .agg [.v (.int .i64 w0), .v (.int .i64 w1), .v (.int .i64 w2), .v (.int .i64 w3), .v (.int .i64 w4), .v (.int .i64 w5), .v (.int .i64 w6), .v (.int .i64 w7)], .v (.int .i64 p)]) c8_ok ?_ ?_
  · exact rfl
  · exact isL_cons (isL_agg [.int .i64 g, .int .i64 e, .bool th0, .int .i64 ep0, .int .i64 sz0, .int .i64 sp0, .slice A0 n0 c0, .bool th1, .int .i64 ep1, .int .i64 sz1, .int .i64 sp1, .slice A1 n1 c1, .bool th2, .int .i64 ep2, .int .i64 sz2, .int .i64 sp2, .slice A2 n2 c2, .bool th3, .int .i64 ep3, .int .i64 sz3, .int .i64 sp3, .slice A3 n3 c3]) (isL_cons (isL_agg [.int .i64 w0, .int .i64 w1, .int .i64 w2, .int .i64 w3, .int .i64 w4, .int .i64 w5, .int .i64 w6, .int .i64 w7]) (isL_cons (is_v _) isL_nil))
end Go.Proofs.Ytppndeoiifkkkaa
