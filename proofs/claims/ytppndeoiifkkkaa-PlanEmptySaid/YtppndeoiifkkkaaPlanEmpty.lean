/- PlanEmpty (P49.2): for every ledger, wishes and choice the law returns true, and changes nothing. No condition. -/
import Derived.Test.YtppndeoiifkkkaaLift
import Derived.Test.YtppndeoiifkkkaaPeC
import Derived.Test.YtppndeoiifkkkaaSzO
namespace Go.Proofs.Ytppndeoiifkkkaa.planEmpty
open Sz Go.ChangeShapes Go.WideShapes Go.ChangeAt Go.RowKit
set_option linter.unusedVariables false
theorem c0 : (Rows.planEmptyRow.wf (OpenSpec.ofChange Rows.planEmptySpec)) = true := by kernel_rfl
theorem c3 : (Try.f9.params.all (Try.pinned.checked.prog.readableRec ·)) = true := by kernel_rfl
theorem c4 : (namedTie Try.pinned.checked.prog Rows.planEmptyRow.named Rows.planEmptySpec.vars) = true := by kernel_rfl
theorem c5 : ((Rows.planEmptyRow.stops == [])) = true := by kernel_rfl
theorem c7 : ((Rows.planEmptyRow.knobs == [])) = true := by kernel_rfl
theorem c9 : ((Rows.planEmptyRow.inPlace == Try.pinned.checked.prog.inPlace 9)) = true := by kernel_rfl
theorem c10 : ((Rows.planEmptyRow.unfollowed == Try.pinned.checked.prog.unfollowed 9)) = true := by kernel_rfl
theorem c11 : ((Rows.planEmptyRow.recurses == Try.pinned.checked.prog.recurses 9)) = true := by kernel_rfl
theorem c12 : ((Rows.planEmptyRow.named == Try.pinned.checked.prog.varsNamed 9)) = true := by kernel_rfl
theorem c13 : ((Rows.planEmptyRow.maps == (Try.f9.params.toList ++ Rows.planEmptySpec.plain.varTypes Try.pinned.checked.prog).any (Try.pinned.checked.prog.mapsRec ·))) = true := by kernel_rfl
theorem c14 : ((Rows.planEmptyRow.ifaces == (Try.f9.params.toList ++ Rows.planEmptySpec.plain.varTypes Try.pinned.checked.prog).any (Try.pinned.checked.prog.ifacesRec ·))) = true := by kernel_rfl
theorem c15 : ((Rows.planEmptyRow.mapsOut == Try.pinned.checked.prog.mapsAmong Try.f9.resultTypes.toList)) = true := by kernel_rfl
theorem c16 : ((Rows.planEmptyRow.loops == (Try.f9.params.toList ++ Rows.planEmptySpec.plain.varTypes Try.pinned.checked.prog).any (Try.pinned.checked.prog.loopsFrom ·))) = true := by kernel_rfl
theorem c17 : ((Rows.planEmptyRow.wideKeys == (Try.f9.params.toList ++ Rows.planEmptySpec.plain.varTypes Try.pinned.checked.prog ++ Try.f9.resultTypes.toList).any (Try.pinned.checked.prog.wideKeysFrom ·))) = true := by kernel_rfl
theorem c18 : (Rows.planEmptySpec.vars.all (Try.pinned.checked.prog.varReadable ·)) = true := by kernel_rfl
theorem c19 : (Try.f9.resultTypes.all (fun t => Try.pinned.checked.prog.readableRec t && decide (t < Try.pinned.checked.prog.types.size))) = true := by kernel_rfl
theorem c20 : ((Rows.planEmptyRow.ifacesOut == Try.f9.resultTypes.toList.any (Try.pinned.checked.prog.ifacesRec ·))) = true := by kernel_rfl
theorem c21 : ((Rows.planEmptyRow.loopsOut == Try.f9.resultTypes.toList.any (Try.pinned.checked.prog.loopsFrom ·))) = true := by kernel_rfl
theorem c22 : ((Rows.planEmptyRow.plainKeys == Try.pinned.checked.prog.plainKeys)) = true := by rw [Try.shared22]; kernel_rfl
theorem c23 : (Rows.planEmptyRow.shortTexts.isNone) = true := by kernel_rfl
theorem c26 : ((Rows.planEmptyRow.lifted == Try.pinned.checked.prog.liftsFinal)) = true := by rw [Try.shared26]; kernel_rfl
theorem c27 : ((Try.pinned.checked.prog.make == some Rows.planEmptyRow.make)) = true := by rw [Try.shared27]; kernel_rfl
theorem c29 : ((Rows.planEmptyRow.pinned == Rows.planEmptyRow.pinnedBy)) = true := by kernel_rfl
theorem c30 : ((Rows.planEmptyRow.veiled == (Try.f9.params.toList ++ Rows.planEmptySpec.plain.varTypes Try.pinned.checked.prog ++ Try.f9.resultTypes.toList).any (Try.pinned.checked.prog.veiledRec ·))) = true := by kernel_rfl
theorem c31 : (Rows.planEmptyRow.veiledFits Try.pinned.checked.prog Try.f9.params.toList (Try.f9.params.toList ++ Rows.planEmptySpec.plain.varTypes Try.pinned.checked.prog ++ Try.f9.resultTypes.toList)) = true := by kernel_rfl
theorem closed : joinedFacts Try.pinned.checked.prog 9 Try.f9 Rows.planEmptySpec Rows.planEmptyRow = true := by
  unfold joinedFacts
  rw [c0, Try.shared1, Try.shared2, c3, c4, c5, Try.shared6, c7, Try.shared8, c9, c10, c11, c12, c13, c14, c15, c16, c17, c18, c19, c20, c21, c22, c23, Try.shared24, Try.shared25, c26, c27, c29, c30, c31]
  kernel_rfl
theorem rd : ∀ t ∈ [65, 68, 4], Try.prog.readableRec t = true ∧ t < Try.prog.types.size := by
  have h : ([65, 68, 4].all fun t => Try.prog.readableRec t && decide (t < Try.prog.types.size)) = true := by kernel_rfl
  intro t ht
  have := List.all_eq_true.1 h t ht
  simpa using this
theorem sh65 : shOf Try.prog 20 65 = some (.int .i64 (.int .i64 (.bool (.int .i64 (.int .i64 (.int .i64 (.sl (.int .i64 .nil) (.bool (.int .i64 (.int .i64 (.int .i64 (.sl (.int .i64 .nil) (.bool (.int .i64 (.int .i64 (.int .i64 (.sl (.int .i64 .nil) (.bool (.int .i64 (.int .i64 (.int .i64 (.sl (.int .i64 .nil) .nil)))))))))))))))))))))) := by kernel_rfl
theorem sh68 : shOf Try.prog 20 68 = some (.int .i64 (.int .i64 (.int .i64 (.int .i64 (.int .i64 (.int .i64 (.int .i64 (.int .i64 .nil)))))))) := by kernel_rfl
theorem rowI (l : List Int) : rowV (fun x : Int => [Value.int .i64 x]) l = l.map (Value.int .i64) := by
  induction l with
  | nil => rfl
  | cons x l ih =>
    have : rowV (fun x : Int => [Value.int .i64 x]) (x :: l) = .int .i64 x :: rowV (fun x : Int => [Value.int .i64 x]) l := rfl
    rw [this, ih]; rfl
set_option maxHeartbeats 4000000 in
set_option maxRecDepth 100000 in
theorem opened {H : Type} {enc : TypeId × Value → H} {W : World} {base : Nat} {args : Array Value} {ds : List (DataW H)} {p : List MemPlace}
    (hval : ∀ (j : Nat) t v, (#[65, 68, 4] : Array TypeId)[j]? = some t → args[j]? = some v → Value.okWide Try.prog W .any base t v) (hA : DataW.TrodAll enc Try.prog W 0 (fun _ => true) true [65, 68, 4] args.toList ds p) :
    Calls Try.prog 9 args W fun e W' => e = .returned (.bool true) ∧ Below W.heap.size W W' := by
  obtain ⟨v0, v1, v2, d0, d1, d2, p0, p1, p2, e, rfl, rfl, h0, h1, h2⟩ := trodAll_three hA
  obtain rfl : args = #[v0, v1, v2] := by cases args; simp_all
  obtain ⟨cs, rfl, g, _, rfl, _, ee, _, rfl, _, th0, _, rfl, ep0, _, rfl, _, sz0, _, rfl, _, sp0, _, rfl, _, s0, _, rfl, hs0, th1, _, rfl, ep1, _, rfl, _, sz1, _, rfl, _, sp1, _, rfl, _, s1, _, rfl, hs1, th2, _, rfl, ep2, _, rfl, _, sz2, _, rfl, _, sp2, _, rfl, _, s2, _, rfl, hs2, th3, _, rfl, ep3, _, rfl, _, sz3, _, rfl, _, sp3, _, rfl, _, s3, _, rfl, hs3, rfl⟩ := open_aggs (by kernel_rfl) sh65 (hval 0 65 v0 rfl rfl) h0
  obtain ⟨ds, rfl, w0, _, rfl, _, w1, _, rfl, _, w2, _, rfl, _, w3, _, rfl, _, w4, _, rfl, _, w5, _, rfl, _, w6, _, rfl, _, w7, _, rfl, _, rfl⟩ := open_aggs (by kernel_rfl) sh68 (hval 1 68 v1 rfl rfl) h1
  obtain ⟨a1, rfl, rfl, rfl⟩ := open_bool Try.underlying4 (hval 2 4 v2 rfl rfl) h2
  obtain ⟨A0, n0, c0, l0, rfl, hn0, hc0, hl0, _, hin0⟩ := rows_of_sl (cs := fun x : Int => [Value.int .i64 x]) (Q := fun _ => True) (fun _ => rfl) (by decide) hs0 (fun l hf => by
    obtain ⟨a, _, rfl, _, rfl⟩ := hf
    exact ⟨a, rfl, trivial⟩)
  rw [Nat.mul_one, rowI] at hin0
  obtain ⟨A1, n1, c1, l1, rfl, hn1, hc1, hl1, _, hin1⟩ := rows_of_sl (cs := fun x : Int => [Value.int .i64 x]) (Q := fun _ => True) (fun _ => rfl) (by decide) hs1 (fun l hf => by
    obtain ⟨a, _, rfl, _, rfl⟩ := hf
    exact ⟨a, rfl, trivial⟩)
  rw [Nat.mul_one, rowI] at hin1
  obtain ⟨A2, n2, c2, l2, rfl, hn2, hc2, hl2, _, hin2⟩ := rows_of_sl (cs := fun x : Int => [Value.int .i64 x]) (Q := fun _ => True) (fun _ => rfl) (by decide) hs2 (fun l hf => by
    obtain ⟨a, _, rfl, _, rfl⟩ := hf
    exact ⟨a, rfl, trivial⟩)
  rw [Nat.mul_one, rowI] at hin2
  obtain ⟨A3, n3, c3, l3, rfl, hn3, hc3, hl3, _, hin3⟩ := rows_of_sl (cs := fun x : Int => [Value.int .i64 x]) (Q := fun _ => True) (fun _ => rfl) (by decide) hs3 (fun l hf => by
    obtain ⟨a, _, rfl, _, rfl⟩ := hf
    exact ⟨a, rfl, trivial⟩)
  rw [Nat.mul_one, rowI] at hin3
  refine law_read (tr := fun I => @Ytppndeoiifkkkaa.d9 I) (args := [.agg ([.int .i64 g, .int .i64 ee, .bool th0, .int .i64 ep0, .int .i64 sz0, .int .i64 sp0, .slice A0 n0 c0, .bool th1, .int .i64 ep1, .int .i64 sz1, .int .i64 sp1, .slice A1 n1 c1, .bool th2, .int .i64 ep2, .int .i64 sz2, .int .i64 sp2, .slice A2 n2 c2, .bool th3, .int .i64 ep3, .int .i64 sz3, .int .i64 sp3, .slice A3 n3 c3] : List Value).toArray, .agg ([.int .i64 w0, .int .i64 w1, .int .i64 w2, .int .i64 w3, .int .i64 w4, .int .i64 w5, .int .i64 w6, .int .i64 w7] : List Value).toArray, .bool a1]) (fun I => @Ytppndeoiifkkkaa.d9_ok I) ?_
  show @Ytppndeoiifkkkaa.d9 (inpOf W) [.agg [.v (.int .i64 g), .v (.int .i64 ee), .v (.bool th0), .v (.int .i64 ep0), .v (.int .i64 sz0), .v (.int .i64 sp0), .v (.slice A0 n0 c0), .v (.bool th1), .v (.int .i64 ep1), .v (.int .i64 sz1), .v (.int .i64 sp1), .v (.slice A1 n1 c1), .v (.bool th2), .v (.int .i64 ep2), .v (.int .i64 sz2), .v (.int .i64 sp2), .v (.slice A2 n2 c2), .v (.bool th3), .v (.int .i64 ep3), .v (.int .i64 sz3), .v (.int .i64 sp3), .v (.slice A3 n3 c3)], .agg [.v (.int .i64 w0), .v (.int .i64 w1), .v (.int .i64 w2), .v (.int .i64 w3), .v (.int .i64 w4), .v (.int .i64 w5), .v (.int .i64 w6), .v (.int .i64 w7)], .v (.bool a1)] [] _
  have e1 : decTz [.v (.bool th0), .v (.int .i64 ep0), .v (.int .i64 sz0), .v (.int .i64 sp0), .v (.slice A0 n0 c0), .v (.bool th1), .v (.int .i64 ep1), .v (.int .i64 sz1), .v (.int .i64 sp1), .v (.slice A1 n1 c1), .v (.bool th2), .v (.int .i64 ep2), .v (.int .i64 sz2), .v (.int .i64 sp2), .v (.slice A2 n2 c2), .v (.bool th3), .v (.int .i64 ep3), .v (.int .i64 sz3), .v (.int .i64 sp3), .v (.slice A3 n3 c3)] = some ([⟨th0, ep0, sz0, sp0, A0, n0, c0⟩, ⟨th1, ep1, sz1, sp1, A1, n1, c1⟩, ⟨th2, ep2, sz2, sp2, A2, n2, c2⟩, ⟨th3, ep3, sz3, sp3, A3, n3, c3⟩] : List Tn) := rfl
  have e2 : decWz [.v (.int .i64 w0), .v (.int .i64 w1), .v (.int .i64 w2), .v (.int .i64 w3), .v (.int .i64 w4), .v (.int .i64 w5), .v (.int .i64 w6), .v (.int .i64 w7)] = some ([⟨w0, w1⟩, ⟨w2, w3⟩, ⟨w4, w5⟩, ⟨w6, w7⟩] : List Wi) := rfl
  unfold Ytppndeoiifkkkaa.d9
  simp only [e1, e2, optK]
  refine ⟨⟨rfl, rfl, fun t ht => ?_⟩, trivial⟩
  simp only [List.mem_cons, List.mem_nil_iff, or_false] at ht
  rcases ht with rfl | rfl | rfl | rfl
  · exact ⟨by simp only; omega, l0, hl0, hin0⟩
  · exact ⟨by simp only; omega, l1, hl1, hin1⟩
  · exact ⟨by simp only; omega, l2, hl2, hin2⟩
  · exact ⟨by simp only; omega, l3, hl3, hin3⟩

set_option maxRecDepth 100000 in
theorem lifted (os : Os) (started : os.Started) (H : Type) (enc : TypeId × Value → H) :
    ReturnsInHanded {} Try.checked os 9 .any (Rows.planEmptySpec.pre6 enc Try.prog Try.f9 Rows.planEmptyRow.domain false) (Rows.planEmptySpec.post enc Try.prog Try.f9 false true false false) := by
  refine returnsInHanded_of_change (C := Try.checked) Try.ownK started (by kernel_rfl) Try.func9
    (ChangeSpec.witness6 (enc := enc) (C := Try.checked) false ⟨#[], #[.agg #[.int .i64 0, .int .i64 0, .bool false, .int .i64 0, .int .i64 0, .int .i64 0, .slice none 0 0, .bool false, .int .i64 0, .int .i64 0, .int .i64 0, .slice none 0 0, .bool false, .int .i64 0, .int .i64 0, .int .i64 0, .slice none 0 0, .bool false, .int .i64 0, .int .i64 0, .int .i64 0, .slice none 0 0], .agg #[.int .i64 0, .int .i64 0, .int .i64 0, .int .i64 0, .int .i64 0, .int .i64 0, .int .i64 0, .int .i64 0], .bool false], []⟩ 12 (by kernel_rfl) (by kernel_rfl) (by kernel_rfl) (by kernel_rfl)) ?_
  intro W base args ds gs before hval0 hW hcnd _
  have hval : ∀ (j : Nat) t v, Try.f9.params[j]? = some t → args[j]? = some v → Value.okWide Try.prog W .any base t v := hval0
  refine law_step (ts := [65, 68, 4]) (by rw [Try.params9]) (by kernel_rfl) rfl rd (fun ds h => match ds, h with | [a0, a1, a2], _ => rfl) hW fun p hA => ?_
  rw [Try.params9] at hval
  exact opened hval hA
theorem over : Rows.planEmptyRow.holds Try.pinned (OpenSpec.ofChange Rows.planEmptySpec) :=
  OpenClaim.holds_of_wide 9 Try.f9 rfl rfl rfl rfl rfl rfl rfl ⟨rfl, rfl, rfl, rfl, rfl⟩ rfl rfl rfl rfl rfl (by kernel_rfl) Try.func9 closed
    (of_decide_eq_true (by kernel_rfl)) (by unfold Func.isWrapper; first | (rw [if_pos (by decide +kernel)]; kernel_rfl) | (rw [if_neg (by decide +kernel)]; exact ⟨rfl, rfl⟩))
    (fun os started H enc _ => lifted os started H enc)
theorem proved : Rows.PlanEmptySaid := over
#print axioms proved
end Go.Proofs.Ytppndeoiifkkkaa.planEmpty
