/- TurnWaits (P42.1): for every slot and all four queues the law returns true, and changes nothing. No condition. -/
import Derived.Test.YtppndeoiifkkkaaLift
import Derived.Test.YtppndeoiifkkkaaTurnI
import Derived.Test.YtppndeoiifkkkaaOpen
namespace Go.Proofs.Ytppndeoiifkkkaa.turnWaits
open Go.ChangeShapes Go.WideShapes Go.ChangeAt Go.RowKit
set_option linter.unusedVariables false
theorem c0 : (Rows.turnWaitsRow.wf (OpenSpec.ofChange Rows.turnWaitsSpec)) = true := by kernel_rfl
theorem c3 : (Try.f5.params.all (Try.pinned.checked.prog.readableRec ·)) = true := by kernel_rfl
theorem c4 : (namedTie Try.pinned.checked.prog Rows.turnWaitsRow.named Rows.turnWaitsSpec.vars) = true := by kernel_rfl
theorem c5 : ((Rows.turnWaitsRow.stops == [])) = true := by kernel_rfl
theorem c7 : ((Rows.turnWaitsRow.knobs == [])) = true := by kernel_rfl
theorem c9 : ((Rows.turnWaitsRow.inPlace == Try.pinned.checked.prog.inPlace 5)) = true := by kernel_rfl
theorem c10 : ((Rows.turnWaitsRow.unfollowed == Try.pinned.checked.prog.unfollowed 5)) = true := by kernel_rfl
theorem c11 : ((Rows.turnWaitsRow.recurses == Try.pinned.checked.prog.recurses 5)) = true := by kernel_rfl
theorem c12 : ((Rows.turnWaitsRow.named == Try.pinned.checked.prog.varsNamed 5)) = true := by kernel_rfl
theorem c13 : ((Rows.turnWaitsRow.maps == (Try.f5.params.toList ++ Rows.turnWaitsSpec.plain.varTypes Try.pinned.checked.prog).any (Try.pinned.checked.prog.mapsRec ·))) = true := by kernel_rfl
theorem c14 : ((Rows.turnWaitsRow.ifaces == (Try.f5.params.toList ++ Rows.turnWaitsSpec.plain.varTypes Try.pinned.checked.prog).any (Try.pinned.checked.prog.ifacesRec ·))) = true := by kernel_rfl
theorem c15 : ((Rows.turnWaitsRow.mapsOut == Try.pinned.checked.prog.mapsAmong Try.f5.resultTypes.toList)) = true := by kernel_rfl
theorem c16 : ((Rows.turnWaitsRow.loops == (Try.f5.params.toList ++ Rows.turnWaitsSpec.plain.varTypes Try.pinned.checked.prog).any (Try.pinned.checked.prog.loopsFrom ·))) = true := by kernel_rfl
theorem c17 : ((Rows.turnWaitsRow.wideKeys == (Try.f5.params.toList ++ Rows.turnWaitsSpec.plain.varTypes Try.pinned.checked.prog ++ Try.f5.resultTypes.toList).any (Try.pinned.checked.prog.wideKeysFrom ·))) = true := by kernel_rfl
theorem c18 : (Rows.turnWaitsSpec.vars.all (Try.pinned.checked.prog.varReadable ·)) = true := by kernel_rfl
theorem c19 : (Try.f5.resultTypes.all (fun t => Try.pinned.checked.prog.readableRec t && decide (t < Try.pinned.checked.prog.types.size))) = true := by kernel_rfl
theorem c20 : ((Rows.turnWaitsRow.ifacesOut == Try.f5.resultTypes.toList.any (Try.pinned.checked.prog.ifacesRec ·))) = true := by kernel_rfl
theorem c21 : ((Rows.turnWaitsRow.loopsOut == Try.f5.resultTypes.toList.any (Try.pinned.checked.prog.loopsFrom ·))) = true := by kernel_rfl
theorem c22 : ((Rows.turnWaitsRow.plainKeys == Try.pinned.checked.prog.plainKeys)) = true := by rw [Try.shared22]; kernel_rfl
theorem c23 : (Rows.turnWaitsRow.shortTexts.isNone) = true := by kernel_rfl
theorem c26 : ((Rows.turnWaitsRow.lifted == Try.pinned.checked.prog.liftsFinal)) = true := by rw [Try.shared26]; kernel_rfl
theorem c27 : ((Try.pinned.checked.prog.make == some Rows.turnWaitsRow.make)) = true := by rw [Try.shared27]; kernel_rfl
theorem c29 : ((Rows.turnWaitsRow.pinned == Rows.turnWaitsRow.pinnedBy)) = true := by kernel_rfl
theorem c30 : ((Rows.turnWaitsRow.veiled == (Try.f5.params.toList ++ Rows.turnWaitsSpec.plain.varTypes Try.pinned.checked.prog ++ Try.f5.resultTypes.toList).any (Try.pinned.checked.prog.veiledRec ·))) = true := by kernel_rfl
theorem c31 : (Rows.turnWaitsRow.veiledFits Try.pinned.checked.prog Try.f5.params.toList (Try.f5.params.toList ++ Rows.turnWaitsSpec.plain.varTypes Try.pinned.checked.prog ++ Try.f5.resultTypes.toList)) = true := by kernel_rfl
theorem closed : joinedFacts Try.pinned.checked.prog 5 Try.f5 Rows.turnWaitsSpec Rows.turnWaitsRow = true := by
  unfold joinedFacts
  rw [c0, Try.shared1, Try.shared2, c3, c4, c5, Try.shared6, c7, Try.shared8, c9, c10, c11, c12, c13, c14, c15, c16, c17, c18, c19, c20, c21, c22, c23, Try.shared24, Try.shared25, c26, c27, c29, c30, c31]
  kernel_rfl
theorem rd : ∀ t ∈ [3, 36], Try.prog.readableRec t = true ∧ t < Try.prog.types.size := by
  have h : ([3, 36].all fun t => Try.prog.readableRec t && decide (t < Try.prog.types.size)) = true := by kernel_rfl
  intro t ht
  have := List.all_eq_true.1 h t ht
  simpa using this
theorem sh36 : shOf Try.prog 10 36 = some (.int .i64 (.int .i64 (.int .i64 (.int .i64 .nil)))) := by kernel_rfl
set_option maxRecDepth 100000 in
theorem opened {H : Type} {enc : TypeId × Value → H} {W : World} {base : Nat} {args : Array Value} {ds : List (DataW H)} {p : List MemPlace}
    (hval : ∀ (j : Nat) t v, (#[3, 36] : Array TypeId)[j]? = some t → args[j]? = some v → Value.okWide Try.prog W .any base t v) (hA : DataW.TrodAll enc Try.prog W 0 (fun _ => true) true [3, 36] args.toList ds p) :
    Calls Try.prog 5 args W fun e W' => e = .returned (.bool true) ∧ Below W.heap.size W W' := by
  obtain ⟨v0, v1, d0, d1, p0, p1, e, rfl, rfl, h0, h1⟩ := trodAll_two hA
  obtain rfl : args = #[v0, v1] := by cases args; simp_all
  obtain ⟨a0, rfl, rfl, rfl, w0⟩ := open_int Try.underlying3 (hval 0 3 v0 rfl rfl) h0
  obtain ⟨cs, rfl, a, _, rfl, _, b, _, rfl, _, c, _, rfl, _, d, _, rfl, _, rfl⟩ := open_aggs (by kernel_rfl) sh36 (hval 1 36 v1 rfl rfl) h1
  exact turnWaits_w a0 a b c d W
set_option maxRecDepth 100000 in
theorem lifted (os : Os) (started : os.Started) (H : Type) (enc : TypeId × Value → H) :
    ReturnsInHanded {} Try.checked os 5 .any (Rows.turnWaitsSpec.pre6 enc Try.prog Try.f5 Rows.turnWaitsRow.domain false) (Rows.turnWaitsSpec.post enc Try.prog Try.f5 false true false false) := by
  refine returnsInHanded_of_change (C := Try.checked) Try.ownK started (by kernel_rfl) Try.func5
    (ChangeSpec.witness6 (enc := enc) (C := Try.checked) false ⟨#[], #[.int .i64 0, .agg #[.int .i64 0, .int .i64 0, .int .i64 0, .int .i64 0]], []⟩ 12 (by kernel_rfl) (by kernel_rfl) (by kernel_rfl) (by kernel_rfl)) ?_
  intro W base args ds gs before hval0 hW hcnd _
  have hval : ∀ (j : Nat) t v, Try.f5.params[j]? = some t → args[j]? = some v → Value.okWide Try.prog W .any base t v := hval0
  refine law_step (ts := [3, 36]) (by rw [Try.params5]) (by kernel_rfl) rfl rd (fun ds h => match ds, h with | [a0, a1], _ => rfl) hW fun p hA => ?_
  rw [Try.params5] at hval
  exact opened hval hA
theorem over : Rows.turnWaitsRow.holds Try.pinned (OpenSpec.ofChange Rows.turnWaitsSpec) :=
  OpenClaim.holds_of_wide 5 Try.f5 rfl rfl rfl rfl rfl rfl rfl ⟨rfl, rfl, rfl, rfl, rfl⟩ rfl rfl rfl rfl rfl (by kernel_rfl) Try.func5 closed
    (of_decide_eq_true (by kernel_rfl)) (by unfold Func.isWrapper; first | (rw [if_pos (by decide +kernel)]; kernel_rfl) | (rw [if_neg (by decide +kernel)]; exact ⟨rfl, rfl⟩))
    (fun os started H enc _ => lifted os started H enc)
theorem proved : Rows.TurnWaitsSaid := over
#print axioms proved
end Go.Proofs.Ytppndeoiifkkkaa.turnWaits
