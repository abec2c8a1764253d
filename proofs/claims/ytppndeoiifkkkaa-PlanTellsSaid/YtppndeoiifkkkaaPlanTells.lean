/- PlanTells (P49.1): for every ledger, wishes and pages the law returns true, and changes nothing. No condition. -/
import Derived.Test.YtppndeoiifkkkaaLift
import Derived.Test.YtppndeoiifkkkaaPbH
import Derived.Test.YtppndeoiifkkkaaOpen
namespace Go.Proofs.Ytppndeoiifkkkaa.planTells
open Go.ChangeShapes Go.WideShapes Go.ChangeAt Go.RowKit
set_option linter.unusedVariables false
theorem c0 : (Rows.planTellsRow.wf (OpenSpec.ofChange Rows.planTellsSpec)) = true := by kernel_rfl
theorem c3 : (Try.f8.params.all (Try.pinned.checked.prog.readableRec ·)) = true := by kernel_rfl
theorem c4 : (namedTie Try.pinned.checked.prog Rows.planTellsRow.named Rows.planTellsSpec.vars) = true := by kernel_rfl
theorem c5 : ((Rows.planTellsRow.stops == [])) = true := by kernel_rfl
theorem c7 : ((Rows.planTellsRow.knobs == [])) = true := by kernel_rfl
theorem c9 : ((Rows.planTellsRow.inPlace == Try.pinned.checked.prog.inPlace 8)) = true := by kernel_rfl
theorem c10 : ((Rows.planTellsRow.unfollowed == Try.pinned.checked.prog.unfollowed 8)) = true := by kernel_rfl
theorem c11 : ((Rows.planTellsRow.recurses == Try.pinned.checked.prog.recurses 8)) = true := by kernel_rfl
theorem c12 : ((Rows.planTellsRow.named == Try.pinned.checked.prog.varsNamed 8)) = true := by kernel_rfl
theorem c13 : ((Rows.planTellsRow.maps == (Try.f8.params.toList ++ Rows.planTellsSpec.plain.varTypes Try.pinned.checked.prog).any (Try.pinned.checked.prog.mapsRec ·))) = true := by kernel_rfl
theorem c14 : ((Rows.planTellsRow.ifaces == (Try.f8.params.toList ++ Rows.planTellsSpec.plain.varTypes Try.pinned.checked.prog).any (Try.pinned.checked.prog.ifacesRec ·))) = true := by kernel_rfl
theorem c15 : ((Rows.planTellsRow.mapsOut == Try.pinned.checked.prog.mapsAmong Try.f8.resultTypes.toList)) = true := by kernel_rfl
theorem c16 : ((Rows.planTellsRow.loops == (Try.f8.params.toList ++ Rows.planTellsSpec.plain.varTypes Try.pinned.checked.prog).any (Try.pinned.checked.prog.loopsFrom ·))) = true := by kernel_rfl
theorem c17 : ((Rows.planTellsRow.wideKeys == (Try.f8.params.toList ++ Rows.planTellsSpec.plain.varTypes Try.pinned.checked.prog ++ Try.f8.resultTypes.toList).any (Try.pinned.checked.prog.wideKeysFrom ·))) = true := by kernel_rfl
theorem c18 : (Rows.planTellsSpec.vars.all (Try.pinned.checked.prog.varReadable ·)) = true := by kernel_rfl
theorem c19 : (Try.f8.resultTypes.all (fun t => Try.pinned.checked.prog.readableRec t && decide (t < Try.pinned.checked.prog.types.size))) = true := by kernel_rfl
theorem c20 : ((Rows.planTellsRow.ifacesOut == Try.f8.resultTypes.toList.any (Try.pinned.checked.prog.ifacesRec ·))) = true := by kernel_rfl
theorem c21 : ((Rows.planTellsRow.loopsOut == Try.f8.resultTypes.toList.any (Try.pinned.checked.prog.loopsFrom ·))) = true := by kernel_rfl
theorem c22 : ((Rows.planTellsRow.plainKeys == Try.pinned.checked.prog.plainKeys)) = true := by rw [Try.shared22]; kernel_rfl
theorem c23 : (Rows.planTellsRow.shortTexts.isNone) = true := by kernel_rfl
theorem c26 : ((Rows.planTellsRow.lifted == Try.pinned.checked.prog.liftsFinal)) = true := by rw [Try.shared26]; kernel_rfl
theorem c27 : ((Try.pinned.checked.prog.make == some Rows.planTellsRow.make)) = true := by rw [Try.shared27]; kernel_rfl
theorem c29 : ((Rows.planTellsRow.pinned == Rows.planTellsRow.pinnedBy)) = true := by kernel_rfl
theorem c30 : ((Rows.planTellsRow.veiled == (Try.f8.params.toList ++ Rows.planTellsSpec.plain.varTypes Try.pinned.checked.prog ++ Try.f8.resultTypes.toList).any (Try.pinned.checked.prog.veiledRec ·))) = true := by kernel_rfl
theorem c31 : (Rows.planTellsRow.veiledFits Try.pinned.checked.prog Try.f8.params.toList (Try.f8.params.toList ++ Rows.planTellsSpec.plain.varTypes Try.pinned.checked.prog ++ Try.f8.resultTypes.toList)) = true := by kernel_rfl
theorem closed : joinedFacts Try.pinned.checked.prog 8 Try.f8 Rows.planTellsSpec Rows.planTellsRow = true := by
  unfold joinedFacts
  rw [c0, Try.shared1, Try.shared2, c3, c4, c5, Try.shared6, c7, Try.shared8, c9, c10, c11, c12, c13, c14, c15, c16, c17, c18, c19, c20, c21, c22, c23, Try.shared24, Try.shared25, c26, c27, c29, c30, c31]
  kernel_rfl
theorem rd : ∀ t ∈ [65, 68, 3], Try.prog.readableRec t = true ∧ t < Try.prog.types.size := by
  have h : ([65, 68, 3].all fun t => Try.prog.readableRec t && decide (t < Try.prog.types.size)) = true := by kernel_rfl
  intro t ht
  have := List.all_eq_true.1 h t ht
  simpa using this
theorem sh65 : shOf Try.prog 20 65 = some (.int .i64 (.int .i64 (.bool (.int .i64 (.int .i64 (.int .i64 (.sl (.int .i64 .nil) (.bool (.int .i64 (.int .i64 (.int .i64 (.sl (.int .i64 .nil) (.bool (.int .i64 (.int .i64 (.int .i64 (.sl (.int .i64 .nil) (.bool (.int .i64 (.int .i64 (.int .i64 (.sl (.int .i64 .nil) .nil)))))))))))))))))))))) := by kernel_rfl
theorem sh68 : shOf Try.prog 20 68 = some (.int .i64 (.int .i64 (.int .i64 (.int .i64 (.int .i64 (.int .i64 (.int .i64 (.int .i64 .nil)))))))) := by kernel_rfl
set_option maxRecDepth 100000 in
set_option maxHeartbeats 4000000 in
theorem opened {H : Type} {enc : TypeId × Value → H} {W : World} {base : Nat} {args : Array Value} {ds : List (DataW H)} {p : List MemPlace}
    (hval : ∀ (j : Nat) t v, (#[65, 68, 3] : Array TypeId)[j]? = some t → args[j]? = some v → Value.okWide Try.prog W .any base t v) (hA : DataW.TrodAll enc Try.prog W 0 (fun _ => true) true [65, 68, 3] args.toList ds p) :
    Calls Try.prog 8 args W fun e W' => e = .returned (.bool true) ∧ Below W.heap.size W W' := by
  obtain ⟨v0, v1, v2, d0, d1, d2, p0, p1, p2, e, rfl, rfl, h0, h1, h2⟩ := trodAll_three hA
  obtain rfl : args = #[v0, v1, v2] := by cases args; simp_all
  obtain ⟨cs, rfl, g, _, rfl, _, ee, _, rfl, _, th0, _, rfl, ep0, _, rfl, _, sz0, _, rfl, _, sp0, _, rfl, _, s0, _, rfl, hs0, th1, _, rfl, ep1, _, rfl, _, sz1, _, rfl, _, sp1, _, rfl, _, s1, _, rfl, hs1, th2, _, rfl, ep2, _, rfl, _, sz2, _, rfl, _, sp2, _, rfl, _, s2, _, rfl, hs2, th3, _, rfl, ep3, _, rfl, _, sz3, _, rfl, _, sp3, _, rfl, _, s3, _, rfl, hs3, rfl⟩ := open_aggs (by kernel_rfl) sh65 (hval 0 65 v0 rfl rfl) h0
  obtain ⟨ds, rfl, w0, _, rfl, _, w1, _, rfl, _, w2, _, rfl, _, w3, _, rfl, _, w4, _, rfl, _, w5, _, rfl, _, w6, _, rfl, _, w7, _, rfl, _, rfl⟩ := open_aggs (by kernel_rfl) sh68 (hval 1 68 v1 rfl rfl) h1
  obtain ⟨a1, rfl, rfl, rfl, wfa⟩ := open_int Try.underlying3 (hval 2 3 v2 rfl rfl) h2
  obtain ⟨A0, n0, c0, rfl, _⟩ := hs0
  obtain ⟨A1, n1, c1, rfl, _⟩ := hs1
  obtain ⟨A2, n2, c2, rfl, _⟩ := hs2
  obtain ⟨A3, n3, c3, rfl, _⟩ := hs3
  exact planTells_w g ee th0 ep0 sz0 sp0 A0 n0 c0 th1 ep1 sz1 sp1 A1 n1 c1 th2 ep2 sz2 sp2 A2 n2 c2 th3 ep3 sz3 sp3 A3 n3 c3 w0 w1 w2 w3 w4 w5 w6 w7 a1 W
set_option maxRecDepth 100000 in
theorem lifted (os : Os) (started : os.Started) (H : Type) (enc : TypeId × Value → H) :
    ReturnsInHanded {} Try.checked os 8 .any (Rows.planTellsSpec.pre6 enc Try.prog Try.f8 Rows.planTellsRow.domain false) (Rows.planTellsSpec.post enc Try.prog Try.f8 false true false false) := by
  refine returnsInHanded_of_change (C := Try.checked) Try.ownK started (by kernel_rfl) Try.func8
    (ChangeSpec.witness6 (enc := enc) (C := Try.checked) false ⟨#[], #[.agg #[.int .i64 0, .int .i64 0, .bool false, .int .i64 0, .int .i64 0, .int .i64 0, .slice none 0 0, .bool false, .int .i64 0, .int .i64 0, .int .i64 0, .slice none 0 0, .bool false, .int .i64 0, .int .i64 0, .int .i64 0, .slice none 0 0, .bool false, .int .i64 0, .int .i64 0, .int .i64 0, .slice none 0 0], .agg #[.int .i64 0, .int .i64 0, .int .i64 0, .int .i64 0, .int .i64 0, .int .i64 0, .int .i64 0, .int .i64 0], .int .i64 0], []⟩ 12 (by kernel_rfl) (by kernel_rfl) (by kernel_rfl) (by kernel_rfl)) ?_
  intro W base args ds gs before hval0 hW hcnd _
  have hval : ∀ (j : Nat) t v, Try.f8.params[j]? = some t → args[j]? = some v → Value.okWide Try.prog W .any base t v := hval0
  refine law_step (ts := [65, 68, 3]) (by rw [Try.params8]) (by kernel_rfl) rfl rd (fun ds h => match ds, h with | [a0, a1, a2], _ => rfl) hW fun p hA => ?_
  rw [Try.params8] at hval
  exact opened hval hA
theorem over : Rows.planTellsRow.holds Try.pinned (OpenSpec.ofChange Rows.planTellsSpec) :=
  OpenClaim.holds_of_wide 8 Try.f8 rfl rfl rfl rfl rfl rfl rfl ⟨rfl, rfl, rfl, rfl, rfl⟩ rfl rfl rfl rfl rfl (by kernel_rfl) Try.func8 closed
    (of_decide_eq_true (by kernel_rfl)) (by unfold Func.isWrapper; first | (rw [if_pos (by decide +kernel)]; kernel_rfl) | (rw [if_neg (by decide +kernel)]; exact ⟨rfl, rfl⟩))
    (fun os started H enc _ => lifted os started H enc)
theorem proved : Rows.PlanTellsSaid := over
#print axioms proved
end Go.Proofs.Ytppndeoiifkkkaa.planTells

