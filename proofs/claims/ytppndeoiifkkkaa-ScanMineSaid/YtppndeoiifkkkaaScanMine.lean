/- ScanMine (P16.1): for every page found, tenant and epoch the law returns true, and changes nothing. No condition. -/
import Derived.Test.YtppndeoiifkkkaaLift
import Derived.Test.YtppndeoiifkkkaaScB
import Derived.Test.YtppndeoiifkkkaaSzO
namespace Go.Proofs.Ytppndeoiifkkkaa.scanMine
open Sz Go.ChangeShapes Go.WideShapes Go.ChangeAt Go.RowKit
set_option linter.unusedVariables false
theorem c0 : (Rows.scanMineRow.wf (OpenSpec.ofChange Rows.scanMineSpec)) = true := by kernel_rfl
theorem c3 : (Try.f15.params.all (Try.pinned.checked.prog.readableRec ·)) = true := by kernel_rfl
theorem c4 : (namedTie Try.pinned.checked.prog Rows.scanMineRow.named Rows.scanMineSpec.vars) = true := by kernel_rfl
theorem c5 : ((Rows.scanMineRow.stops == [])) = true := by kernel_rfl
theorem c7 : ((Rows.scanMineRow.knobs == [])) = true := by kernel_rfl
theorem c9 : ((Rows.scanMineRow.inPlace == Try.pinned.checked.prog.inPlace 15)) = true := by kernel_rfl
theorem c10 : ((Rows.scanMineRow.unfollowed == Try.pinned.checked.prog.unfollowed 15)) = true := by kernel_rfl
theorem c11 : ((Rows.scanMineRow.recurses == Try.pinned.checked.prog.recurses 15)) = true := by kernel_rfl
theorem c12 : ((Rows.scanMineRow.named == Try.pinned.checked.prog.varsNamed 15)) = true := by kernel_rfl
theorem c13 : ((Rows.scanMineRow.maps == (Try.f15.params.toList ++ Rows.scanMineSpec.plain.varTypes Try.pinned.checked.prog).any (Try.pinned.checked.prog.mapsRec ·))) = true := by kernel_rfl
theorem c14 : ((Rows.scanMineRow.ifaces == (Try.f15.params.toList ++ Rows.scanMineSpec.plain.varTypes Try.pinned.checked.prog).any (Try.pinned.checked.prog.ifacesRec ·))) = true := by kernel_rfl
theorem c15 : ((Rows.scanMineRow.mapsOut == Try.pinned.checked.prog.mapsAmong Try.f15.resultTypes.toList)) = true := by kernel_rfl
theorem c16 : ((Rows.scanMineRow.loops == (Try.f15.params.toList ++ Rows.scanMineSpec.plain.varTypes Try.pinned.checked.prog).any (Try.pinned.checked.prog.loopsFrom ·))) = true := by kernel_rfl
theorem c17 : ((Rows.scanMineRow.wideKeys == (Try.f15.params.toList ++ Rows.scanMineSpec.plain.varTypes Try.pinned.checked.prog ++ Try.f15.resultTypes.toList).any (Try.pinned.checked.prog.wideKeysFrom ·))) = true := by kernel_rfl
theorem c18 : (Rows.scanMineSpec.vars.all (Try.pinned.checked.prog.varReadable ·)) = true := by kernel_rfl
theorem c19 : (Try.f15.resultTypes.all (fun t => Try.pinned.checked.prog.readableRec t && decide (t < Try.pinned.checked.prog.types.size))) = true := by kernel_rfl
theorem c20 : ((Rows.scanMineRow.ifacesOut == Try.f15.resultTypes.toList.any (Try.pinned.checked.prog.ifacesRec ·))) = true := by kernel_rfl
theorem c21 : ((Rows.scanMineRow.loopsOut == Try.f15.resultTypes.toList.any (Try.pinned.checked.prog.loopsFrom ·))) = true := by kernel_rfl
theorem c22 : ((Rows.scanMineRow.plainKeys == Try.pinned.checked.prog.plainKeys)) = true := by rw [Try.shared22]; kernel_rfl
theorem c23 : (Rows.scanMineRow.shortTexts.isNone) = true := by kernel_rfl
theorem c26 : ((Rows.scanMineRow.lifted == Try.pinned.checked.prog.liftsFinal)) = true := by rw [Try.shared26]; kernel_rfl
theorem c27 : ((Try.pinned.checked.prog.make == some Rows.scanMineRow.make)) = true := by rw [Try.shared27]; kernel_rfl
theorem c29 : ((Rows.scanMineRow.pinned == Rows.scanMineRow.pinnedBy)) = true := by kernel_rfl
theorem c30 : ((Rows.scanMineRow.veiled == (Try.f15.params.toList ++ Rows.scanMineSpec.plain.varTypes Try.pinned.checked.prog ++ Try.f15.resultTypes.toList).any (Try.pinned.checked.prog.veiledRec ·))) = true := by kernel_rfl
theorem c31 : (Rows.scanMineRow.veiledFits Try.pinned.checked.prog Try.f15.params.toList (Try.f15.params.toList ++ Rows.scanMineSpec.plain.varTypes Try.pinned.checked.prog ++ Try.f15.resultTypes.toList)) = true := by kernel_rfl
theorem closed : joinedFacts Try.pinned.checked.prog 15 Try.f15 Rows.scanMineSpec Rows.scanMineRow = true := by
  unfold joinedFacts
  rw [c0, Try.shared1, Try.shared2, c3, c4, c5, Try.shared6, c7, Try.shared8, c9, c10, c11, c12, c13, c14, c15, c16, c17, c18, c19, c20, c21, c22, c23, Try.shared24, Try.shared25, c26, c27, c29, c30, c31]
  kernel_rfl
theorem rd : ∀ t ∈ [125, 3, 3], Try.prog.readableRec t = true ∧ t < Try.prog.types.size := by
  have h : ([125, 3, 3].all fun t => Try.prog.readableRec t && decide (t < Try.prog.types.size)) = true := by kernel_rfl
  intro t ht
  have := List.all_eq_true.1 h t ht
  simpa using this
theorem sh125 : shOf Try.prog 20 125 = some (.int .i64 (.int .i64 (.bool (.int .i64 (.int .i64 (.int .i64 (.int .i64 (.int .i64 (.bool (.str .nil)))))))))) := by kernel_rfl
set_option maxHeartbeats 4000000 in
set_option maxRecDepth 100000 in
theorem opened {H : Type} {enc : TypeId × Value → H} {W : World} {base : Nat} {args : Array Value} {ds : List (DataW H)} {p : List MemPlace}
    (hval : ∀ (j : Nat) t v, (#[125, 3, 3] : Array TypeId)[j]? = some t → args[j]? = some v → Value.okWide Try.prog W .any base t v) (hA : DataW.TrodAll enc Try.prog W 0 (fun _ => true) true [125, 3, 3] args.toList ds p) :
    Calls Try.prog 15 args W fun e W' => e = .returned (.bool true) ∧ Below W.heap.size W W' := by
  obtain ⟨v0, v1, v2, d0, d1, d2, p0, p1, p2, e0, rfl, rfl, h0, h1, h2⟩ := trodAll_three hA
  obtain rfl : args = #[v0, v1, v2] := by cases args; simp_all
  obtain ⟨cs, rfl, b, _, rfl, _, p, _, rfl, _, torn, _, rfl, t, _, rfl, _, e, _, rfl, _, pl, _, rfl, _, sq, _, rfl, _, kd, _, rfl, _, cp, _, rfl, d, _, rfl, _, rfl⟩ := open_aggs (by kernel_rfl) sh125 (hval 0 125 v0 rfl rfl) h0
  obtain ⟨a1, rfl, rfl, rfl, _⟩ := open_int Try.underlying3 (hval 1 3 v1 rfl rfl) h1
  obtain ⟨a2, rfl, rfl, rfl, _⟩ := open_int Try.underlying3 (hval 2 3 v2 rfl rfl) h2
  refine law_read (tr := fun I => @Ytppndeoiifkkkaa.c15 I) (args := [.agg ([.int .i64 b, .int .i64 p, .bool torn, .int .i64 t, .int .i64 e, .int .i64 pl, .int .i64 sq, .int .i64 kd, .bool cp, .string d] : List Value).toArray, .int .i64 a1, .int .i64 a2]) (fun I => @Ytppndeoiifkkkaa.c15_ok I) ?_
  show @Ytppndeoiifkkkaa.c15 (inpOf W) [.agg [.v (.int .i64 b), .v (.int .i64 p), .v (.bool torn), .v (.int .i64 t), .v (.int .i64 e), .v (.int .i64 pl), .v (.int .i64 sq), .v (.int .i64 kd), .v (.bool cp), .v (.string d)], .v (.int .i64 a1), .v (.int .i64 a2)] [] _
  unfold Ytppndeoiifkkkaa.c15
  trivial

set_option maxRecDepth 100000 in
theorem lifted (os : Os) (started : os.Started) (H : Type) (enc : TypeId × Value → H) :
    ReturnsInHanded {} Try.checked os 15 .any (Rows.scanMineSpec.pre6 enc Try.prog Try.f15 Rows.scanMineRow.domain false) (Rows.scanMineSpec.post enc Try.prog Try.f15 false true false false) := by
  refine returnsInHanded_of_change (C := Try.checked) Try.ownK started (by kernel_rfl) Try.func15
    (ChangeSpec.witness6 (enc := enc) (C := Try.checked) false ⟨#[], #[.agg #[.int .i64 0, .int .i64 0, .bool false, .int .i64 0, .int .i64 0, .int .i64 0, .int .i64 0, .int .i64 0, .bool false, .string ⟨#[]⟩], .int .i64 0, .int .i64 0], []⟩ 12 (by kernel_rfl) (by kernel_rfl) (by kernel_rfl) (by kernel_rfl)) ?_
  intro W base args ds gs before hval0 hW hcnd _
  have hval : ∀ (j : Nat) t v, Try.f15.params[j]? = some t → args[j]? = some v → Value.okWide Try.prog W .any base t v := hval0
  refine law_step (ts := [125, 3, 3]) (by rw [Try.params15]) (by kernel_rfl) rfl rd (fun ds h => match ds, h with | [a0, a1, a2], _ => rfl) hW fun p hA => ?_
  rw [Try.params15] at hval
  exact opened hval hA
theorem over : Rows.scanMineRow.holds Try.pinned (OpenSpec.ofChange Rows.scanMineSpec) :=
  OpenClaim.holds_of_wide 15 Try.f15 rfl rfl rfl rfl rfl rfl rfl ⟨rfl, rfl, rfl, rfl, rfl⟩ rfl rfl rfl rfl rfl (by kernel_rfl) Try.func15 closed
    (of_decide_eq_true (by kernel_rfl)) (by unfold Func.isWrapper; first | (rw [if_pos (by decide +kernel)]; kernel_rfl) | (rw [if_neg (by decide +kernel)]; exact ⟨rfl, rfl⟩))
    (fun os started H enc _ => lifted os started H enc)
theorem proved : Rows.ScanMineSaid := over
#print axioms proved
end Go.Proofs.Ytppndeoiifkkkaa.scanMine
