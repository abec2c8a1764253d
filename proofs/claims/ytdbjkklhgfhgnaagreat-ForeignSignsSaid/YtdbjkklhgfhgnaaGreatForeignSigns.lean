/- ForeignSigns (P45.1): for every row of steps the law returns true, and changes nothing. No condition. -/
import Derived.ChangeMaps5
import Derived.SizedLaws
import Derived.Test.YtdbjkklhgfhgnaaGreatLift
import Derived.Test.YtdbjkklhgfhgnaaGreatFoE
import Derived.Test.YtdbjkklhgfhgnaaGreatSzO
import Derived.Test.YtdbjkklhgfhgnaaGreatOpenZ
namespace Go.Proofs.YtdbjkklhgfhgnaaGreat.foreignSigns
open Sz Go.ChangeShapes Go.WideShapes Go.ChangeAt Go.RowKit
set_option linter.unusedVariables false
theorem c0 : (Rows.foreignSignsRow.wf (OpenSpec.ofChange Rows.foreignSignsSpec)) = true := by kernel_rfl
theorem c3 : (Tryz.f5.params.all (Tryz.pinned.checked.prog.readableRec ·)) = true := by kernel_rfl
theorem c4 : (namedTie Tryz.pinned.checked.prog Rows.foreignSignsRow.named Rows.foreignSignsSpec.vars) = true := by kernel_rfl
theorem c5 : ((Rows.foreignSignsRow.stops == [])) = true := by kernel_rfl
theorem c7 : ((Rows.foreignSignsRow.knobs == [])) = true := by kernel_rfl
theorem c9 : ((Rows.foreignSignsRow.inPlace == Tryz.pinned.checked.prog.inPlace 5)) = true := by kernel_rfl
theorem c10 : ((Rows.foreignSignsRow.unfollowed == Tryz.pinned.checked.prog.unfollowed 5)) = true := by kernel_rfl
theorem c11 : ((Rows.foreignSignsRow.recurses == Tryz.pinned.checked.prog.recurses 5)) = true := by kernel_rfl
theorem c12 : ((Rows.foreignSignsRow.named == Tryz.pinned.checked.prog.varsNamed 5)) = true := by kernel_rfl
theorem c13 : ((Rows.foreignSignsRow.maps == (Tryz.f5.params.toList ++ Rows.foreignSignsSpec.plain.varTypes Tryz.pinned.checked.prog).any (Tryz.pinned.checked.prog.mapsRec ·))) = true := by kernel_rfl
theorem c14 : ((Rows.foreignSignsRow.ifaces == (Tryz.f5.params.toList ++ Rows.foreignSignsSpec.plain.varTypes Tryz.pinned.checked.prog).any (Tryz.pinned.checked.prog.ifacesRec ·))) = true := by kernel_rfl
theorem c15 : ((Rows.foreignSignsRow.mapsOut == Tryz.pinned.checked.prog.mapsAmong Tryz.f5.resultTypes.toList)) = true := by kernel_rfl
theorem c16 : ((Rows.foreignSignsRow.loops == (Tryz.f5.params.toList ++ Rows.foreignSignsSpec.plain.varTypes Tryz.pinned.checked.prog).any (Tryz.pinned.checked.prog.loopsFrom ·))) = true := by kernel_rfl
theorem c17 : ((Rows.foreignSignsRow.wideKeys == (Tryz.f5.params.toList ++ Rows.foreignSignsSpec.plain.varTypes Tryz.pinned.checked.prog ++ Tryz.f5.resultTypes.toList).any (Tryz.pinned.checked.prog.wideKeysFrom ·))) = true := by kernel_rfl
theorem c18 : (Rows.foreignSignsSpec.vars.all (Tryz.pinned.checked.prog.varReadable ·)) = true := by kernel_rfl
theorem c19 : (Tryz.f5.resultTypes.all (fun t => Tryz.pinned.checked.prog.readableRec t && decide (t < Tryz.pinned.checked.prog.types.size))) = true := by kernel_rfl
theorem c20 : ((Rows.foreignSignsRow.ifacesOut == Tryz.f5.resultTypes.toList.any (Tryz.pinned.checked.prog.ifacesRec ·))) = true := by kernel_rfl
theorem c21 : ((Rows.foreignSignsRow.loopsOut == Tryz.f5.resultTypes.toList.any (Tryz.pinned.checked.prog.loopsFrom ·))) = true := by kernel_rfl
theorem c22 : ((Rows.foreignSignsRow.plainKeys == Tryz.pinned.checked.prog.plainKeys)) = true := by rw [Tryz.shared22]; kernel_rfl
theorem c23 : (Rows.foreignSignsRow.shortTexts.isNone) = true := by kernel_rfl
theorem c26 : ((Rows.foreignSignsRow.lifted == Tryz.pinned.checked.prog.liftsFinal)) = true := by rw [Tryz.shared26]; kernel_rfl
theorem c27 : ((Tryz.pinned.checked.prog.make == some Rows.foreignSignsRow.make)) = true := by rw [Tryz.shared27]; kernel_rfl
theorem c29 : ((Rows.foreignSignsRow.pinned == Rows.foreignSignsRow.pinnedBy)) = true := by kernel_rfl
theorem c30 : ((Rows.foreignSignsRow.veiled == (Tryz.f5.params.toList ++ Rows.foreignSignsSpec.plain.varTypes Tryz.pinned.checked.prog ++ Tryz.f5.resultTypes.toList).any (Tryz.pinned.checked.prog.veiledRec ·))) = true := by kernel_rfl
theorem c31 : (Rows.foreignSignsRow.veiledFits Tryz.pinned.checked.prog Tryz.f5.params.toList (Tryz.f5.params.toList ++ Rows.foreignSignsSpec.plain.varTypes Tryz.pinned.checked.prog ++ Tryz.f5.resultTypes.toList)) = true := by kernel_rfl
theorem closed : joinedFacts Tryz.pinned.checked.prog 5 Tryz.f5 Rows.foreignSignsSpec Rows.foreignSignsRow = true := by
  unfold joinedFacts
  rw [c0, Tryz.shared1, Tryz.shared2, c3, c4, c5, Tryz.shared6, c7, Tryz.shared8, c9, c10, c11, c12, c13, c14, c15, c16, c17, c18, c19, c20, c21, c22, c23, Tryz.shared24, Tryz.shared25, c26, c27, c29, c30, c31]
  kernel_rfl
theorem rd : ∀ t ∈ [70], Tryz.prog.readableRec t = true ∧ t < Tryz.prog.types.size := by
  have h : ([70].all fun t => Tryz.prog.readableRec t && decide (t < Tryz.prog.types.size)) = true := by kernel_rfl
  intro t ht
  have := List.all_eq_true.1 h t ht
  simpa using this
theorem sh70 : shOfR Tryz.prog 20 70 = some (.sl 72 (.int .i64 (.int .i64 (.int .i64 (.int .i64 (.int .i64 (.int .i64 (.int .i64 (.str .nil)))))))) .nil) := by kernel_rfl
set_option maxRecDepth 100000 in
theorem opened {H : Type} {enc : TypeId × Value → H} {W : World} {base : Nat} {args : Array Value} {ds gs : List (DataW H)} {vt : List TypeId} {p : List MemPlace}
    (hval : ∀ (j : Nat) t v, (#[70] : Array TypeId)[j]? = some t → args[j]? = some v → Value.okWide Tryz.prog W .any base t v) (hA : DataW.TrodAll enc Tryz.prog W 0 (fun _ => true) true [70] args.toList ds p)
    (hz : (DataW.weightsEach Tryz.prog ([70] ++ vt) (ds ++ gs)).all (· ≤ reachBytes) = true) :
    Calls Tryz.prog 5 args W fun e W' => e = .returned (.bool true) ∧ Below W.heap.size W W' := by
  obtain ⟨v0, d0, rfl, rfl, h0⟩ := trodAll_one hA
  have hz0 : ∀ q ∈ d0.weights Tryz.prog 70, q ≤ reachBytes := fun q hq => of_decide_eq_true (List.all_eq_true.1 hz q (DataW.weights_mem_each (j := 0) rfl rfl q hq))
  have hs := openR_sls Tryz.underlying70 sh70 (hval 0 70 v0 rfl rfl) h0 hz0
  obtain ⟨A, n, c, l, rfl, hn, hc, hl, hq, hin⟩ := rows_of_sl (cs := Stp.cs) (Q := fun s => s.data.size ≤ reachBytes ∧ -9223372036854775808 ≤ s.tenant ∧ s.tenant ≤ 9223372036854775807) Stp.len (by decide) hs.1 (fun l hf => by
    obtain ⟨a, _, rfl, _, b, _, rfl, wb, c, _, rfl, _, d, _, rfl, _, e, _, rfl, _, f, _, rfl, _, g, _, rfl, _, h, _, rfl, wh, rfl⟩ := hf
    exact ⟨⟨a, b, c, d, e, f, g, h⟩, rfl, wh, wf_bounds_i64 wb⟩)
  refine law_read (tr := fun I => @YtdbjkklhgfhgnaaGreat.c5 I) (args := [.slice A n c]) (fun I => @YtdbjkklhgfhgnaaGreat.c5_ok I) ?_
  show @YtdbjkklhgfhgnaaGreat.c5 (inpOf W) [.v (.slice A n c)] [] _
  exact ⟨l, hin, hl, by omega, fun s hs => ⟨Nat.le_trans (hq s hs).1 (Nat.le_of_lt reachBytes_lt), (hq s hs).2⟩, rfl⟩

set_option maxRecDepth 100000 in
theorem lifted (os : Os) (started : os.Started) (H : Type) (enc : TypeId × Value → H) :
    ReturnsInHanded {} Tryz.checked os 5 .any (Rows.foreignSignsSpec.pre6 enc Tryz.prog Tryz.f5 Rows.foreignSignsRow.domain false) (Rows.foreignSignsSpec.post enc Tryz.prog Tryz.f5 false true false false) := by
  refine returnsInHanded_of_change_sized (C := Tryz.checked) Tryz.ownK started (by kernel_rfl) Tryz.func5
    (ChangeSpec.witness6 (enc := enc) (C := Tryz.checked) false ⟨#[], #[.slice none 0 0], []⟩ 12 (by kernel_rfl) (by kernel_rfl) (by kernel_rfl) (by kernel_rfl)) ?_
  intro W base args ds gs before hval0 hW hcnd hz _
  have hval : ∀ (j : Nat) t v, Tryz.f5.params[j]? = some t → args[j]? = some v → Value.okWide Tryz.prog W .any base t v := hval0
  refine law_step (ts := [70]) (by rw [Tryz.params5]) (by kernel_rfl) rfl rd (fun ds h => match ds, h with | [a0], _ => rfl) hW fun p hA => ?_
  rw [Tryz.params5] at hval
  rw [Tryz.params5] at hz
  exact opened hval hA hz
theorem over : Rows.foreignSignsRow.holds Tryz.pinned (OpenSpec.ofChange Rows.foreignSignsSpec) :=
  OpenClaim.holds_of_wide 5 Tryz.f5 rfl rfl rfl rfl rfl rfl rfl ⟨rfl, rfl, rfl, rfl, rfl⟩ rfl rfl rfl rfl rfl (by kernel_rfl) Tryz.func5 closed
    (of_decide_eq_true (by kernel_rfl)) (by unfold Func.isWrapper; first | (rw [if_pos (by decide +kernel)]; kernel_rfl) | (rw [if_neg (by decide +kernel)]; exact ⟨rfl, rfl⟩))
    (fun os started H enc _ => lifted os started H enc)
theorem proved : Rows.ForeignSignsSaid := over
#print axioms proved
end Go.Proofs.YtdbjkklhgfhgnaaGreat.foreignSigns

