/- HouseNone (P21.1): for every act the law returns true, and changes nothing. No condition. -/
import Derived.ChangeMaps5
import Derived.Test.YtdbjkklhgfhgnaaGreatLift
import Derived.Test.YtdbjkklhgfhgnaaGreatHoB
import Derived.Test.YtdbjkklhgfhgnaaGreatSzO
namespace Go.Proofs.YtdbjkklhgfhgnaaGreat.houseNone
open Sz Go.ChangeShapes Go.WideShapes Go.ChangeAt Go.RowKit
set_option linter.unusedVariables false
theorem c0 : (Rows.houseNoneRow.wf (OpenSpec.ofChange Rows.houseNoneSpec)) = true := by kernel_rfl
theorem c3 : (Tryz.f4.params.all (Tryz.pinned.checked.prog.readableRec ·)) = true := by kernel_rfl
theorem c4 : (namedTie Tryz.pinned.checked.prog Rows.houseNoneRow.named Rows.houseNoneSpec.vars) = true := by kernel_rfl
theorem c5 : ((Rows.houseNoneRow.stops == [])) = true := by kernel_rfl
theorem c7 : ((Rows.houseNoneRow.knobs == [])) = true := by kernel_rfl
theorem c9 : ((Rows.houseNoneRow.inPlace == Tryz.pinned.checked.prog.inPlace 4)) = true := by kernel_rfl
theorem c10 : ((Rows.houseNoneRow.unfollowed == Tryz.pinned.checked.prog.unfollowed 4)) = true := by kernel_rfl
theorem c11 : ((Rows.houseNoneRow.recurses == Tryz.pinned.checked.prog.recurses 4)) = true := by kernel_rfl
theorem c12 : ((Rows.houseNoneRow.named == Tryz.pinned.checked.prog.varsNamed 4)) = true := by kernel_rfl
theorem c13 : ((Rows.houseNoneRow.maps == (Tryz.f4.params.toList ++ Rows.houseNoneSpec.plain.varTypes Tryz.pinned.checked.prog).any (Tryz.pinned.checked.prog.mapsRec ·))) = true := by kernel_rfl
theorem c14 : ((Rows.houseNoneRow.ifaces == (Tryz.f4.params.toList ++ Rows.houseNoneSpec.plain.varTypes Tryz.pinned.checked.prog).any (Tryz.pinned.checked.prog.ifacesRec ·))) = true := by kernel_rfl
theorem c15 : ((Rows.houseNoneRow.mapsOut == Tryz.pinned.checked.prog.mapsAmong Tryz.f4.resultTypes.toList)) = true := by kernel_rfl
theorem c16 : ((Rows.houseNoneRow.loops == (Tryz.f4.params.toList ++ Rows.houseNoneSpec.plain.varTypes Tryz.pinned.checked.prog).any (Tryz.pinned.checked.prog.loopsFrom ·))) = true := by kernel_rfl
theorem c17 : ((Rows.houseNoneRow.wideKeys == (Tryz.f4.params.toList ++ Rows.houseNoneSpec.plain.varTypes Tryz.pinned.checked.prog ++ Tryz.f4.resultTypes.toList).any (Tryz.pinned.checked.prog.wideKeysFrom ·))) = true := by kernel_rfl
theorem c18 : (Rows.houseNoneSpec.vars.all (Tryz.pinned.checked.prog.varReadable ·)) = true := by kernel_rfl
theorem c19 : (Tryz.f4.resultTypes.all (fun t => Tryz.pinned.checked.prog.readableRec t && decide (t < Tryz.pinned.checked.prog.types.size))) = true := by kernel_rfl
theorem c20 : ((Rows.houseNoneRow.ifacesOut == Tryz.f4.resultTypes.toList.any (Tryz.pinned.checked.prog.ifacesRec ·))) = true := by kernel_rfl
theorem c21 : ((Rows.houseNoneRow.loopsOut == Tryz.f4.resultTypes.toList.any (Tryz.pinned.checked.prog.loopsFrom ·))) = true := by kernel_rfl
theorem c22 : ((Rows.houseNoneRow.plainKeys == Tryz.pinned.checked.prog.plainKeys)) = true := by rw [Tryz.shared22]; kernel_rfl
theorem c23 : (Rows.houseNoneRow.shortTexts.isNone) = true := by kernel_rfl
theorem c26 : ((Rows.houseNoneRow.lifted == Tryz.pinned.checked.prog.liftsFinal)) = true := by rw [Tryz.shared26]; kernel_rfl
theorem c27 : ((Tryz.pinned.checked.prog.make == some Rows.houseNoneRow.make)) = true := by rw [Tryz.shared27]; kernel_rfl
theorem c29 : ((Rows.houseNoneRow.pinned == Rows.houseNoneRow.pinnedBy)) = true := by kernel_rfl
theorem c30 : ((Rows.houseNoneRow.veiled == (Tryz.f4.params.toList ++ Rows.houseNoneSpec.plain.varTypes Tryz.pinned.checked.prog ++ Tryz.f4.resultTypes.toList).any (Tryz.pinned.checked.prog.veiledRec ·))) = true := by kernel_rfl
theorem c31 : (Rows.houseNoneRow.veiledFits Tryz.pinned.checked.prog Tryz.f4.params.toList (Tryz.f4.params.toList ++ Rows.houseNoneSpec.plain.varTypes Tryz.pinned.checked.prog ++ Tryz.f4.resultTypes.toList)) = true := by kernel_rfl
theorem closed : joinedFacts Tryz.pinned.checked.prog 4 Tryz.f4 Rows.houseNoneSpec Rows.houseNoneRow = true := by
  unfold joinedFacts
  rw [c0, Tryz.shared1, Tryz.shared2, c3, c4, c5, Tryz.shared6, c7, Tryz.shared8, c9, c10, c11, c12, c13, c14, c15, c16, c17, c18, c19, c20, c21, c22, c23, Tryz.shared24, Tryz.shared25, c26, c27, c29, c30, c31]
  kernel_rfl
theorem rd : ∀ t ∈ [49], Tryz.prog.readableRec t = true ∧ t < Tryz.prog.types.size := by
  have h : ([49].all fun t => Tryz.prog.readableRec t && decide (t < Tryz.prog.types.size)) = true := by kernel_rfl
  intro t ht
  have := List.all_eq_true.1 h t ht
  simpa using this
theorem sh49 : shOf Tryz.prog 20 49 = some (.int .u8 (.int .i64 (.int .i64 (.int .i64 (.int .i64 (.int .i64 (.int .i64 (.str .nil)))))))) := by kernel_rfl
set_option maxRecDepth 100000 in
theorem opened {H : Type} {enc : TypeId × Value → H} {W : World} {base : Nat} {args : Array Value} {ds : List (DataW H)} {p : List MemPlace}
    (hval : ∀ (j : Nat) t v, (#[49] : Array TypeId)[j]? = some t → args[j]? = some v → Value.okWide Tryz.prog W .any base t v) (hA : DataW.TrodAll enc Tryz.prog W 0 (fun _ => true) true [49] args.toList ds p) :
    Calls Tryz.prog 4 args W fun e W' => e = .returned (.bool true) ∧ Below W.heap.size W W' := by
  obtain ⟨v0, d0, rfl, rfl, h0⟩ := trodAll_one hA
  obtain ⟨cs, rfl, k, _, rfl, _, t, _, rfl, _, u, _, rfl, _, s, _, rfl, _, q, _, rfl, _, l, _, rfl, _, g, _, rfl, _, d, _, rfl, _, rfl⟩ := open_aggs (by kernel_rfl) sh49 (hval 0 49 v0 rfl rfl) h0
  refine law_read (tr := fun I => @YtdbjkklhgfhgnaaGreat.c4 I) (args := [.agg ([.int .u8 k, .int .i64 t, .int .i64 u, .int .i64 s, .int .i64 q, .int .i64 l, .int .i64 g, .string d] : List Value).toArray]) (fun I => @YtdbjkklhgfhgnaaGreat.c4_ok I) ?_
  show @YtdbjkklhgfhgnaaGreat.c4 (inpOf W) [.agg [.v (.int .u8 k), .v (.int .i64 t), .v (.int .i64 u), .v (.int .i64 s), .v (.int .i64 q), .v (.int .i64 l), .v (.int .i64 g), .v (.string d)]] [] _
  unfold YtdbjkklhgfhgnaaGreat.c4
  rfl

set_option maxRecDepth 100000 in
theorem lifted (os : Os) (started : os.Started) (H : Type) (enc : TypeId × Value → H) :
    ReturnsInHanded {} Tryz.checked os 4 .any (Rows.houseNoneSpec.pre6 enc Tryz.prog Tryz.f4 Rows.houseNoneRow.domain false) (Rows.houseNoneSpec.post enc Tryz.prog Tryz.f4 false true false false) := by
  refine returnsInHanded_of_change (C := Tryz.checked) Tryz.ownK started (by kernel_rfl) Tryz.func4
    (ChangeSpec.witness6 (enc := enc) (C := Tryz.checked) false ⟨#[], #[.agg #[.int .u8 0, .int .i64 0, .int .i64 0, .int .i64 0, .int .i64 0, .int .i64 0, .int .i64 0, .string ⟨#[]⟩]], []⟩ 12 (by kernel_rfl) (by kernel_rfl) (by kernel_rfl) (by kernel_rfl)) ?_
  intro W base args ds gs before hval0 hW hcnd _
  have hval : ∀ (j : Nat) t v, Tryz.f4.params[j]? = some t → args[j]? = some v → Value.okWide Tryz.prog W .any base t v := hval0
  refine law_step (ts := [49]) (by rw [Tryz.params4]) (by kernel_rfl) rfl rd (fun ds h => match ds, h with | [a0], _ => rfl) hW fun p hA => ?_
  rw [Tryz.params4] at hval
  exact opened hval hA
theorem over : Rows.houseNoneRow.holds Tryz.pinned (OpenSpec.ofChange Rows.houseNoneSpec) :=
  OpenClaim.holds_of_wide 4 Tryz.f4 rfl rfl rfl rfl rfl rfl rfl ⟨rfl, rfl, rfl, rfl, rfl⟩ rfl rfl rfl rfl rfl (by kernel_rfl) Tryz.func4 closed
    (of_decide_eq_true (by kernel_rfl)) (by unfold Func.isWrapper; first | (rw [if_pos (by decide +kernel)]; kernel_rfl) | (rw [if_neg (by decide +kernel)]; exact ⟨rfl, rfl⟩))
    (fun os started H enc _ => lifted os started H enc)
theorem proved : Rows.HouseNoneSaid := over
#print axioms proved
end Go.Proofs.YtdbjkklhgfhgnaaGreat.houseNone
