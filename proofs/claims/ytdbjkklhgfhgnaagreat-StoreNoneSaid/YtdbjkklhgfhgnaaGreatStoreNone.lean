/- StoreNone (P18.1): for every place and data the law returns true, and changes nothing. No condition. -/
import Derived.ChangeMaps5
import Derived.Test.YtdbjkklhgfhgnaaGreatLift
import Derived.Test.YtdbjkklhgfhgnaaGreatStB
import Derived.Test.YtdbjkklhgfhgnaaGreatSzO
namespace Go.Proofs.YtdbjkklhgfhgnaaGreat.storeNone
open Sz Go.ChangeShapes Go.WideShapes Go.ChangeAt Go.RowKit
set_option linter.unusedVariables false
theorem c0 : (Rows.storeNoneRow.wf (OpenSpec.ofChange Rows.storeNoneSpec)) = true := by kernel_rfl
theorem c3 : (Tryz.f3.params.all (Tryz.pinned.checked.prog.readableRec ·)) = true := by kernel_rfl
theorem c4 : (namedTie Tryz.pinned.checked.prog Rows.storeNoneRow.named Rows.storeNoneSpec.vars) = true := by kernel_rfl
theorem c5 : ((Rows.storeNoneRow.stops == [])) = true := by kernel_rfl
theorem c7 : ((Rows.storeNoneRow.knobs == [])) = true := by kernel_rfl
theorem c9 : ((Rows.storeNoneRow.inPlace == Tryz.pinned.checked.prog.inPlace 3)) = true := by kernel_rfl
theorem c10 : ((Rows.storeNoneRow.unfollowed == Tryz.pinned.checked.prog.unfollowed 3)) = true := by kernel_rfl
theorem c11 : ((Rows.storeNoneRow.recurses == Tryz.pinned.checked.prog.recurses 3)) = true := by kernel_rfl
theorem c12 : ((Rows.storeNoneRow.named == Tryz.pinned.checked.prog.varsNamed 3)) = true := by kernel_rfl
theorem c13 : ((Rows.storeNoneRow.maps == (Tryz.f3.params.toList ++ Rows.storeNoneSpec.plain.varTypes Tryz.pinned.checked.prog).any (Tryz.pinned.checked.prog.mapsRec ·))) = true := by kernel_rfl
theorem c14 : ((Rows.storeNoneRow.ifaces == (Tryz.f3.params.toList ++ Rows.storeNoneSpec.plain.varTypes Tryz.pinned.checked.prog).any (Tryz.pinned.checked.prog.ifacesRec ·))) = true := by kernel_rfl
theorem c15 : ((Rows.storeNoneRow.mapsOut == Tryz.pinned.checked.prog.mapsAmong Tryz.f3.resultTypes.toList)) = true := by kernel_rfl
theorem c16 : ((Rows.storeNoneRow.loops == (Tryz.f3.params.toList ++ Rows.storeNoneSpec.plain.varTypes Tryz.pinned.checked.prog).any (Tryz.pinned.checked.prog.loopsFrom ·))) = true := by kernel_rfl
theorem c17 : ((Rows.storeNoneRow.wideKeys == (Tryz.f3.params.toList ++ Rows.storeNoneSpec.plain.varTypes Tryz.pinned.checked.prog ++ Tryz.f3.resultTypes.toList).any (Tryz.pinned.checked.prog.wideKeysFrom ·))) = true := by kernel_rfl
theorem c18 : (Rows.storeNoneSpec.vars.all (Tryz.pinned.checked.prog.varReadable ·)) = true := by kernel_rfl
theorem c19 : (Tryz.f3.resultTypes.all (fun t => Tryz.pinned.checked.prog.readableRec t && decide (t < Tryz.pinned.checked.prog.types.size))) = true := by kernel_rfl
theorem c20 : ((Rows.storeNoneRow.ifacesOut == Tryz.f3.resultTypes.toList.any (Tryz.pinned.checked.prog.ifacesRec ·))) = true := by kernel_rfl
theorem c21 : ((Rows.storeNoneRow.loopsOut == Tryz.f3.resultTypes.toList.any (Tryz.pinned.checked.prog.loopsFrom ·))) = true := by kernel_rfl
theorem c22 : ((Rows.storeNoneRow.plainKeys == Tryz.pinned.checked.prog.plainKeys)) = true := by rw [Tryz.shared22]; kernel_rfl
theorem c23 : (Rows.storeNoneRow.shortTexts.isNone) = true := by kernel_rfl
theorem c26 : ((Rows.storeNoneRow.lifted == Tryz.pinned.checked.prog.liftsFinal)) = true := by rw [Tryz.shared26]; kernel_rfl
theorem c27 : ((Tryz.pinned.checked.prog.make == some Rows.storeNoneRow.make)) = true := by rw [Tryz.shared27]; kernel_rfl
theorem c29 : ((Rows.storeNoneRow.pinned == Rows.storeNoneRow.pinnedBy)) = true := by kernel_rfl
theorem c30 : ((Rows.storeNoneRow.veiled == (Tryz.f3.params.toList ++ Rows.storeNoneSpec.plain.varTypes Tryz.pinned.checked.prog ++ Tryz.f3.resultTypes.toList).any (Tryz.pinned.checked.prog.veiledRec ·))) = true := by kernel_rfl
theorem c31 : (Rows.storeNoneRow.veiledFits Tryz.pinned.checked.prog Tryz.f3.params.toList (Tryz.f3.params.toList ++ Rows.storeNoneSpec.plain.varTypes Tryz.pinned.checked.prog ++ Tryz.f3.resultTypes.toList)) = true := by kernel_rfl
theorem closed : joinedFacts Tryz.pinned.checked.prog 3 Tryz.f3 Rows.storeNoneSpec Rows.storeNoneRow = true := by
  unfold joinedFacts
  rw [c0, Tryz.shared1, Tryz.shared2, c3, c4, c5, Tryz.shared6, c7, Tryz.shared8, c9, c10, c11, c12, c13, c14, c15, c16, c17, c18, c19, c20, c21, c22, c23, Tryz.shared24, Tryz.shared25, c26, c27, c29, c30, c31]
  kernel_rfl
theorem rd : ∀ t ∈ [3, 9], Tryz.prog.readableRec t = true ∧ t < Tryz.prog.types.size := by
  have h : ([3, 9].all fun t => Tryz.prog.readableRec t && decide (t < Tryz.prog.types.size)) = true := by kernel_rfl
  intro t ht
  have := List.all_eq_true.1 h t ht
  simpa using this
set_option maxRecDepth 100000 in
theorem opened {H : Type} {enc : TypeId × Value → H} {W : World} {base : Nat} {args : Array Value} {ds : List (DataW H)} {p : List MemPlace}
    (hval : ∀ (j : Nat) t v, (#[3, 9] : Array TypeId)[j]? = some t → args[j]? = some v → Value.okWide Tryz.prog W .any base t v) (hA : DataW.TrodAll enc Tryz.prog W 0 (fun _ => true) true [3, 9] args.toList ds p) :
    Calls Tryz.prog 3 args W fun e W' => e = .returned (.bool true) ∧ Below W.heap.size W W' := by
  obtain ⟨v0, v1, d0, d1, p0, p1, e, rfl, rfl, h0, h1⟩ := trodAll_two hA
  obtain rfl : args = #[v0, v1] := by cases args; simp_all
  obtain ⟨a0, rfl, rfl, rfl, _⟩ := open_int Tryz.underlying3 (hval 0 3 v0 rfl rfl) h0
  obtain ⟨a1, rfl, _⟩ := Go.ChangeMaps.open_string Tryz.underlying9 (hval 1 9 v1 rfl rfl) h1
  refine law_read (tr := fun I => @YtdbjkklhgfhgnaaGreat.c3 I) (args := [.int .i64 a0, .string a1]) (fun I => @YtdbjkklhgfhgnaaGreat.c3_ok I) ?_
  show @YtdbjkklhgfhgnaaGreat.c3 (inpOf W) [.v (.int .i64 a0), .v (.string a1)] [] _
  unfold YtdbjkklhgfhgnaaGreat.c3
  rfl

set_option maxRecDepth 100000 in
theorem lifted (os : Os) (started : os.Started) (H : Type) (enc : TypeId × Value → H) :
    ReturnsInHanded {} Tryz.checked os 3 .any (Rows.storeNoneSpec.pre6 enc Tryz.prog Tryz.f3 Rows.storeNoneRow.domain false) (Rows.storeNoneSpec.post enc Tryz.prog Tryz.f3 false true false false) := by
  refine returnsInHanded_of_change (C := Tryz.checked) Tryz.ownK started (by kernel_rfl) Tryz.func3
    (ChangeSpec.witness6 (enc := enc) (C := Tryz.checked) false ⟨#[], #[.int .i64 0, .string ⟨#[]⟩], []⟩ 12 (by kernel_rfl) (by kernel_rfl) (by kernel_rfl) (by kernel_rfl)) ?_
  intro W base args ds gs before hval0 hW hcnd _
  have hval : ∀ (j : Nat) t v, Tryz.f3.params[j]? = some t → args[j]? = some v → Value.okWide Tryz.prog W .any base t v := hval0
  refine law_step (ts := [3, 9]) (by rw [Tryz.params3]) (by kernel_rfl) rfl rd (fun ds h => match ds, h with | [a0, a1], _ => rfl) hW fun p hA => ?_
  rw [Tryz.params3] at hval
  exact opened hval hA
theorem over : Rows.storeNoneRow.holds Tryz.pinned (OpenSpec.ofChange Rows.storeNoneSpec) :=
  OpenClaim.holds_of_wide 3 Tryz.f3 rfl rfl rfl rfl rfl rfl rfl ⟨rfl, rfl, rfl, rfl, rfl⟩ rfl rfl rfl rfl rfl (by kernel_rfl) Tryz.func3 closed
    (of_decide_eq_true (by kernel_rfl)) (by unfold Func.isWrapper; first | (rw [if_pos (by decide +kernel)]; kernel_rfl) | (rw [if_neg (by decide +kernel)]; exact ⟨rfl, rfl⟩))
    (fun os started H enc _ => lifted os started H enc)
theorem proved : Rows.StoreNoneSaid := over
#print axioms proved
end Go.Proofs.YtdbjkklhgfhgnaaGreat.storeNone
