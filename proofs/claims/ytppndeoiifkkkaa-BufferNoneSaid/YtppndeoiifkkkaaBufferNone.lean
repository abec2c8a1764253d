/- BufferNone (P13.1): for every change and every place the law of a nil buffer returns true, and changes nothing. No condition. -/
import Derived.Test.YtppndeoiifkkkaaLift
import Derived.Test.YtppndeoiifkkkaaBufF
import Derived.Test.YtppndeoiifkkkaaOpen
namespace Go.Proofs.Ytppndeoiifkkkaa.bufferNone
open Go.ChangeShapes Go.WideShapes Go.ChangeAt Go.RowKit
set_option linter.unusedVariables false
theorem c0 : (Rows.bufferNoneRow.wf (OpenSpec.ofChange Rows.bufferNoneSpec)) = true := by kernel_rfl
theorem c3 : (Try.f7.params.all (Try.pinned.checked.prog.readableRec ·)) = true := by kernel_rfl
theorem c4 : (namedTie Try.pinned.checked.prog Rows.bufferNoneRow.named Rows.bufferNoneSpec.vars) = true := by kernel_rfl
theorem c5 : ((Rows.bufferNoneRow.stops == [])) = true := by kernel_rfl
theorem c7 : ((Rows.bufferNoneRow.knobs == [])) = true := by kernel_rfl
theorem c9 : ((Rows.bufferNoneRow.inPlace == Try.pinned.checked.prog.inPlace 7)) = true := by kernel_rfl
theorem c10 : ((Rows.bufferNoneRow.unfollowed == Try.pinned.checked.prog.unfollowed 7)) = true := by kernel_rfl
theorem c11 : ((Rows.bufferNoneRow.recurses == Try.pinned.checked.prog.recurses 7)) = true := by kernel_rfl
theorem c12 : ((Rows.bufferNoneRow.named == Try.pinned.checked.prog.varsNamed 7)) = true := by kernel_rfl
theorem c13 : ((Rows.bufferNoneRow.maps == (Try.f7.params.toList ++ Rows.bufferNoneSpec.plain.varTypes Try.pinned.checked.prog).any (Try.pinned.checked.prog.mapsRec ·))) = true := by kernel_rfl
theorem c14 : ((Rows.bufferNoneRow.ifaces == (Try.f7.params.toList ++ Rows.bufferNoneSpec.plain.varTypes Try.pinned.checked.prog).any (Try.pinned.checked.prog.ifacesRec ·))) = true := by kernel_rfl
theorem c15 : ((Rows.bufferNoneRow.mapsOut == Try.pinned.checked.prog.mapsAmong Try.f7.resultTypes.toList)) = true := by kernel_rfl
theorem c16 : ((Rows.bufferNoneRow.loops == (Try.f7.params.toList ++ Rows.bufferNoneSpec.plain.varTypes Try.pinned.checked.prog).any (Try.pinned.checked.prog.loopsFrom ·))) = true := by kernel_rfl
theorem c17 : ((Rows.bufferNoneRow.wideKeys == (Try.f7.params.toList ++ Rows.bufferNoneSpec.plain.varTypes Try.pinned.checked.prog ++ Try.f7.resultTypes.toList).any (Try.pinned.checked.prog.wideKeysFrom ·))) = true := by kernel_rfl
theorem c18 : (Rows.bufferNoneSpec.vars.all (Try.pinned.checked.prog.varReadable ·)) = true := by kernel_rfl
theorem c19 : (Try.f7.resultTypes.all (fun t => Try.pinned.checked.prog.readableRec t && decide (t < Try.pinned.checked.prog.types.size))) = true := by kernel_rfl
theorem c20 : ((Rows.bufferNoneRow.ifacesOut == Try.f7.resultTypes.toList.any (Try.pinned.checked.prog.ifacesRec ·))) = true := by kernel_rfl
theorem c21 : ((Rows.bufferNoneRow.loopsOut == Try.f7.resultTypes.toList.any (Try.pinned.checked.prog.loopsFrom ·))) = true := by kernel_rfl
theorem c22 : ((Rows.bufferNoneRow.plainKeys == Try.pinned.checked.prog.plainKeys)) = true := by rw [Try.shared22]; kernel_rfl
theorem c23 : (Rows.bufferNoneRow.shortTexts.isNone) = true := by kernel_rfl
theorem c26 : ((Rows.bufferNoneRow.lifted == Try.pinned.checked.prog.liftsFinal)) = true := by rw [Try.shared26]; kernel_rfl
theorem c27 : ((Try.pinned.checked.prog.make == some Rows.bufferNoneRow.make)) = true := by rw [Try.shared27]; kernel_rfl
theorem c29 : ((Rows.bufferNoneRow.pinned == Rows.bufferNoneRow.pinnedBy)) = true := by kernel_rfl
theorem c30 : ((Rows.bufferNoneRow.veiled == (Try.f7.params.toList ++ Rows.bufferNoneSpec.plain.varTypes Try.pinned.checked.prog ++ Try.f7.resultTypes.toList).any (Try.pinned.checked.prog.veiledRec ·))) = true := by kernel_rfl
theorem c31 : (Rows.bufferNoneRow.veiledFits Try.pinned.checked.prog Try.f7.params.toList (Try.f7.params.toList ++ Rows.bufferNoneSpec.plain.varTypes Try.pinned.checked.prog ++ Try.f7.resultTypes.toList)) = true := by kernel_rfl
theorem closed : joinedFacts Try.pinned.checked.prog 7 Try.f7 Rows.bufferNoneSpec Rows.bufferNoneRow = true := by
  unfold joinedFacts
  rw [c0, Try.shared1, Try.shared2, c3, c4, c5, Try.shared6, c7, Try.shared8, c9, c10, c11, c12, c13, c14, c15, c16, c17, c18, c19, c20, c21, c22, c23, Try.shared24, Try.shared25, c26, c27, c29, c30, c31]
  kernel_rfl
theorem rd : ∀ t ∈ [48, 3], Try.prog.readableRec t = true ∧ t < Try.prog.types.size := by
  have h : ([48, 3].all fun t => Try.prog.readableRec t && decide (t < Try.prog.types.size)) = true := by kernel_rfl
  intro t ht
  have := List.all_eq_true.1 h t ht
  simpa using this
theorem sh48 : shOf Try.prog 10 48 = some (.int .i64 (.int .i64 (.str .nil))) := by kernel_rfl
set_option maxRecDepth 100000 in
theorem opened {H : Type} {enc : TypeId × Value → H} {W : World} {base : Nat} {args : Array Value} {ds : List (DataW H)} {p : List MemPlace}
    (hval : ∀ (j : Nat) t v, (#[48, 3] : Array TypeId)[j]? = some t → args[j]? = some v → Value.okWide Try.prog W .any base t v) (hA : DataW.TrodAll enc Try.prog W 0 (fun _ => true) true [48, 3] args.toList ds p) :
    Calls Try.prog 7 args W fun e W' => e = .returned (.bool true) ∧ Below W.heap.size W W' := by
  obtain ⟨v0, v1, d0, d1, p0, p1, e, rfl, rfl, h0, h1⟩ := trodAll_two hA
  obtain rfl : args = #[v0, v1] := by cases args; simp_all
  obtain ⟨cs, rfl, a, _, rfl, _, b, _, rfl, _, c, _, rfl, _, rfl⟩ := open_aggs (by kernel_rfl) sh48 (hval 0 48 v0 rfl rfl) h0
  obtain ⟨a1, rfl, rfl, rfl, w1⟩ := open_int Try.underlying3 (hval 1 3 v1 rfl rfl) h1
  exact bufferNone_w a b c a1 W
set_option maxRecDepth 100000 in
theorem lifted (os : Os) (started : os.Started) (H : Type) (enc : TypeId × Value → H) :
    ReturnsInHanded {} Try.checked os 7 .any (Rows.bufferNoneSpec.pre6 enc Try.prog Try.f7 Rows.bufferNoneRow.domain false) (Rows.bufferNoneSpec.post enc Try.prog Try.f7 false true false false) := by
  refine returnsInHanded_of_change (C := Try.checked) Try.ownK started (by kernel_rfl) Try.func7
    (ChangeSpec.witness6 (enc := enc) (C := Try.checked) false ⟨#[], #[.agg #[.int .i64 0, .int .i64 0, .string ByteArray.empty], .int .i64 0], []⟩ 12 (by kernel_rfl) (by kernel_rfl) (by kernel_rfl) (by kernel_rfl)) ?_
  intro W base args ds gs before hval0 hW hcnd _
  have hval : ∀ (j : Nat) t v, Try.f7.params[j]? = some t → args[j]? = some v → Value.okWide Try.prog W .any base t v := hval0
  refine law_step (ts := [48, 3]) (by rw [Try.params7]) (by kernel_rfl) rfl rd (fun ds h => match ds, h with | [a0, a1], _ => rfl) hW fun p hA => ?_
  rw [Try.params7] at hval
  exact opened hval hA
theorem over : Rows.bufferNoneRow.holds Try.pinned (OpenSpec.ofChange Rows.bufferNoneSpec) :=
  OpenClaim.holds_of_wide 7 Try.f7 rfl rfl rfl rfl rfl rfl rfl ⟨rfl, rfl, rfl, rfl, rfl⟩ rfl rfl rfl rfl rfl (by kernel_rfl) Try.func7 closed
    (of_decide_eq_true (by kernel_rfl)) (by unfold Func.isWrapper; first | (rw [if_pos (by decide +kernel)]; kernel_rfl) | (rw [if_neg (by decide +kernel)]; exact ⟨rfl, rfl⟩))
    (fun os started H enc _ => lifted os started H enc)
theorem proved : Rows.BufferNoneSaid := over
#print axioms proved
end Go.Proofs.Ytppndeoiifkkkaa.bufferNone
