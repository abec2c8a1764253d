/- BufferPlays (P13.1): for every row of acts and every place the law returns true, and changes nothing. No condition. -/
import Derived.Test.YtppndeoiifkkkaaLift
import Derived.Test.YtppndeoiifkkkaaBufH
import Derived.Test.YtppndeoiifkkkaaOpen
namespace Go.Proofs.Ytppndeoiifkkkaa.bufferPlays
open Go.ChangeShapes Go.WideShapes Go.ChangeAt Go.RowKit
set_option linter.unusedVariables false
theorem c0 : (Rows.bufferPlaysRow.wf (OpenSpec.ofChange Rows.bufferPlaysSpec)) = true := by kernel_rfl
theorem c3 : (Try.f6.params.all (Try.pinned.checked.prog.readableRec ·)) = true := by kernel_rfl
theorem c4 : (namedTie Try.pinned.checked.prog Rows.bufferPlaysRow.named Rows.bufferPlaysSpec.vars) = true := by kernel_rfl
theorem c5 : ((Rows.bufferPlaysRow.stops == [])) = true := by kernel_rfl
theorem c7 : ((Rows.bufferPlaysRow.knobs == [])) = true := by kernel_rfl
theorem c9 : ((Rows.bufferPlaysRow.inPlace == Try.pinned.checked.prog.inPlace 6)) = true := by kernel_rfl
theorem c10 : ((Rows.bufferPlaysRow.unfollowed == Try.pinned.checked.prog.unfollowed 6)) = true := by kernel_rfl
theorem c11 : ((Rows.bufferPlaysRow.recurses == Try.pinned.checked.prog.recurses 6)) = true := by kernel_rfl
theorem c12 : ((Rows.bufferPlaysRow.named == Try.pinned.checked.prog.varsNamed 6)) = true := by kernel_rfl
theorem c13 : ((Rows.bufferPlaysRow.maps == (Try.f6.params.toList ++ Rows.bufferPlaysSpec.plain.varTypes Try.pinned.checked.prog).any (Try.pinned.checked.prog.mapsRec ·))) = true := by kernel_rfl
theorem c14 : ((Rows.bufferPlaysRow.ifaces == (Try.f6.params.toList ++ Rows.bufferPlaysSpec.plain.varTypes Try.pinned.checked.prog).any (Try.pinned.checked.prog.ifacesRec ·))) = true := by kernel_rfl
theorem c15 : ((Rows.bufferPlaysRow.mapsOut == Try.pinned.checked.prog.mapsAmong Try.f6.resultTypes.toList)) = true := by kernel_rfl
theorem c16 : ((Rows.bufferPlaysRow.loops == (Try.f6.params.toList ++ Rows.bufferPlaysSpec.plain.varTypes Try.pinned.checked.prog).any (Try.pinned.checked.prog.loopsFrom ·))) = true := by kernel_rfl
theorem c17 : ((Rows.bufferPlaysRow.wideKeys == (Try.f6.params.toList ++ Rows.bufferPlaysSpec.plain.varTypes Try.pinned.checked.prog ++ Try.f6.resultTypes.toList).any (Try.pinned.checked.prog.wideKeysFrom ·))) = true := by kernel_rfl
theorem c18 : (Rows.bufferPlaysSpec.vars.all (Try.pinned.checked.prog.varReadable ·)) = true := by kernel_rfl
theorem c19 : (Try.f6.resultTypes.all (fun t => Try.pinned.checked.prog.readableRec t && decide (t < Try.pinned.checked.prog.types.size))) = true := by kernel_rfl
theorem c20 : ((Rows.bufferPlaysRow.ifacesOut == Try.f6.resultTypes.toList.any (Try.pinned.checked.prog.ifacesRec ·))) = true := by kernel_rfl
theorem c21 : ((Rows.bufferPlaysRow.loopsOut == Try.f6.resultTypes.toList.any (Try.pinned.checked.prog.loopsFrom ·))) = true := by kernel_rfl
theorem c22 : ((Rows.bufferPlaysRow.plainKeys == Try.pinned.checked.prog.plainKeys)) = true := by rw [Try.shared22]; kernel_rfl
theorem c23 : (Rows.bufferPlaysRow.shortTexts.isNone) = true := by kernel_rfl
theorem c26 : ((Rows.bufferPlaysRow.lifted == Try.pinned.checked.prog.liftsFinal)) = true := by rw [Try.shared26]; kernel_rfl
theorem c27 : ((Try.pinned.checked.prog.make == some Rows.bufferPlaysRow.make)) = true := by rw [Try.shared27]; kernel_rfl
theorem c29 : ((Rows.bufferPlaysRow.pinned == Rows.bufferPlaysRow.pinnedBy)) = true := by kernel_rfl
theorem c30 : ((Rows.bufferPlaysRow.veiled == (Try.f6.params.toList ++ Rows.bufferPlaysSpec.plain.varTypes Try.pinned.checked.prog ++ Try.f6.resultTypes.toList).any (Try.pinned.checked.prog.veiledRec ·))) = true := by kernel_rfl
theorem c31 : (Rows.bufferPlaysRow.veiledFits Try.pinned.checked.prog Try.f6.params.toList (Try.f6.params.toList ++ Rows.bufferPlaysSpec.plain.varTypes Try.pinned.checked.prog ++ Try.f6.resultTypes.toList)) = true := by kernel_rfl
theorem closed : joinedFacts Try.pinned.checked.prog 6 Try.f6 Rows.bufferPlaysSpec Rows.bufferPlaysRow = true := by
  unfold joinedFacts
  rw [c0, Try.shared1, Try.shared2, c3, c4, c5, Try.shared6, c7, Try.shared8, c9, c10, c11, c12, c13, c14, c15, c16, c17, c18, c19, c20, c21, c22, c23, Try.shared24, Try.shared25, c26, c27, c29, c30, c31]
  kernel_rfl
theorem rd : ∀ t ∈ [43, 3], Try.prog.readableRec t = true ∧ t < Try.prog.types.size := by
  have h : ([43, 3].all fun t => Try.prog.readableRec t && decide (t < Try.prog.types.size)) = true := by kernel_rfl
  intro t ht
  have := List.all_eq_true.1 h t ht
  simpa using this
theorem sh43 : shOf Try.prog 12 43 = some (.sl (.int .u8 (.int .i64 (.int .i64 (.str .nil)))) .nil) := by kernel_rfl
set_option maxRecDepth 100000 in
theorem opened {H : Type} {enc : TypeId × Value → H} {W : World} {base : Nat} {args : Array Value} {ds : List (DataW H)} {p : List MemPlace}
    (hval : ∀ (j : Nat) t v, (#[43, 3] : Array TypeId)[j]? = some t → args[j]? = some v → Value.okWide Try.prog W .any base t v) (hA : DataW.TrodAll enc Try.prog W 0 (fun _ => true) true [43, 3] args.toList ds p) :
    Calls Try.prog 6 args W fun e W' => e = .returned (.bool true) ∧ Below W.heap.size W W' := by
  obtain ⟨v0, v1, d0, d1, p0, p1, e, rfl, rfl, h0, h1⟩ := trodAll_two hA
  obtain rfl : args = #[v0, v1] := by cases args; simp_all
  have hs := open_sls Try.underlying43 sh43 (hval 0 43 v0 rfl rfl) h0
  obtain ⟨a1, rfl, rfl, rfl, w1⟩ := open_int Try.underlying3 (hval 1 3 v1 rfl rfl) h1
  obtain ⟨A, n, c, rfl, hn, hc, hcell⟩ := sl_open hs (by decide)
  by_cases hbig : n ≤ 200
  · rcases hcell with h0 | ⟨g, o, rfl, hcell⟩
    · subst h0
      exact bufferPlays_none A c a1 W
    · obtain ⟨acts, hl, hacts⟩ := list_of (p := fun k x => ActAt W g (o + k * 4) x) n (fun i hi => by
        obtain ⟨cs, _, hget, k, _, rfl, wk, p, _, rfl, _, kd, _, rfl, _, d, _, rfl, _, rfl⟩ := hcell i hi
        exact ⟨⟨k, ⟨p, kd, d⟩⟩, hget 0 _ rfl, hget 1 _ rfl, hget 2 _ rfl, hget 3 _ rfl, bounds_u8 wk⟩)
      exact bufferPlays_w g o n c acts a1 W hl hbig hacts
  · exact bufferPlays_big A n c a1 W hbig
set_option maxRecDepth 100000 in
theorem lifted (os : Os) (started : os.Started) (H : Type) (enc : TypeId × Value → H) :
    ReturnsInHanded {} Try.checked os 6 .any (Rows.bufferPlaysSpec.pre6 enc Try.prog Try.f6 Rows.bufferPlaysRow.domain false) (Rows.bufferPlaysSpec.post enc Try.prog Try.f6 false true false false) := by
  refine returnsInHanded_of_change (C := Try.checked) Try.ownK started (by kernel_rfl) Try.func6
    (ChangeSpec.witness6 (enc := enc) (C := Try.checked) false ⟨#[], #[.slice none 0 0, .int .i64 0], []⟩ 12 (by kernel_rfl) (by kernel_rfl) (by kernel_rfl) (by kernel_rfl)) ?_
  intro W base args ds gs before hval0 hW hcnd _
  have hval : ∀ (j : Nat) t v, Try.f6.params[j]? = some t → args[j]? = some v → Value.okWide Try.prog W .any base t v := hval0
  refine law_step (ts := [43, 3]) (by rw [Try.params6]) (by kernel_rfl) rfl rd (fun ds h => match ds, h with | [a0, a1], _ => rfl) hW fun p hA => ?_
  rw [Try.params6] at hval
  exact opened hval hA
theorem over : Rows.bufferPlaysRow.holds Try.pinned (OpenSpec.ofChange Rows.bufferPlaysSpec) :=
  OpenClaim.holds_of_wide 6 Try.f6 rfl rfl rfl rfl rfl rfl rfl ⟨rfl, rfl, rfl, rfl, rfl⟩ rfl rfl rfl rfl rfl (by kernel_rfl) Try.func6 closed
    (of_decide_eq_true (by kernel_rfl)) (by unfold Func.isWrapper; first | (rw [if_pos (by decide +kernel)]; kernel_rfl) | (rw [if_neg (by decide +kernel)]; exact ⟨rfl, rfl⟩))
    (fun os started H enc _ => lifted os started H enc)
theorem proved : Rows.BufferPlaysSaid := over
#print axioms proved
end Go.Proofs.Ytppndeoiifkkkaa.bufferPlays
