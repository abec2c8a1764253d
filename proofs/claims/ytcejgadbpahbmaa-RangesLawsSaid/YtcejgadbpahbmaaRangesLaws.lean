/- RangesLaws (P51.1): for every two rows of ranges the law returns true, and changes nothing. No condition. -/
import Derived.ChangeMaps5
import Derived.SizedLaws
import Derived.Test.YtcejgadbpahbmaaMRLA
import Derived.Test.YtcejgadbpahbmaaMRLE
namespace Go.Proofs.Ytcejgadbpahbmaa.rangesLaws
open Sz Go.ChangeShapes Go.WideShapes Go.ChangeAt Go.RowKit
set_option linter.unusedVariables false
theorem c0 : (Rows.rangesLawsRow.wf (OpenSpec.ofChange Rows.rangesLawsSpec)) = true := by kernel_rfl
theorem c3 : (Try.f6.params.all (Try.pinned.checked.prog.readableRec ·)) = true := by kernel_rfl
theorem c4 : (namedTie Try.pinned.checked.prog Rows.rangesLawsRow.named Rows.rangesLawsSpec.vars) = true := by kernel_rfl
theorem c5 : ((Rows.rangesLawsRow.stops == [])) = true := by kernel_rfl
theorem c7 : ((Rows.rangesLawsRow.knobs == [])) = true := by kernel_rfl
theorem c9 : ((Rows.rangesLawsRow.inPlace == Try.pinned.checked.prog.inPlace 6)) = true := by kernel_rfl
theorem c10 : ((Rows.rangesLawsRow.unfollowed == Try.pinned.checked.prog.unfollowed 6)) = true := by kernel_rfl
theorem c11 : ((Rows.rangesLawsRow.recurses == Try.pinned.checked.prog.recurses 6)) = true := by kernel_rfl
theorem c12 : ((Rows.rangesLawsRow.named == Try.pinned.checked.prog.varsNamed 6)) = true := by kernel_rfl
theorem c13 : ((Rows.rangesLawsRow.maps == (Try.f6.params.toList ++ Rows.rangesLawsSpec.plain.varTypes Try.pinned.checked.prog).any (Try.pinned.checked.prog.mapsRec ·))) = true := by kernel_rfl
theorem c14 : ((Rows.rangesLawsRow.ifaces == (Try.f6.params.toList ++ Rows.rangesLawsSpec.plain.varTypes Try.pinned.checked.prog).any (Try.pinned.checked.prog.ifacesRec ·))) = true := by kernel_rfl
theorem c15 : ((Rows.rangesLawsRow.mapsOut == Try.pinned.checked.prog.mapsAmong Try.f6.resultTypes.toList)) = true := by kernel_rfl
theorem c16 : ((Rows.rangesLawsRow.loops == (Try.f6.params.toList ++ Rows.rangesLawsSpec.plain.varTypes Try.pinned.checked.prog).any (Try.pinned.checked.prog.loopsFrom ·))) = true := by kernel_rfl
theorem c17 : ((Rows.rangesLawsRow.wideKeys == (Try.f6.params.toList ++ Rows.rangesLawsSpec.plain.varTypes Try.pinned.checked.prog ++ Try.f6.resultTypes.toList).any (Try.pinned.checked.prog.wideKeysFrom ·))) = true := by kernel_rfl
theorem c18 : (Rows.rangesLawsSpec.vars.all (Try.pinned.checked.prog.varReadable ·)) = true := by kernel_rfl
theorem c19 : (Try.f6.resultTypes.all (fun t => Try.pinned.checked.prog.readableRec t && decide (t < Try.pinned.checked.prog.types.size))) = true := by kernel_rfl
theorem c20 : ((Rows.rangesLawsRow.ifacesOut == Try.f6.resultTypes.toList.any (Try.pinned.checked.prog.ifacesRec ·))) = true := by kernel_rfl
theorem c21 : ((Rows.rangesLawsRow.loopsOut == Try.f6.resultTypes.toList.any (Try.pinned.checked.prog.loopsFrom ·))) = true := by kernel_rfl
theorem c22 : ((Rows.rangesLawsRow.plainKeys == Try.pinned.checked.prog.plainKeys)) = true := by rw [Try.shared22]; kernel_rfl
theorem c23 : (Rows.rangesLawsRow.shortTexts.isNone) = true := by kernel_rfl
theorem c26 : ((Rows.rangesLawsRow.lifted == Try.pinned.checked.prog.liftsFinal)) = true := by rw [Try.shared26]; kernel_rfl
theorem c27 : ((Try.pinned.checked.prog.make == some Rows.rangesLawsRow.make)) = true := by rw [Try.shared27]; kernel_rfl
theorem c29 : ((Rows.rangesLawsRow.pinned == Rows.rangesLawsRow.pinnedBy)) = true := by kernel_rfl
theorem c30 : ((Rows.rangesLawsRow.veiled == (Try.f6.params.toList ++ Rows.rangesLawsSpec.plain.varTypes Try.pinned.checked.prog ++ Try.f6.resultTypes.toList).any (Try.pinned.checked.prog.veiledRec ·))) = true := by kernel_rfl
theorem c31 : (Rows.rangesLawsRow.veiledFits Try.pinned.checked.prog Try.f6.params.toList (Try.f6.params.toList ++ Rows.rangesLawsSpec.plain.varTypes Try.pinned.checked.prog ++ Try.f6.resultTypes.toList)) = true := by kernel_rfl
theorem closed : joinedFacts Try.pinned.checked.prog 6 Try.f6 Rows.rangesLawsSpec Rows.rangesLawsRow = true := by
  unfold joinedFacts
  rw [c0, Try.shared1, Try.shared2, c3, c4, c5, Try.shared6, c7, Try.shared8, c9, c10, c11, c12, c13, c14, c15, c16, c17, c18, c19, c20, c21, c22, c23, Try.shared24, Try.shared25, c26, c27, c29, c30, c31]
  kernel_rfl
theorem rd : ∀ t ∈ [43, 43], Try.prog.readableRec t = true ∧ t < Try.prog.types.size := by
  have h : ([43, 43].all fun t => Try.prog.readableRec t && decide (t < Try.prog.types.size)) = true := by kernel_rfl
  intro t ht
  have := List.all_eq_true.1 h t ht
  simpa using this
theorem sh43 : shOfR Try.prog 20 43 = some (.sl 16 (.int .i64 (.int .i64 .nil)) .nil) := by kernel_rfl
theorem rgs_of {W : World} {v : Value} (h : SlFitsR W v 2 16 (ShR.fits W (.int .i64 (.int .i64 .nil)))) : ∃ A c, ∃ l : List Ra.Rg, v = .slice A l.length c ∧ @inpL (inpOf W) A (l.length * 2) = some (rowV Rc.gV l) := by
  obtain ⟨A, n, c, xs, rfl, hn, hc, hl, hq, hin⟩ := rows_of_sl (cs := Rc.gV) (Q := fun x : Ra.Rg => True) Rc.gV_len (by decide) h.1 (fun l hf => by
    obtain ⟨x, _, rfl, _, y, _, rfl, _, rfl⟩ := hf
    exact ⟨⟨x, y⟩, rfl, trivial⟩)
  subst hl
  exact ⟨A, c, xs, rfl, hin⟩
set_option maxRecDepth 100000 in
theorem opened {H : Type} {enc : TypeId × Value → H} {W : World} {base : Nat} {args : Array Value} {ds gs : List (DataW H)} {vt : List TypeId} {p : List MemPlace}
    (hval : ∀ (j : Nat) t v, (#[43, 43] : Array TypeId)[j]? = some t → args[j]? = some v → Value.okWide Try.prog W .any base t v) (hA : DataW.TrodAll enc Try.prog W 0 (fun _ => true) true [43, 43] args.toList ds p)
    (hz : (DataW.weightsEach Try.prog ([43, 43] ++ vt) (ds ++ gs)).all (· ≤ reachBytes) = true) :
    Calls Try.prog 6 args W fun e W' => e = .returned (.bool true) ∧ Below W.heap.size W W' := by
  obtain ⟨v0, v1, d0, d1, p0, p1, e, rfl, rfl, h0, h1⟩ := trodAll_two hA
  obtain rfl : args = #[v0, v1] := by cases args; simp_all
  have hz0 : ∀ q ∈ d0.weights Try.prog 43, q ≤ reachBytes := fun q hq => of_decide_eq_true (List.all_eq_true.1 hz q (DataW.weights_mem_each (j := 0) rfl rfl q hq))
  have hz1 : ∀ q ∈ d1.weights Try.prog 43, q ≤ reachBytes := fun q hq => of_decide_eq_true (List.all_eq_true.1 hz q (DataW.weights_mem_each (j := 1) rfl rfl q hq))
  obtain ⟨A, q, l, rfl, hin⟩ := rgs_of (openR_sls Try.underlying43 sh43 (hval 0 43 v0 rfl rfl) h0 hz0)
  obtain ⟨A', q', l', rfl, hin'⟩ := rgs_of (openR_sls Try.underlying43 sh43 (hval 1 43 v1 rfl rfl) h1 hz1)
  refine law_read (tr := fun I => @Ytcejgadbpahbmaa.Rc.c6 I) (args := [.slice A l.length q, .slice A' l'.length q']) (fun I => @Ytcejgadbpahbmaa.Rc.c6_ok I) ?_
  exact ⟨A, A', q, q', l, l', rfl, hin, hin', rfl⟩

set_option maxRecDepth 100000 in
theorem lifted (os : Os) (started : os.Started) (H : Type) (enc : TypeId × Value → H) :
    ReturnsInHanded {} Try.checked os 6 .any (Rows.rangesLawsSpec.pre6 enc Try.prog Try.f6 Rows.rangesLawsRow.domain false) (Rows.rangesLawsSpec.post enc Try.prog Try.f6 false true false false) := by
  refine returnsInHanded_of_change_sized (C := Try.checked) Try.ownK started (by kernel_rfl) Try.func6
    (ChangeSpec.witness6 (enc := enc) (C := Try.checked) false ⟨#[], #[.slice none 0 0, .slice none 0 0], []⟩ 12 (by kernel_rfl) (by kernel_rfl) (by kernel_rfl) (by kernel_rfl)) ?_
  intro W base args ds gs before hval0 hW hcnd hz _
  have hval : ∀ (j : Nat) t v, Try.f6.params[j]? = some t → args[j]? = some v → Value.okWide Try.prog W .any base t v := hval0
  refine law_step (ts := [43, 43]) (by rw [Try.params6]) (by kernel_rfl) rfl rd (fun ds h => match ds, h with | [a0, a1], _ => rfl) hW fun p hA => ?_
  rw [Try.params6] at hval
  rw [Try.params6] at hz
  exact opened hval hA hz
theorem over : Rows.rangesLawsRow.holds Try.pinned (OpenSpec.ofChange Rows.rangesLawsSpec) :=
  OpenClaim.holds_of_wide 6 Try.f6 rfl rfl rfl rfl rfl rfl rfl ⟨rfl, rfl, rfl, rfl, rfl⟩ rfl rfl rfl rfl rfl (by kernel_rfl) Try.func6 closed
    (of_decide_eq_true (by kernel_rfl)) (by unfold Func.isWrapper; first | (rw [if_pos (by decide +kernel)]; kernel_rfl) | (rw [if_neg (by decide +kernel)]; exact ⟨rfl, rfl⟩))
    (fun os started H enc _ => lifted os started H enc)
theorem proved : Rows.RangesLawsSaid := over
#print axioms proved
end Go.Proofs.Ytcejgadbpahbmaa.rangesLaws

