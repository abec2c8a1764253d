/- RangesCount (P51.1): for every row of ranges the law returns true, and changes nothing. No condition. -/
import Derived.ChangeMaps5
import Derived.SizedLaws
import Derived.Test.YtcejgadbpahbmaaMRCA
import Derived.Test.YtcejgadbpahbmaaMRCF
namespace Go.Proofs.Ytcejgadbpahbmaa.rangesCount
open Sz Go.ChangeShapes Go.WideShapes Go.ChangeAt Go.RowKit
set_option linter.unusedVariables false
theorem c0 : (Rows.rangesCountRow.wf (OpenSpec.ofChange Rows.rangesCountSpec)) = true := by kernel_rfl
theorem c3 : (Try.f5.params.all (Try.pinned.checked.prog.readableRec ·)) = true := by kernel_rfl
theorem c4 : (namedTie Try.pinned.checked.prog Rows.rangesCountRow.named Rows.rangesCountSpec.vars) = true := by kernel_rfl
theorem c5 : ((Rows.rangesCountRow.stops == [])) = true := by kernel_rfl
theorem c7 : ((Rows.rangesCountRow.knobs == [])) = true := by kernel_rfl
theorem c9 : ((Rows.rangesCountRow.inPlace == Try.pinned.checked.prog.inPlace 5)) = true := by kernel_rfl
theorem c10 : ((Rows.rangesCountRow.unfollowed == Try.pinned.checked.prog.unfollowed 5)) = true := by kernel_rfl
theorem c11 : ((Rows.rangesCountRow.recurses == Try.pinned.checked.prog.recurses 5)) = true := by kernel_rfl
theorem c12 : ((Rows.rangesCountRow.named == Try.pinned.checked.prog.varsNamed 5)) = true := by kernel_rfl
theorem c13 : ((Rows.rangesCountRow.maps == (Try.f5.params.toList ++ Rows.rangesCountSpec.plain.varTypes Try.pinned.checked.prog).any (Try.pinned.checked.prog.mapsRec ·))) = true := by kernel_rfl
theorem c14 : ((Rows.rangesCountRow.ifaces == (Try.f5.params.toList ++ Rows.rangesCountSpec.plain.varTypes Try.pinned.checked.prog).any (Try.pinned.checked.prog.ifacesRec ·))) = true := by kernel_rfl
theorem c15 : ((Rows.rangesCountRow.mapsOut == Try.pinned.checked.prog.mapsAmong Try.f5.resultTypes.toList)) = true := by kernel_rfl
theorem c16 : ((Rows.rangesCountRow.loops == (Try.f5.params.toList ++ Rows.rangesCountSpec.plain.varTypes Try.pinned.checked.prog).any (Try.pinned.checked.prog.loopsFrom ·))) = true := by kernel_rfl
theorem c17 : ((Rows.rangesCountRow.wideKeys == (Try.f5.params.toList ++ Rows.rangesCountSpec.plain.varTypes Try.pinned.checked.prog ++ Try.f5.resultTypes.toList).any (Try.pinned.checked.prog.wideKeysFrom ·))) = true := by kernel_rfl
theorem c18 : (Rows.rangesCountSpec.vars.all (Try.pinned.checked.prog.varReadable ·)) = true := by kernel_rfl
theorem c19 : (Try.f5.resultTypes.all (fun t => Try.pinned.checked.prog.readableRec t && decide (t < Try.pinned.checked.prog.types.size))) = true := by kernel_rfl
theorem c20 : ((Rows.rangesCountRow.ifacesOut == Try.f5.resultTypes.toList.any (Try.pinned.checked.prog.ifacesRec ·))) = true := by kernel_rfl
theorem c21 : ((Rows.rangesCountRow.loopsOut == Try.f5.resultTypes.toList.any (Try.pinned.checked.prog.loopsFrom ·))) = true := by kernel_rfl
theorem c22 : ((Rows.rangesCountRow.plainKeys == Try.pinned.checked.prog.plainKeys)) = true := by rw [Try.shared22]; kernel_rfl
theorem c23 : (Rows.rangesCountRow.shortTexts.isNone) = true := by kernel_rfl
theorem c26 : ((Rows.rangesCountRow.lifted == Try.pinned.checked.prog.liftsFinal)) = true := by rw [Try.shared26]; kernel_rfl
theorem c27 : ((Try.pinned.checked.prog.make == some Rows.rangesCountRow.make)) = true := by rw [Try.shared27]; kernel_rfl
theorem c29 : ((Rows.rangesCountRow.pinned == Rows.rangesCountRow.pinnedBy)) = true := by kernel_rfl
theorem c30 : ((Rows.rangesCountRow.veiled == (Try.f5.params.toList ++ Rows.rangesCountSpec.plain.varTypes Try.pinned.checked.prog ++ Try.f5.resultTypes.toList).any (Try.pinned.checked.prog.veiledRec ·))) = true := by kernel_rfl
theorem c31 : (Rows.rangesCountRow.veiledFits Try.pinned.checked.prog Try.f5.params.toList (Try.f5.params.toList ++ Rows.rangesCountSpec.plain.varTypes Try.pinned.checked.prog ++ Try.f5.resultTypes.toList)) = true := by kernel_rfl
theorem closed : joinedFacts Try.pinned.checked.prog 5 Try.f5 Rows.rangesCountSpec Rows.rangesCountRow = true := by
  unfold joinedFacts
  rw [c0, Try.shared1, Try.shared2, c3, c4, c5, Try.shared6, c7, Try.shared8, c9, c10, c11, c12, c13, c14, c15, c16, c17, c18, c19, c20, c21, c22, c23, Try.shared24, Try.shared25, c26, c27, c29, c30, c31]
  kernel_rfl
theorem rd : ∀ t ∈ [43], Try.prog.readableRec t = true ∧ t < Try.prog.types.size := by
  have h : ([43].all fun t => Try.prog.readableRec t && decide (t < Try.prog.types.size)) = true := by kernel_rfl
  intro t ht
  have := List.all_eq_true.1 h t ht
  simpa using this
theorem sh43 : shOfR Try.prog 20 43 = some (.sl 16 (.int .i64 (.int .i64 .nil)) .nil) := by kernel_rfl
theorem rgs_of {W : World} {v : Value} (h : SlFitsR W v 2 16 (ShR.fits W (.int .i64 (.int .i64 .nil)))) : ∃ A c, ∃ l : List Ra.Rg, v = .slice A l.length c ∧ @inpL (inpOf W) A (l.length * 2) = some (rowV Rc.gV l) := by
  obtain ⟨A, n, c, xs, rfl, hn, hc, hl, hq, hin⟩ := rows_of_sl (cs := Rc.gV) (Q := fun x : Ra.Rg => True) Rc.gV_len (by decide) h.1 (fun l hf => by
    obtain ⟨x, _, rfl, _, y, _, rfl, _, rfl⟩ := hf
    exact ⟨⟨x, y⟩, rfl, trivial⟩)
  subst hl
  exact ⟨A, c, xs, rfl, hin⟩
set_option maxRecDepth 100000 in
theorem opened {H : Type} {enc : TypeId × Value → H} {W : World} {base : Nat} {args : Array Value} {ds gs : List (DataW H)} {vt : List TypeId} {p : List MemPlace}
    (hval : ∀ (j : Nat) t v, (#[43] : Array TypeId)[j]? = some t → args[j]? = some v → Value.okWide Try.prog W .any base t v) (hA : DataW.TrodAll enc Try.prog W 0 (fun _ => true) true [43] args.toList ds p)
    (hz : (DataW.weightsEach Try.prog ([43] ++ vt) (ds ++ gs)).all (· ≤ reachBytes) = true) :
    Calls Try.prog 5 args W fun e W' => e = .returned (.bool true) ∧ Below W.heap.size W W' := by
  obtain ⟨v0, d0, rfl, rfl, h0⟩ := trodAll_one hA
  have hz0 : ∀ q ∈ d0.weights Try.prog 43, q ≤ reachBytes := fun q hq => of_decide_eq_true (List.all_eq_true.1 hz q (DataW.weights_mem_each (j := 0) rfl rfl q hq))
  obtain ⟨A, q, l, rfl, hin⟩ := rgs_of (openR_sls Try.underlying43 sh43 (hval 0 43 v0 rfl rfl) h0 hz0)
  refine law_read (tr := fun I => @Ytcejgadbpahbmaa.Rc.c5 I) (args := [.slice A l.length q]) (fun I => @Ytcejgadbpahbmaa.Rc.c5_ok I) ?_
  exact ⟨A, q, l, rfl, hin, rfl⟩

set_option maxRecDepth 100000 in
theorem lifted (os : Os) (started : os.Started) (H : Type) (enc : TypeId × Value → H) :
    ReturnsInHanded {} Try.checked os 5 .any (Rows.rangesCountSpec.pre6 enc Try.prog Try.f5 Rows.rangesCountRow.domain false) (Rows.rangesCountSpec.post enc Try.prog Try.f5 false true false false) := by
  refine returnsInHanded_of_change_sized (C := Try.checked) Try.ownK started (by kernel_rfl) Try.func5
    (ChangeSpec.witness6 (enc := enc) (C := Try.checked) false ⟨#[], #[.slice none 0 0], []⟩ 12 (by kernel_rfl) (by kernel_rfl) (by kernel_rfl) (by kernel_rfl)) ?_
  intro W base args ds gs before hval0 hW hcnd hz _
  have hval : ∀ (j : Nat) t v, Try.f5.params[j]? = some t → args[j]? = some v → Value.okWide Try.prog W .any base t v := hval0
  refine law_step (ts := [43]) (by rw [Try.params5]) (by kernel_rfl) rfl rd (fun ds h => match ds, h with | [a0], _ => rfl) hW fun p hA => ?_
  rw [Try.params5] at hval
  rw [Try.params5] at hz
  exact opened hval hA hz
theorem over : Rows.rangesCountRow.holds Try.pinned (OpenSpec.ofChange Rows.rangesCountSpec) :=
  OpenClaim.holds_of_wide 5 Try.f5 rfl rfl rfl rfl rfl rfl rfl ⟨rfl, rfl, rfl, rfl, rfl⟩ rfl rfl rfl rfl rfl (by kernel_rfl) Try.func5 closed
    (of_decide_eq_true (by kernel_rfl)) (by unfold Func.isWrapper; first | (rw [if_pos (by decide +kernel)]; kernel_rfl) | (rw [if_neg (by decide +kernel)]; exact ⟨rfl, rfl⟩))
    (fun os started H enc _ => lifted os started H enc)
theorem proved : Rows.RangesCountSaid := over
#print axioms proved
end Go.Proofs.Ytcejgadbpahbmaa.rangesCount

