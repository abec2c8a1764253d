/- ImageBytes (P43.1, P43.2): for every picture the law returns true, and changes nothing. No condition. -/
import Derived.ChangeMaps5
import Derived.SizedLaws
import Derived.Test.YtibefgdjijmncaaMIBA
import Derived.Test.YtibefgdjijmncaaMIBJ
namespace Go.Proofs.Ytibefgdjijmncaa.imageBytes
open Sz Go.ChangeShapes Go.WideShapes Go.ChangeAt Go.RowKit
set_option linter.unusedVariables false
theorem c0 : (Rows.imageBytesRow.wf (OpenSpec.ofChange Rows.imageBytesSpec)) = true := by kernel_rfl
theorem c3 : (Try.f3.params.all (Try.pinned.checked.prog.readableRec ·)) = true := by kernel_rfl
theorem c4 : (namedTie Try.pinned.checked.prog Rows.imageBytesRow.named Rows.imageBytesSpec.vars) = true := by kernel_rfl
theorem c5 : ((Rows.imageBytesRow.stops == [])) = true := by kernel_rfl
theorem c7 : ((Rows.imageBytesRow.knobs == [])) = true := by kernel_rfl
theorem c9 : ((Rows.imageBytesRow.inPlace == Try.pinned.checked.prog.inPlace 3)) = true := by kernel_rfl
theorem c10 : ((Rows.imageBytesRow.unfollowed == Try.pinned.checked.prog.unfollowed 3)) = true := by kernel_rfl
theorem c11 : ((Rows.imageBytesRow.recurses == Try.pinned.checked.prog.recurses 3)) = true := by kernel_rfl
theorem c12 : ((Rows.imageBytesRow.named == Try.pinned.checked.prog.varsNamed 3)) = true := by kernel_rfl
theorem c13 : ((Rows.imageBytesRow.maps == (Try.f3.params.toList ++ Rows.imageBytesSpec.plain.varTypes Try.pinned.checked.prog).any (Try.pinned.checked.prog.mapsRec ·))) = true := by kernel_rfl
theorem c14 : ((Rows.imageBytesRow.ifaces == (Try.f3.params.toList ++ Rows.imageBytesSpec.plain.varTypes Try.pinned.checked.prog).any (Try.pinned.checked.prog.ifacesRec ·))) = true := by kernel_rfl
theorem c15 : ((Rows.imageBytesRow.mapsOut == Try.pinned.checked.prog.mapsAmong Try.f3.resultTypes.toList)) = true := by kernel_rfl
theorem c16 : ((Rows.imageBytesRow.loops == (Try.f3.params.toList ++ Rows.imageBytesSpec.plain.varTypes Try.pinned.checked.prog).any (Try.pinned.checked.prog.loopsFrom ·))) = true := by kernel_rfl
theorem c17 : ((Rows.imageBytesRow.wideKeys == (Try.f3.params.toList ++ Rows.imageBytesSpec.plain.varTypes Try.pinned.checked.prog ++ Try.f3.resultTypes.toList).any (Try.pinned.checked.prog.wideKeysFrom ·))) = true := by kernel_rfl
theorem c18 : (Rows.imageBytesSpec.vars.all (Try.pinned.checked.prog.varReadable ·)) = true := by kernel_rfl
theorem c19 : (Try.f3.resultTypes.all (fun t => Try.pinned.checked.prog.readableRec t && decide (t < Try.pinned.checked.prog.types.size))) = true := by kernel_rfl
theorem c20 : ((Rows.imageBytesRow.ifacesOut == Try.f3.resultTypes.toList.any (Try.pinned.checked.prog.ifacesRec ·))) = true := by kernel_rfl
theorem c21 : ((Rows.imageBytesRow.loopsOut == Try.f3.resultTypes.toList.any (Try.pinned.checked.prog.loopsFrom ·))) = true := by kernel_rfl
theorem c22 : ((Rows.imageBytesRow.plainKeys == Try.pinned.checked.prog.plainKeys)) = true := by rw [Try.shared22]; kernel_rfl
theorem c23 : (Rows.imageBytesRow.shortTexts.isNone) = true := by kernel_rfl
theorem c26 : ((Rows.imageBytesRow.lifted == Try.pinned.checked.prog.liftsFinal)) = true := by rw [Try.shared26]; kernel_rfl
theorem c27 : ((Try.pinned.checked.prog.make == some Rows.imageBytesRow.make)) = true := by rw [Try.shared27]; kernel_rfl
theorem c29 : ((Rows.imageBytesRow.pinned == Rows.imageBytesRow.pinnedBy)) = true := by kernel_rfl
theorem c30 : ((Rows.imageBytesRow.veiled == (Try.f3.params.toList ++ Rows.imageBytesSpec.plain.varTypes Try.pinned.checked.prog ++ Try.f3.resultTypes.toList).any (Try.pinned.checked.prog.veiledRec ·))) = true := by kernel_rfl
theorem c31 : (Rows.imageBytesRow.veiledFits Try.pinned.checked.prog Try.f3.params.toList (Try.f3.params.toList ++ Rows.imageBytesSpec.plain.varTypes Try.pinned.checked.prog ++ Try.f3.resultTypes.toList)) = true := by kernel_rfl
theorem closed : joinedFacts Try.pinned.checked.prog 3 Try.f3 Rows.imageBytesSpec Rows.imageBytesRow = true := by
  unfold joinedFacts
  rw [c0, Try.shared1, Try.shared2, c3, c4, c5, Try.shared6, c7, Try.shared8, c9, c10, c11, c12, c13, c14, c15, c16, c17, c18, c19, c20, c21, c22, c23, Try.shared24, Try.shared25, c26, c27, c29, c30, c31]
  kernel_rfl
theorem rd : ∀ t ∈ [26], Try.prog.readableRec t = true ∧ t < Try.prog.types.size := by
  have h : ([26].all fun t => Try.prog.readableRec t && decide (t < Try.prog.types.size)) = true := by kernel_rfl
  intro t ht
  have := List.all_eq_true.1 h t ht
  simpa using this
theorem sh26 : shOfR Try.prog 20 26 = some (.int .i64 (.int .i64 (.int .i64 (.int .i64 (.sl 40 (.bool (.int .i64 (.sl 40 (.bool (.str (.str .nil))) .nil))) .nil))))) := by kernel_rfl
theorem agg26 : isAggT Try.prog 26 = true := by kernel_rfl
theorem blocks_of {W : World} {v : Value} (h : SlFitsR W v 3 40 (ShR.fits W (.bool (.int .i64 (.sl 40 (.bool (.str (.str .nil))) .nil))))) : ∃ A c xs, v = .slice A xs.length c ∧ @inpL (inpOf W) A (xs.length * 3) = some (rowV Bi.cs xs) ∧ (∀ x ∈ xs, @Bi.In (inpOf W) x) ∧ smallB (xs.map Bi.b) := by
  have hr : reachBytes ≤ 140737488355328 := by decide
  obtain ⟨A, n, c, xs, rfl, hn, hc, hl, hq, hin⟩ := rows_of_sl (cs := Bi.cs) (Q := fun x => @Bi.In (inpOf W) x ∧ x.b.pages.length ≤ 140737488355328 ∧ ∀ y ∈ x.b.pages, y.beside.size ≤ 140737488355328 ∧ y.data.size ≤ 140737488355328) Bi.len (by decide) h.1 (fun l hf => by
    obtain ⟨bd, _, rfl, e, _, rfl, _, w, _, rfl, hw, rfl⟩ := hf
    obtain ⟨A, n, c, ps, rfl, hn, hc, hl, hq, hin⟩ := rows_of_sl (cs := Pg.cs) (Q := fun y => y.beside.size ≤ 140737488355328 ∧ y.data.size ≤ 140737488355328) Pg.len (by decide) hw.1 (fun l hf => by
      obtain ⟨t, _, rfl, b, _, rfl, hb, d, _, rfl, hd, rfl⟩ := hf
      exact ⟨⟨t, b, d⟩, rfl, Nat.le_trans hb hr, Nat.le_trans hd hr⟩)
    have hs := hw.2 A n c rfl
    subst hl
    exact ⟨⟨⟨bd, e, ps⟩, A, c⟩, rfl, hin, by show ps.length ≤ _; omega, hq⟩)
  have hs := h.2 A n c rfl
  subst hl
  exact ⟨A, c, xs, rfl, hin, fun x hx => (hq x hx).1, by rw [List.length_map]; omega, fun b hb => by
    obtain ⟨x, hx, rfl⟩ := List.mem_map.1 hb
    exact (hq x hx).2⟩
set_option maxRecDepth 100000 in
theorem opened {H : Type} {enc : TypeId × Value → H} {W : World} {base : Nat} {args : Array Value} {ds gs : List (DataW H)} {vt : List TypeId} {p : List MemPlace}
    (hval : ∀ (j : Nat) t v, (#[26] : Array TypeId)[j]? = some t → args[j]? = some v → Value.okWide Try.prog W .any base t v) (hA : DataW.TrodAll enc Try.prog W 0 (fun _ => true) true [26] args.toList ds p)
    (hz : (DataW.weightsEach Try.prog ([26] ++ vt) (ds ++ gs)).all (· ≤ reachBytes) = true) :
    Calls Try.prog 3 args W fun e W' => e = .returned (.bool true) ∧ Below W.heap.size W W' := by
  obtain ⟨v0, d0, rfl, rfl, h0⟩ := trodAll_one hA
  have hz0 : ∀ q ∈ d0.weights Try.prog 26, q ≤ reachBytes := fun q hq => of_decide_eq_true (List.all_eq_true.1 hz q (DataW.weights_mem_each (j := 0) rfl rfl q hq))
  obtain ⟨cs, rfl, a, _, rfl, _, b, _, rfl, _, c, _, rfl, _, d, _, rfl, _, v, _, rfl, hv, rfl⟩ := openR_aggs agg26 sh26 (hval 0 26 v0 rfl rfl) h0 hz0
  obtain ⟨A, q, xs, rfl, hin, hx, hsm⟩ := blocks_of hv
  refine law_read (tr := fun I => @Ytibefgdjijmncaa.c3 I) (args := [.agg ([.int .i64 a, .int .i64 b, .int .i64 c, .int .i64 d, .slice A xs.length q] : List Value).toArray]) (fun I => @Ytibefgdjijmncaa.c3_ok I) ?_
  rw [List.map_cons, of_agg, List.map_nil]
  exact ⟨_, ⟨a, b, c, d⟩, _, rfl, @pic_plain (inpOf W) [] ⟨a, b, c, d⟩ A q xs hin hx, hsm, rfl⟩

set_option maxRecDepth 100000 in
theorem lifted (os : Os) (started : os.Started) (H : Type) (enc : TypeId × Value → H) :
    ReturnsInHanded {} Try.checked os 3 .any (Rows.imageBytesSpec.pre6 enc Try.prog Try.f3 Rows.imageBytesRow.domain false) (Rows.imageBytesSpec.post enc Try.prog Try.f3 false true false false) := by
  refine returnsInHanded_of_change_sized (C := Try.checked) Try.ownK started (by kernel_rfl) Try.func3
    (ChangeSpec.witness6 (enc := enc) (C := Try.checked) false ⟨#[], #[.agg #[.int .i64 0, .int .i64 0, .int .i64 0, .int .i64 0, .slice none 0 0]], []⟩ 12 (by kernel_rfl) (by kernel_rfl) (by kernel_rfl) (by kernel_rfl)) ?_
  intro W base args ds gs before hval0 hW hcnd hz _
  have hval : ∀ (j : Nat) t v, Try.f3.params[j]? = some t → args[j]? = some v → Value.okWide Try.prog W .any base t v := hval0
  refine law_step (ts := [26]) (by rw [Try.params3]) (by kernel_rfl) rfl rd (fun ds h => match ds, h with | [a0], _ => rfl) hW fun p hA => ?_
  rw [Try.params3] at hval
  rw [Try.params3] at hz
  exact opened hval hA hz
theorem over : Rows.imageBytesRow.holds Try.pinned (OpenSpec.ofChange Rows.imageBytesSpec) :=
  OpenClaim.holds_of_wide 3 Try.f3 rfl rfl rfl rfl rfl rfl rfl ⟨rfl, rfl, rfl, rfl, rfl⟩ rfl rfl rfl rfl rfl (by kernel_rfl) Try.func3 closed
    (of_decide_eq_true (by kernel_rfl)) (by unfold Func.isWrapper; first | (rw [if_pos (by decide +kernel)]; kernel_rfl) | (rw [if_neg (by decide +kernel)]; exact ⟨rfl, rfl⟩))
    (fun os started H enc _ => lifted os started H enc)
theorem proved : Rows.ImageBytesSaid := over
#print axioms proved
end Go.Proofs.Ytibefgdjijmncaa.imageBytes

