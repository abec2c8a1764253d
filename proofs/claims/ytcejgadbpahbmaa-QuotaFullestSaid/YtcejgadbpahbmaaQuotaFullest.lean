/- QuotaFullest (P41.1): for every row of wishes, and every two numbers, the law returns true, and changes nothing. No condition. -/
import Derived.ChangeMaps5
import Derived.SizedLaws
import Derived.Test.YtcejgadbpahbmaaMQFA
import Derived.Test.YtcejgadbpahbmaaMQFF
namespace Go.Proofs.Ytcejgadbpahbmaa.quotaFullest
open Sz Go.ChangeShapes Go.WideShapes Go.ChangeAt Go.RowKit
set_option linter.unusedVariables false
theorem c0 : (Rows.quotaFullestRow.wf (OpenSpec.ofChange Rows.quotaFullestSpec)) = true := by kernel_rfl
theorem c3 : (Try.f7.params.all (Try.pinned.checked.prog.readableRec ·)) = true := by kernel_rfl
theorem c4 : (namedTie Try.pinned.checked.prog Rows.quotaFullestRow.named Rows.quotaFullestSpec.vars) = true := by kernel_rfl
theorem c5 : ((Rows.quotaFullestRow.stops == [])) = true := by kernel_rfl
theorem c7 : ((Rows.quotaFullestRow.knobs == [])) = true := by kernel_rfl
theorem c9 : ((Rows.quotaFullestRow.inPlace == Try.pinned.checked.prog.inPlace 7)) = true := by kernel_rfl
theorem c10 : ((Rows.quotaFullestRow.unfollowed == Try.pinned.checked.prog.unfollowed 7)) = true := by kernel_rfl
theorem c11 : ((Rows.quotaFullestRow.recurses == Try.pinned.checked.prog.recurses 7)) = true := by kernel_rfl
theorem c12 : ((Rows.quotaFullestRow.named == Try.pinned.checked.prog.varsNamed 7)) = true := by kernel_rfl
theorem c13 : ((Rows.quotaFullestRow.maps == (Try.f7.params.toList ++ Rows.quotaFullestSpec.plain.varTypes Try.pinned.checked.prog).any (Try.pinned.checked.prog.mapsRec ·))) = true := by kernel_rfl
theorem c14 : ((Rows.quotaFullestRow.ifaces == (Try.f7.params.toList ++ Rows.quotaFullestSpec.plain.varTypes Try.pinned.checked.prog).any (Try.pinned.checked.prog.ifacesRec ·))) = true := by kernel_rfl
theorem c15 : ((Rows.quotaFullestRow.mapsOut == Try.pinned.checked.prog.mapsAmong Try.f7.resultTypes.toList)) = true := by kernel_rfl
theorem c16 : ((Rows.quotaFullestRow.loops == (Try.f7.params.toList ++ Rows.quotaFullestSpec.plain.varTypes Try.pinned.checked.prog).any (Try.pinned.checked.prog.loopsFrom ·))) = true := by kernel_rfl
theorem c17 : ((Rows.quotaFullestRow.wideKeys == (Try.f7.params.toList ++ Rows.quotaFullestSpec.plain.varTypes Try.pinned.checked.prog ++ Try.f7.resultTypes.toList).any (Try.pinned.checked.prog.wideKeysFrom ·))) = true := by kernel_rfl
theorem c18 : (Rows.quotaFullestSpec.vars.all (Try.pinned.checked.prog.varReadable ·)) = true := by kernel_rfl
theorem c19 : (Try.f7.resultTypes.all (fun t => Try.pinned.checked.prog.readableRec t && decide (t < Try.pinned.checked.prog.types.size))) = true := by kernel_rfl
theorem c20 : ((Rows.quotaFullestRow.ifacesOut == Try.f7.resultTypes.toList.any (Try.pinned.checked.prog.ifacesRec ·))) = true := by kernel_rfl
theorem c21 : ((Rows.quotaFullestRow.loopsOut == Try.f7.resultTypes.toList.any (Try.pinned.checked.prog.loopsFrom ·))) = true := by kernel_rfl
theorem c22 : ((Rows.quotaFullestRow.plainKeys == Try.pinned.checked.prog.plainKeys)) = true := by rw [Try.shared22]; kernel_rfl
theorem c23 : (Rows.quotaFullestRow.shortTexts.isNone) = true := by kernel_rfl
theorem c26 : ((Rows.quotaFullestRow.lifted == Try.pinned.checked.prog.liftsFinal)) = true := by rw [Try.shared26]; kernel_rfl
theorem c27 : ((Try.pinned.checked.prog.make == some Rows.quotaFullestRow.make)) = true := by rw [Try.shared27]; kernel_rfl
theorem c29 : ((Rows.quotaFullestRow.pinned == Rows.quotaFullestRow.pinnedBy)) = true := by kernel_rfl
theorem c30 : ((Rows.quotaFullestRow.veiled == (Try.f7.params.toList ++ Rows.quotaFullestSpec.plain.varTypes Try.pinned.checked.prog ++ Try.f7.resultTypes.toList).any (Try.pinned.checked.prog.veiledRec ·))) = true := by kernel_rfl
theorem c31 : (Rows.quotaFullestRow.veiledFits Try.pinned.checked.prog Try.f7.params.toList (Try.f7.params.toList ++ Rows.quotaFullestSpec.plain.varTypes Try.pinned.checked.prog ++ Try.f7.resultTypes.toList)) = true := by kernel_rfl
theorem closed : joinedFacts Try.pinned.checked.prog 7 Try.f7 Rows.quotaFullestSpec Rows.quotaFullestRow = true := by
  unfold joinedFacts
  rw [c0, Try.shared1, Try.shared2, c3, c4, c5, Try.shared6, c7, Try.shared8, c9, c10, c11, c12, c13, c14, c15, c16, c17, c18, c19, c20, c21, c22, c23, Try.shared24, Try.shared25, c26, c27, c29, c30, c31]
  kernel_rfl
theorem rd : ∀ t ∈ [55, 3, 3], Try.prog.readableRec t = true ∧ t < Try.prog.types.size := by
  have h : ([55, 3, 3].all fun t => Try.prog.readableRec t && decide (t < Try.prog.types.size)) = true := by kernel_rfl
  intro t ht
  have := List.all_eq_true.1 h t ht
  simpa using this
theorem sh55 : shOfR Try.prog 20 55 = some (.sl 16 (.int .i64 (.int .i64 .nil)) .nil) := by kernel_rfl
theorem rgs_of {W : World} {v : Value} (h : SlFitsR W v 2 16 (ShR.fits W (.int .i64 (.int .i64 .nil)))) : ∃ A c, ∃ l : List Ra.Rg, v = .slice A l.length c ∧ l.length ≤ c ∧ @inpL (inpOf W) A (l.length * 2) = some (rowV Rc.gV l) := by
  obtain ⟨A, n, c, xs, rfl, hn, hc, hl, hq, hin⟩ := rows_of_sl (cs := Rc.gV) (Q := fun x : Ra.Rg => True) Rc.gV_len (by decide) h.1 (fun l hf => by
    obtain ⟨x, _, rfl, _, y, _, rfl, _, rfl⟩ := hf
    exact ⟨⟨x, y⟩, rfl, trivial⟩)
  subst hl
  exact ⟨A, c, xs, rfl, hn, hin⟩
set_option maxRecDepth 100000 in
theorem opened {H : Type} {enc : TypeId × Value → H} {W : World} {base : Nat} {args : Array Value} {ds gs : List (DataW H)} {vt : List TypeId} {p : List MemPlace}
    (hval : ∀ (j : Nat) t v, (#[55, 3, 3] : Array TypeId)[j]? = some t → args[j]? = some v → Value.okWide Try.prog W .any base t v) (hA : DataW.TrodAll enc Try.prog W 0 (fun _ => true) true [55, 3, 3] args.toList ds p)
    (hz : (DataW.weightsEach Try.prog ([55, 3, 3] ++ vt) (ds ++ gs)).all (· ≤ reachBytes) = true) :
    Calls Try.prog 7 args W fun e W' => e = .returned (.bool true) ∧ Below W.heap.size W W' := by
  obtain ⟨v0, v1, v2, d0, d1, d2, p0, p1, p2, e0, rfl, rfl, h0, h1, h2⟩ := trodAll_three hA
  obtain rfl : args = #[v0, v1, v2] := by cases args; simp_all
  have hz0 : ∀ q ∈ d0.weights Try.prog 55, q ≤ reachBytes := fun q hq => of_decide_eq_true (List.all_eq_true.1 hz q (DataW.weights_mem_each (j := 0) rfl rfl q hq))
  obtain ⟨A, q, l, rfl, hlc, hin⟩ := rgs_of (openR_sls Try.underlying55 sh55 (hval 0 55 v0 rfl rfl) h0 hz0)
  obtain ⟨a1, rfl, rfl, rfl, w1⟩ := open_int Try.underlying3 (hval 1 3 v1 rfl rfl) h1
  obtain ⟨a2, rfl, rfl, rfl, w2⟩ := open_int Try.underlying3 (hval 2 3 v2 rfl rfl) h2
  refine law_read (tr := fun I => @Ytcejgadbpahbmaa.Qu.c7 I) (args := [.slice A l.length q, .int .i64 a1, .int .i64 a2]) (fun I => @Ytcejgadbpahbmaa.Qu.c7_ok I) ?_
  exact ⟨A, q, l, a1, a2, rfl, hin, hlc, rfl⟩

set_option maxRecDepth 100000 in
theorem lifted (os : Os) (started : os.Started) (H : Type) (enc : TypeId × Value → H) :
    ReturnsInHanded {} Try.checked os 7 .any (Rows.quotaFullestSpec.pre6 enc Try.prog Try.f7 Rows.quotaFullestRow.domain false) (Rows.quotaFullestSpec.post enc Try.prog Try.f7 false true false false) := by
  refine returnsInHanded_of_change_sized (C := Try.checked) Try.ownK started (by kernel_rfl) Try.func7
    (ChangeSpec.witness6 (enc := enc) (C := Try.checked) false ⟨#[], #[.slice none 0 0, .int .i64 0, .int .i64 0], []⟩ 12 (by kernel_rfl) (by kernel_rfl) (by kernel_rfl) (by kernel_rfl)) ?_
  intro W base args ds gs before hval0 hW hcnd hz _
  have hval : ∀ (j : Nat) t v, Try.f7.params[j]? = some t → args[j]? = some v → Value.okWide Try.prog W .any base t v := hval0
  refine law_step (ts := [55, 3, 3]) (by rw [Try.params7]) (by kernel_rfl) rfl rd (fun ds h => match ds, h with | [a0, a1, a2], _ => rfl) hW fun p hA => ?_
  rw [Try.params7] at hval
  rw [Try.params7] at hz
  exact opened hval hA hz
theorem over : Rows.quotaFullestRow.holds Try.pinned (OpenSpec.ofChange Rows.quotaFullestSpec) :=
  OpenClaim.holds_of_wide 7 Try.f7 rfl rfl rfl rfl rfl rfl rfl ⟨rfl, rfl, rfl, rfl, rfl⟩ rfl rfl rfl rfl rfl (by kernel_rfl) Try.func7 closed
    (of_decide_eq_true (by kernel_rfl)) (by unfold Func.isWrapper; first | (rw [if_pos (by decide +kernel)]; kernel_rfl) | (rw [if_neg (by decide +kernel)]; exact ⟨rfl, rfl⟩))
    (fun os started H enc _ => lifted os started H enc)
theorem proved : Rows.QuotaFullestSaid := over
#print axioms proved
end Go.Proofs.Ytcejgadbpahbmaa.quotaFullest

