/- StripeEven (P37.2): for every geometry, blocks and number the law returns true, and changes nothing. No condition. -/
import Derived.ChangeMaps5
import Derived.SizedLaws
import Derived.Test.YtibefgdjijmncaaMSEA
import Derived.Test.YtibefgdjijmncaaMSEG
namespace Go.Proofs.Ytibefgdjijmncaa.stripeEven
open Sz Go.ChangeShapes Go.WideShapes Go.ChangeAt Go.RowKit
set_option linter.unusedVariables false
theorem c0 : (Rows.stripeEvenRow.wf (OpenSpec.ofChange Rows.stripeEvenSpec)) = true := by kernel_rfl
theorem c3 : (Try.f7.params.all (Try.pinned.checked.prog.readableRec ·)) = true := by kernel_rfl
theorem c4 : (namedTie Try.pinned.checked.prog Rows.stripeEvenRow.named Rows.stripeEvenSpec.vars) = true := by kernel_rfl
theorem c5 : ((Rows.stripeEvenRow.stops == [])) = true := by kernel_rfl
theorem c7 : ((Rows.stripeEvenRow.knobs == [])) = true := by kernel_rfl
theorem c9 : ((Rows.stripeEvenRow.inPlace == Try.pinned.checked.prog.inPlace 7)) = true := by kernel_rfl
theorem c10 : ((Rows.stripeEvenRow.unfollowed == Try.pinned.checked.prog.unfollowed 7)) = true := by kernel_rfl
theorem c11 : ((Rows.stripeEvenRow.recurses == Try.pinned.checked.prog.recurses 7)) = true := by kernel_rfl
theorem c12 : ((Rows.stripeEvenRow.named == Try.pinned.checked.prog.varsNamed 7)) = true := by kernel_rfl
theorem c13 : ((Rows.stripeEvenRow.maps == (Try.f7.params.toList ++ Rows.stripeEvenSpec.plain.varTypes Try.pinned.checked.prog).any (Try.pinned.checked.prog.mapsRec ·))) = true := by kernel_rfl
theorem c14 : ((Rows.stripeEvenRow.ifaces == (Try.f7.params.toList ++ Rows.stripeEvenSpec.plain.varTypes Try.pinned.checked.prog).any (Try.pinned.checked.prog.ifacesRec ·))) = true := by kernel_rfl
theorem c15 : ((Rows.stripeEvenRow.mapsOut == Try.pinned.checked.prog.mapsAmong Try.f7.resultTypes.toList)) = true := by kernel_rfl
theorem c16 : ((Rows.stripeEvenRow.loops == (Try.f7.params.toList ++ Rows.stripeEvenSpec.plain.varTypes Try.pinned.checked.prog).any (Try.pinned.checked.prog.loopsFrom ·))) = true := by kernel_rfl
theorem c17 : ((Rows.stripeEvenRow.wideKeys == (Try.f7.params.toList ++ Rows.stripeEvenSpec.plain.varTypes Try.pinned.checked.prog ++ Try.f7.resultTypes.toList).any (Try.pinned.checked.prog.wideKeysFrom ·))) = true := by kernel_rfl
theorem c18 : (Rows.stripeEvenSpec.vars.all (Try.pinned.checked.prog.varReadable ·)) = true := by kernel_rfl
theorem c19 : (Try.f7.resultTypes.all (fun t => Try.pinned.checked.prog.readableRec t && decide (t < Try.pinned.checked.prog.types.size))) = true := by kernel_rfl
theorem c20 : ((Rows.stripeEvenRow.ifacesOut == Try.f7.resultTypes.toList.any (Try.pinned.checked.prog.ifacesRec ·))) = true := by kernel_rfl
theorem c21 : ((Rows.stripeEvenRow.loopsOut == Try.f7.resultTypes.toList.any (Try.pinned.checked.prog.loopsFrom ·))) = true := by kernel_rfl
theorem c22 : ((Rows.stripeEvenRow.plainKeys == Try.pinned.checked.prog.plainKeys)) = true := by rw [Try.shared22]; kernel_rfl
theorem c23 : (Rows.stripeEvenRow.shortTexts.isNone) = true := by kernel_rfl
theorem c26 : ((Rows.stripeEvenRow.lifted == Try.pinned.checked.prog.liftsFinal)) = true := by rw [Try.shared26]; kernel_rfl
theorem c27 : ((Try.pinned.checked.prog.make == some Rows.stripeEvenRow.make)) = true := by rw [Try.shared27]; kernel_rfl
theorem c29 : ((Rows.stripeEvenRow.pinned == Rows.stripeEvenRow.pinnedBy)) = true := by kernel_rfl
theorem c30 : ((Rows.stripeEvenRow.veiled == (Try.f7.params.toList ++ Rows.stripeEvenSpec.plain.varTypes Try.pinned.checked.prog ++ Try.f7.resultTypes.toList).any (Try.pinned.checked.prog.veiledRec ·))) = true := by kernel_rfl
theorem c31 : (Rows.stripeEvenRow.veiledFits Try.pinned.checked.prog Try.f7.params.toList (Try.f7.params.toList ++ Rows.stripeEvenSpec.plain.varTypes Try.pinned.checked.prog ++ Try.f7.resultTypes.toList)) = true := by kernel_rfl
theorem closed : joinedFacts Try.pinned.checked.prog 7 Try.f7 Rows.stripeEvenSpec Rows.stripeEvenRow = true := by
  unfold joinedFacts
  rw [c0, Try.shared1, Try.shared2, c3, c4, c5, Try.shared6, c7, Try.shared8, c9, c10, c11, c12, c13, c14, c15, c16, c17, c18, c19, c20, c21, c22, c23, Try.shared24, Try.shared25, c26, c27, c29, c30, c31]
  kernel_rfl
theorem rd : ∀ t ∈ [23, 37, 5], Try.prog.readableRec t = true ∧ t < Try.prog.types.size := by
  have h : ([23, 37, 5].all fun t => Try.prog.readableRec t && decide (t < Try.prog.types.size)) = true := by kernel_rfl
  intro t ht
  have := List.all_eq_true.1 h t ht
  simpa using this
theorem sh23 : shOfR Try.prog 20 23 = some (.int .i64 (.int .i64 (.int .i64 (.int .i64 .nil)))) := by kernel_rfl
theorem agg23 : isAggT Try.prog 23 = true := by kernel_rfl
theorem sh37 : shOfR Try.prog 20 37 = some (.sl 8 (.int .i64 .nil) .nil) := by kernel_rfl
theorem ints_of {W : World} {v : Value} (h : SlFitsR W v 1 8 (ShR.fits W (.int .i64 .nil))) : ∃ A c, ∃ l : List Int, v = .slice A l.length c ∧ @inpL (inpOf W) A l.length = some (l.map (Value.int .i64)) ∧ l.length ≤ 140737488355328 := by
  have hr : reachBytes ≤ 140737488355328 := by decide
  obtain ⟨A, n, c, xs, rfl, hn, hc, hl, hq, hin⟩ := rows_of_sl (cs := fun x : Int => [.int .i64 x]) (Q := fun x : Int => True) (fun _ => rfl) (by decide) h.1 (fun l hf => by
    obtain ⟨x, _, rfl, w, rfl⟩ := hf
    exact ⟨x, rfl, trivial⟩)
  have hs := h.2 A n c rfl
  subst hl
  have e : ∀ xs : List Int, rowV (fun x : Int => [Value.int .i64 x]) xs = xs.map (Value.int .i64) := fun xs => by
    induction xs with
    | nil => rfl
    | cons x xs ih => show _ :: _ = _ :: _; rw [← ih]; rfl
  rw [e, Nat.mul_one] at hin
  exact ⟨A, c, xs, rfl, hin, by omega⟩
set_option maxRecDepth 100000 in
theorem opened {H : Type} {enc : TypeId × Value → H} {W : World} {base : Nat} {args : Array Value} {ds gs : List (DataW H)} {vt : List TypeId} {p : List MemPlace}
    (hval : ∀ (j : Nat) t v, (#[23, 37, 5] : Array TypeId)[j]? = some t → args[j]? = some v → Value.okWide Try.prog W .any base t v) (hA : DataW.TrodAll enc Try.prog W 0 (fun _ => true) true [23, 37, 5] args.toList ds p)
    (hz : (DataW.weightsEach Try.prog ([23, 37, 5] ++ vt) (ds ++ gs)).all (· ≤ reachBytes) = true) :
    Calls Try.prog 7 args W fun e W' => e = .returned (.bool true) ∧ Below W.heap.size W W' := by
  obtain ⟨v0, v1, v2, d0, d1, d2, p0, p1, p2, e, rfl, rfl, h0, h1, h2⟩ := trodAll_three hA
  obtain rfl : args = #[v0, v1, v2] := by cases args; simp_all
  have hz0 : ∀ q ∈ d0.weights Try.prog 23, q ≤ reachBytes := fun q hq => of_decide_eq_true (List.all_eq_true.1 hz q (DataW.weights_mem_each (j := 0) rfl rfl q hq))
  have hz1 : ∀ q ∈ d1.weights Try.prog 37, q ≤ reachBytes := fun q hq => of_decide_eq_true (List.all_eq_true.1 hz q (DataW.weights_mem_each (j := 1) rfl rfl q hq))
  obtain ⟨cs, rfl, a, _, rfl, _, b, _, rfl, _, c, _, rfl, _, d, _, rfl, _, rfl⟩ := openR_aggs agg23 sh23 (hval 0 23 v0 rfl rfl) h0 hz0
  obtain ⟨A, q, l, rfl, hin, hln⟩ := ints_of (openR_sls Try.underlying37 sh37 (hval 1 37 v1 rfl rfl) h1 hz1)
  obtain ⟨i2, rfl, rfl, rfl, u2⟩ := open_int Try.underlying5 (hval 2 5 v2 rfl rfl) h2
  have hb := wf_bounds_u8 u2
  refine law_read (tr := fun I => @Ytibefgdjijmncaa.St.c7 I) (args := [.agg ([.int .i64 a, .int .i64 b, .int .i64 c, .int .i64 d] : List Value).toArray, .slice A l.length q, .int .u8 i2]) (fun I => @Ytibefgdjijmncaa.St.c7_ok I) ?_
  simp only [List.map_cons, of_agg, List.map_nil]
  exact ⟨⟨a, b, c, d⟩, A, l.length, q, l, i2, rfl, hin, rfl, hln, hb, rfl⟩

set_option maxRecDepth 100000 in
theorem lifted (os : Os) (started : os.Started) (H : Type) (enc : TypeId × Value → H) :
    ReturnsInHanded {} Try.checked os 7 .any (Rows.stripeEvenSpec.pre6 enc Try.prog Try.f7 Rows.stripeEvenRow.domain false) (Rows.stripeEvenSpec.post enc Try.prog Try.f7 false true false false) := by
  refine returnsInHanded_of_change_sized (C := Try.checked) Try.ownK started (by kernel_rfl) Try.func7
    (ChangeSpec.witness6 (enc := enc) (C := Try.checked) false ⟨#[], #[.agg #[.int .i64 0, .int .i64 0, .int .i64 0, .int .i64 0], .slice none 0 0, .int .u8 0], []⟩ 12 (by kernel_rfl) (by kernel_rfl) (by kernel_rfl) (by kernel_rfl)) ?_
  intro W base args ds gs before hval0 hW hcnd hz _
  have hval : ∀ (j : Nat) t v, Try.f7.params[j]? = some t → args[j]? = some v → Value.okWide Try.prog W .any base t v := hval0
  refine law_step (ts := [23, 37, 5]) (by rw [Try.params7]) (by kernel_rfl) rfl rd (fun ds h => match ds, h with | [a0, a1, a2], _ => rfl) hW fun p hA => ?_
  rw [Try.params7] at hval
  rw [Try.params7] at hz
  exact opened hval hA hz
theorem over : Rows.stripeEvenRow.holds Try.pinned (OpenSpec.ofChange Rows.stripeEvenSpec) :=
  OpenClaim.holds_of_wide 7 Try.f7 rfl rfl rfl rfl rfl rfl rfl ⟨rfl, rfl, rfl, rfl, rfl⟩ rfl rfl rfl rfl rfl (by kernel_rfl) Try.func7 closed
    (of_decide_eq_true (by kernel_rfl)) (by unfold Func.isWrapper; first | (rw [if_pos (by decide +kernel)]; kernel_rfl) | (rw [if_neg (by decide +kernel)]; exact ⟨rfl, rfl⟩))
    (fun os started H enc _ => lifted os started H enc)
theorem proved : Rows.StripeEvenSaid := over
#print axioms proved
end Go.Proofs.Ytibefgdjijmncaa.stripeEven

