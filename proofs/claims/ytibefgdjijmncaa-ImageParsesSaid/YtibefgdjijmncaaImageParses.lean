/- ImageParses (P43.1): for every picture, places, and bytes the law returns true, and changes nothing. No condition. -/
import Derived.ChangeMaps5
import Derived.SizedLaws
import Derived.Test.YtibefgdjijmncaaMIPA
import Derived.Test.YtibefgdjijmncaaMIPI
import Derived.Test.YtibefgdjijmncaaMIPJ
namespace Go.Proofs.Ytibefgdjijmncaa.imageParses
open Sz Go.ChangeShapes Go.WideShapes Go.ChangeAt Go.RowKit
set_option linter.unusedVariables false
theorem c0 : (Rows.imageParsesRow.wf (OpenSpec.ofChange Rows.imageParsesSpec)) = true := by kernel_rfl
theorem c3 : (Try.f4.params.all (Try.pinned.checked.prog.readableRec ·)) = true := by kernel_rfl
theorem c4 : (namedTie Try.pinned.checked.prog Rows.imageParsesRow.named Rows.imageParsesSpec.vars) = true := by kernel_rfl
theorem c5 : ((Rows.imageParsesRow.stops == [])) = true := by kernel_rfl
theorem c7 : ((Rows.imageParsesRow.knobs == [])) = true := by kernel_rfl
theorem c9 : ((Rows.imageParsesRow.inPlace == Try.pinned.checked.prog.inPlace 4)) = true := by kernel_rfl
theorem c10 : ((Rows.imageParsesRow.unfollowed == Try.pinned.checked.prog.unfollowed 4)) = true := by kernel_rfl
theorem c11 : ((Rows.imageParsesRow.recurses == Try.pinned.checked.prog.recurses 4)) = true := by kernel_rfl
theorem c12 : ((Rows.imageParsesRow.named == Try.pinned.checked.prog.varsNamed 4)) = true := by kernel_rfl
theorem c13 : ((Rows.imageParsesRow.maps == (Try.f4.params.toList ++ Rows.imageParsesSpec.plain.varTypes Try.pinned.checked.prog).any (Try.pinned.checked.prog.mapsRec ·))) = true := by kernel_rfl
theorem c14 : ((Rows.imageParsesRow.ifaces == (Try.f4.params.toList ++ Rows.imageParsesSpec.plain.varTypes Try.pinned.checked.prog).any (Try.pinned.checked.prog.ifacesRec ·))) = true := by kernel_rfl
theorem c15 : ((Rows.imageParsesRow.mapsOut == Try.pinned.checked.prog.mapsAmong Try.f4.resultTypes.toList)) = true := by kernel_rfl
theorem c16 : ((Rows.imageParsesRow.loops == (Try.f4.params.toList ++ Rows.imageParsesSpec.plain.varTypes Try.pinned.checked.prog).any (Try.pinned.checked.prog.loopsFrom ·))) = true := by kernel_rfl
theorem c17 : ((Rows.imageParsesRow.wideKeys == (Try.f4.params.toList ++ Rows.imageParsesSpec.plain.varTypes Try.pinned.checked.prog ++ Try.f4.resultTypes.toList).any (Try.pinned.checked.prog.wideKeysFrom ·))) = true := by kernel_rfl
theorem c18 : (Rows.imageParsesSpec.vars.all (Try.pinned.checked.prog.varReadable ·)) = true := by kernel_rfl
theorem c19 : (Try.f4.resultTypes.all (fun t => Try.pinned.checked.prog.readableRec t && decide (t < Try.pinned.checked.prog.types.size))) = true := by kernel_rfl
theorem c20 : ((Rows.imageParsesRow.ifacesOut == Try.f4.resultTypes.toList.any (Try.pinned.checked.prog.ifacesRec ·))) = true := by kernel_rfl
theorem c21 : ((Rows.imageParsesRow.loopsOut == Try.f4.resultTypes.toList.any (Try.pinned.checked.prog.loopsFrom ·))) = true := by kernel_rfl
theorem c22 : ((Rows.imageParsesRow.plainKeys == Try.pinned.checked.prog.plainKeys)) = true := by rw [Try.shared22]; kernel_rfl
theorem c23 : (Rows.imageParsesRow.shortTexts.isNone) = true := by kernel_rfl
theorem c26 : ((Rows.imageParsesRow.lifted == Try.pinned.checked.prog.liftsFinal)) = true := by rw [Try.shared26]; kernel_rfl
theorem c27 : ((Try.pinned.checked.prog.make == some Rows.imageParsesRow.make)) = true := by rw [Try.shared27]; kernel_rfl
theorem c29 : ((Rows.imageParsesRow.pinned == Rows.imageParsesRow.pinnedBy)) = true := by kernel_rfl
theorem c30 : ((Rows.imageParsesRow.veiled == (Try.f4.params.toList ++ Rows.imageParsesSpec.plain.varTypes Try.pinned.checked.prog ++ Try.f4.resultTypes.toList).any (Try.pinned.checked.prog.veiledRec ·))) = true := by kernel_rfl
theorem c31 : (Rows.imageParsesRow.veiledFits Try.pinned.checked.prog Try.f4.params.toList (Try.f4.params.toList ++ Rows.imageParsesSpec.plain.varTypes Try.pinned.checked.prog ++ Try.f4.resultTypes.toList)) = true := by kernel_rfl
theorem closed : joinedFacts Try.pinned.checked.prog 4 Try.f4 Rows.imageParsesSpec Rows.imageParsesRow = true := by
  unfold joinedFacts
  rw [c0, Try.shared1, Try.shared2, c3, c4, c5, Try.shared6, c7, Try.shared8, c9, c10, c11, c12, c13, c14, c15, c16, c17, c18, c19, c20, c21, c22, c23, Try.shared24, Try.shared25, c26, c27, c29, c30, c31]
  kernel_rfl
theorem rd : ∀ t ∈ [26, 39, 5, 39, 29], Try.prog.readableRec t = true ∧ t < Try.prog.types.size := by
  have h : ([26, 39, 5, 39, 29].all fun t => Try.prog.readableRec t && decide (t < Try.prog.types.size)) = true := by kernel_rfl
  intro t ht
  have := List.all_eq_true.1 h t ht
  simpa using this
theorem sh26 : shOfR Try.prog 20 26 = some (.int .i64 (.int .i64 (.int .i64 (.int .i64 (.sl 40 (.bool (.int .i64 (.sl 40 (.bool (.str (.str .nil))) .nil))) .nil))))) := by kernel_rfl
theorem agg26 : isAggT Try.prog 26 = true := by kernel_rfl
theorem blocks_of {W : World} {v : Value} (h : SlFitsR W v 3 40 (ShR.fits W (.bool (.int .i64 (.sl 40 (.bool (.str (.str .nil))) .nil))))) : ∃ A c xs, v = .slice A xs.length c ∧ @inpL (inpOf W) A (xs.length * 3) = some (rowV Bi.cs xs) ∧ (∀ x ∈ xs, @Bi.In (inpOf W) x) ∧ smallB (xs.map Bi.b) := by
  have hr : reachBytes ≤ 140737488355328 := by decide
  obtain ⟨A, n, c, xs, rfl, hn, hc, hl, hq, hin⟩ := rows_of_sl (cs := Bi.cs) (Q := fun x => @Bi.In (inpOf W) x ∧ x.b.pages.length ≤ 140737488355328 ∧ ∀ y ∈ x.b.pages, y.beside.size ≤ 140737488355328 ∧ y.data.size ≤ 140737488355328) Bi.len (by decide) h.1 (fun l hf => by
    obtain ⟨bd, _, rfl, e, _, rfl, _, w, _, rfl, hw, rfl⟩ := hf
    obtain ⟨A, n, c, ps, rfl, hn, hc, hl, hq, hin⟩ := rows_of_sl (cs := Pg.cs) (Q := fun y => y.beside.size ≤ 140737488355328 ∧ y.data.size ≤ 140737488355328) Pg.len (by decide) hw.1 (fun l hf => by
      obtain ⟨t, _, rfl, b, _, rfl, hb, d, _, rfl, hd, rfl⟩ := hf
      exact ⟨⟨t, b, d⟩, rfl, Nat.le_trans hb hr, Nat.le_trans hd hr⟩)
    have hs := hw.2 A n c rfl
    subst hl
    exact ⟨⟨⟨bd, e, ps⟩, A, c⟩, rfl, hin, by show ps.length ≤ _; omega, hq⟩)
  have hs := h.2 A n c rfl
  subst hl
  exact ⟨A, c, xs, rfl, hin, fun x hx => (hq x hx).1, by rw [List.length_map]; omega, fun b hb => by
    obtain ⟨x, hx, rfl⟩ := List.mem_map.1 hb
    exact (hq x hx).2⟩
theorem sh29 : shOfR Try.prog 20 29 = some (.sl 1 (.int .u8 .nil) .nil) := by kernel_rfl
theorem wf_bounds_u16 {n : Int} (h : (Lit.int .u16 n).wf = true) : 0 ≤ n ∧ n ≤ 65535 := by
  simpa [Lit.wf, IntKind.min, IntKind.max, IntKind.signed, IntKind.bits] using h
theorem bytes_of {W : World} {v : Value} (h : SlFitsR W v 1 1 (ShR.fits W (.int .u8 .nil))) : ∃ A c, ∃ l : List Int, v = .slice A l.length c ∧ @inpL (inpOf W) A l.length = some (l.map (Value.int .u8)) ∧ l.length ≤ 140737488355328 ∧ Byt l := by
  have hr : reachBytes ≤ 140737488355328 := by decide
  obtain ⟨A, n, c, xs, rfl, hn, hc, hl, hq, hin⟩ := rows_of_sl (cs := fun x : Int => [.int .u8 x]) (Q := fun x : Int => 0 ≤ x ∧ x ≤ 255) (fun _ => rfl) (by decide) h.1 (fun l hf => by
    obtain ⟨x, _, rfl, w, rfl⟩ := hf
    exact ⟨x, rfl, wf_bounds_u8 w⟩)
  have hs := h.2 A n c rfl
  subst hl
  have e : ∀ xs : List Int, rowV (fun x : Int => [Value.int .u8 x]) xs = xs.map (Value.int .u8) := fun xs => by
    induction xs with
    | nil => rfl
    | cons x xs ih => show _ :: _ = _ :: _; rw [← ih]; rfl
  rw [e, Nat.mul_one] at hin
  exact ⟨A, c, xs, rfl, hin, by omega, hq⟩
set_option maxRecDepth 100000 in
theorem opened {H : Type} {enc : TypeId × Value → H} {W : World} {base : Nat} {args : Array Value} {ds gs : List (DataW H)} {vt : List TypeId} {p : List MemPlace}
    (hval : ∀ (j : Nat) t v, (#[26, 39, 5, 39, 29] : Array TypeId)[j]? = some t → args[j]? = some v → Value.okWide Try.prog W .any base t v) (hA : DataW.TrodAll enc Try.prog W 0 (fun _ => true) true [26, 39, 5, 39, 29] args.toList ds p)
    (hz : (DataW.weightsEach Try.prog ([26, 39, 5, 39, 29] ++ vt) (ds ++ gs)).all (· ≤ reachBytes) = true) :
    Calls Try.prog 4 args W fun e W' => e = .returned (.bool true) ∧ Below W.heap.size W W' := by
  obtain ⟨v0, w0, d0, e0, p0, q0, a0, rfl, rfl, h0, hA⟩ := trodAll_cons hA
  obtain ⟨v1, w1, d1, e1, p1, q1, rfl, rfl, rfl, h1, hA⟩ := trodAll_cons hA
  obtain ⟨v2, w2, d2, e2, p2, q2, rfl, rfl, rfl, h2, hA⟩ := trodAll_cons hA
  obtain ⟨v3, w3, d3, e3, p3, q3, rfl, rfl, rfl, h3, hA⟩ := trodAll_cons hA
  obtain ⟨v4, w4, d4, e4, p4, q4, rfl, rfl, rfl, h4, hA⟩ := trodAll_cons hA
  obtain ⟨rfl, rfl, rfl⟩ := trodAll_nil hA
  obtain rfl : args = #[v0, v1, v2, v3, v4] := by cases args; simp_all
  have hz0 : ∀ q ∈ d0.weights Try.prog 26, q ≤ reachBytes := fun q hq => of_decide_eq_true (List.all_eq_true.1 hz q (DataW.weights_mem_each (j := 0) rfl rfl q hq))
  have hz4 : ∀ q ∈ d4.weights Try.prog 29, q ≤ reachBytes := fun q hq => of_decide_eq_true (List.all_eq_true.1 hz q (DataW.weights_mem_each (j := 4) rfl rfl q hq))
  obtain ⟨cs, rfl, a, _, rfl, _, b, _, rfl, _, c, _, rfl, _, d, _, rfl, _, v, _, rfl, hv, rfl⟩ := openR_aggs agg26 sh26 (hval 0 26 v0 rfl rfl) h0 hz0
  obtain ⟨A, q, xs, rfl, hin, hx, hsm⟩ := blocks_of hv
  obtain ⟨i1, rfl, rfl, rfl, u1⟩ := open_int Try.underlying39 (hval 1 39 v1 rfl rfl) h1
  obtain ⟨i2, rfl, rfl, rfl, u2⟩ := open_int Try.underlying5 (hval 2 5 v2 rfl rfl) h2
  obtain ⟨i3, rfl, rfl, rfl, u3⟩ := open_int Try.underlying39 (hval 3 39 v3 rfl rfl) h3
  obtain ⟨A', q', l, rfl, hin', hln, hbt⟩ := bytes_of (openR_sls Try.underlying29 sh29 (hval 4 29 v4 rfl rfl) h4 hz4)
  refine law_read (tr := fun I => @Ytibefgdjijmncaa.c4 I) (args := [.agg ([.int .i64 a, .int .i64 b, .int .i64 c, .int .i64 d, .slice A xs.length q] : List Value).toArray, .int .u16 i1, .int .u8 i2, .int .u16 i3, .slice A' l.length q']) (fun I => @Ytibefgdjijmncaa.c4_ok I) ?_
  simp only [List.map_cons, of_agg, List.map_nil]
  exact ⟨_, ⟨a, b, c, d⟩, _, i1, i2, i3, A', l.length, q', l, rfl, @pic_plain (inpOf W) [] ⟨a, b, c, d⟩ A q xs hin hx, hsm, wf_bounds_u16 u1, wf_bounds_u16 u3, hin', rfl, hln, hbt, rfl⟩

set_option maxRecDepth 100000 in
theorem lifted (os : Os) (started : os.Started) (H : Type) (enc : TypeId × Value → H) :
    ReturnsInHanded {} Try.checked os 4 .any (Rows.imageParsesSpec.pre6 enc Try.prog Try.f4 Rows.imageParsesRow.domain false) (Rows.imageParsesSpec.post enc Try.prog Try.f4 false true false false) := by
  refine returnsInHanded_of_change_sized (C := Try.checked) Try.ownK started (by kernel_rfl) Try.func4
    (ChangeSpec.witness6 (enc := enc) (C := Try.checked) false ⟨#[], #[.agg #[.int .i64 0, .int .i64 0, .int .i64 0, .int .i64 0, .slice none 0 0], .int .u16 0, .int .u8 0, .int .u16 0, .slice none 0 0], []⟩ 12 (by kernel_rfl) (by kernel_rfl) (by kernel_rfl) (by kernel_rfl)) ?_
  intro W base args ds gs before hval0 hW hcnd hz _
  have hval : ∀ (j : Nat) t v, Try.f4.params[j]? = some t → args[j]? = some v → Value.okWide Try.prog W .any base t v := hval0
  refine law_step (ts := [26, 39, 5, 39, 29]) (by rw [Try.params4]) (by kernel_rfl) rfl rd (fun ds h => match ds, h with | [a0, a1, a2, a3, a4], _ => rfl) hW fun p hA => ?_
  rw [Try.params4] at hval
  rw [Try.params4] at hz
  exact opened hval hA hz
theorem over : Rows.imageParsesRow.holds Try.pinned (OpenSpec.ofChange Rows.imageParsesSpec) :=
  OpenClaim.holds_of_wide 4 Try.f4 rfl rfl rfl rfl rfl rfl rfl ⟨rfl, rfl, rfl, rfl, rfl⟩ rfl rfl rfl rfl rfl (by kernel_rfl) Try.func4 closed
    (of_decide_eq_true (by kernel_rfl)) (by unfold Func.isWrapper; first | (rw [if_pos (by decide +kernel)]; kernel_rfl) | (rw [if_neg (by decide +kernel)]; exact ⟨rfl, rfl⟩))
    (fun os started H enc _ => lifted os started H enc)
theorem proved : Rows.ImageParsesSaid := over
#print axioms proved
end Go.Proofs.Ytibefgdjijmncaa.imageParses

