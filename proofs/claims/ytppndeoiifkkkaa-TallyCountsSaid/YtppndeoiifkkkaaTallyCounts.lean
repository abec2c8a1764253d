/- TallyCounts (P46.1): for every row and steps the law returns true, and changes nothing. No condition. -/
import Derived.Test.YtppndeoiifkkkaaLift
import Derived.Test.YtppndeoiifkkkaaTaG
import Derived.Test.YtppndeoiifkkkaaSzO
namespace Go.Proofs.Ytppndeoiifkkkaa.tallyCounts
open Sz Go.ChangeShapes Go.WideShapes Go.ChangeAt Go.RowKit
set_option linter.unusedVariables false
theorem c0 : (Rows.tallyCountsRow.wf (OpenSpec.ofChange Rows.tallyCountsSpec)) = true := by kernel_rfl
theorem c3 : (Try.f10.params.all (Try.pinned.checked.prog.readableRec ·)) = true := by kernel_rfl
theorem c4 : (namedTie Try.pinned.checked.prog Rows.tallyCountsRow.named Rows.tallyCountsSpec.vars) = true := by kernel_rfl
theorem c5 : ((Rows.tallyCountsRow.stops == [])) = true := by kernel_rfl
theorem c7 : ((Rows.tallyCountsRow.knobs == [])) = true := by kernel_rfl
theorem c9 : ((Rows.tallyCountsRow.inPlace == Try.pinned.checked.prog.inPlace 10)) = true := by kernel_rfl
theorem c10 : ((Rows.tallyCountsRow.unfollowed == Try.pinned.checked.prog.unfollowed 10)) = true := by kernel_rfl
theorem c11 : ((Rows.tallyCountsRow.recurses == Try.pinned.checked.prog.recurses 10)) = true := by kernel_rfl
theorem c12 : ((Rows.tallyCountsRow.named == Try.pinned.checked.prog.varsNamed 10)) = true := by kernel_rfl
theorem c13 : ((Rows.tallyCountsRow.maps == (Try.f10.params.toList ++ Rows.tallyCountsSpec.plain.varTypes Try.pinned.checked.prog).any (Try.pinned.checked.prog.mapsRec ·))) = true := by kernel_rfl
theorem c14 : ((Rows.tallyCountsRow.ifaces == (Try.f10.params.toList ++ Rows.tallyCountsSpec.plain.varTypes Try.pinned.checked.prog).any (Try.pinned.checked.prog.ifacesRec ·))) = true := by kernel_rfl
theorem c15 : ((Rows.tallyCountsRow.mapsOut == Try.pinned.checked.prog.mapsAmong Try.f10.resultTypes.toList)) = true := by kernel_rfl
theorem c16 : ((Rows.tallyCountsRow.loops == (Try.f10.params.toList ++ Rows.tallyCountsSpec.plain.varTypes Try.pinned.checked.prog).any (Try.pinned.checked.prog.loopsFrom ·))) = true := by kernel_rfl
theorem c17 : ((Rows.tallyCountsRow.wideKeys == (Try.f10.params.toList ++ Rows.tallyCountsSpec.plain.varTypes Try.pinned.checked.prog ++ Try.f10.resultTypes.toList).any (Try.pinned.checked.prog.wideKeysFrom ·))) = true := by kernel_rfl
theorem c18 : (Rows.tallyCountsSpec.vars.all (Try.pinned.checked.prog.varReadable ·)) = true := by kernel_rfl
theorem c19 : (Try.f10.resultTypes.all (fun t => Try.pinned.checked.prog.readableRec t && decide (t < Try.pinned.checked.prog.types.size))) = true := by kernel_rfl
theorem c20 : ((Rows.tallyCountsRow.ifacesOut == Try.f10.resultTypes.toList.any (Try.pinned.checked.prog.ifacesRec ·))) = true := by kernel_rfl
theorem c21 : ((Rows.tallyCountsRow.loopsOut == Try.f10.resultTypes.toList.any (Try.pinned.checked.prog.loopsFrom ·))) = true := by kernel_rfl
theorem c22 : ((Rows.tallyCountsRow.plainKeys == Try.pinned.checked.prog.plainKeys)) = true := by rw [Try.shared22]; kernel_rfl
theorem c23 : (Rows.tallyCountsRow.shortTexts.isNone) = true := by kernel_rfl
theorem c26 : ((Rows.tallyCountsRow.lifted == Try.pinned.checked.prog.liftsFinal)) = true := by rw [Try.shared26]; kernel_rfl
theorem c27 : ((Try.pinned.checked.prog.make == some Rows.tallyCountsRow.make)) = true := by rw [Try.shared27]; kernel_rfl
theorem c29 : ((Rows.tallyCountsRow.pinned == Rows.tallyCountsRow.pinnedBy)) = true := by kernel_rfl
theorem c30 : ((Rows.tallyCountsRow.veiled == (Try.f10.params.toList ++ Rows.tallyCountsSpec.plain.varTypes Try.pinned.checked.prog ++ Try.f10.resultTypes.toList).any (Try.pinned.checked.prog.veiledRec ·))) = true := by kernel_rfl
theorem c31 : (Rows.tallyCountsRow.veiledFits Try.pinned.checked.prog Try.f10.params.toList (Try.f10.params.toList ++ Rows.tallyCountsSpec.plain.varTypes Try.pinned.checked.prog ++ Try.f10.resultTypes.toList)) = true := by kernel_rfl
theorem closed : joinedFacts Try.pinned.checked.prog 10 Try.f10 Rows.tallyCountsSpec Rows.tallyCountsRow = true := by
  unfold joinedFacts
  rw [c0, Try.shared1, Try.shared2, c3, c4, c5, Try.shared6, c7, Try.shared8, c9, c10, c11, c12, c13, c14, c15, c16, c17, c18, c19, c20, c21, c22, c23, Try.shared24, Try.shared25, c26, c27, c29, c30, c31]
  kernel_rfl
theorem rd : ∀ t ∈ [83, 22], Try.prog.readableRec t = true ∧ t < Try.prog.types.size := by
  have h : ([83, 22].all fun t => Try.prog.readableRec t && decide (t < Try.prog.types.size)) = true := by kernel_rfl
  intro t ht
  have := List.all_eq_true.1 h t ht
  simpa using this
theorem sh83 : shOf Try.prog 12 83 = some (.sl (.int .i64 (.int .i64 (.str .nil))) .nil) := by kernel_rfl
theorem sh22 : shOf Try.prog 12 22 = some (.sl (.int .i64 (.int .i64 (.int .i64 (.int .i64 (.int .i64 (.int .i64 (.int .i64 (.str .nil)))))))) .nil) := by kernel_rfl
set_option maxRecDepth 100000 in
theorem opened {H : Type} {enc : TypeId × Value → H} {W : World} {base : Nat} {args : Array Value} {ds : List (DataW H)} {p : List MemPlace}
    (hval : ∀ (j : Nat) t v, (#[83, 22] : Array TypeId)[j]? = some t → args[j]? = some v → Value.okWide Try.prog W .any base t v) (hA : DataW.TrodAll enc Try.prog W 0 (fun _ => true) true [83, 22] args.toList ds p) :
    Calls Try.prog 10 args W fun e W' => e = .returned (.bool true) ∧ Below W.heap.size W W' := by
  obtain ⟨v0, v1, d0, d1, p0, p1, e, rfl, rfl, h0, h1⟩ := trodAll_two hA
  obtain rfl : args = #[v0, v1] := by cases args; simp_all
  have hs := open_sls Try.underlying83 sh83 (hval 0 83 v0 rfl rfl) h0
  have hs2 := open_sls Try.underlying22 sh22 (hval 1 22 v1 rfl rfl) h1
  obtain ⟨A, n, c, l, rfl, hn, hc, hl, _, hin⟩ := rows_of_sl (cs := Dn.cs) (Q := fun _ => True) Dn.len (by decide) hs (fun l hf => by
    obtain ⟨a, _, rfl, _, b, _, rfl, _, c, _, rfl, _, rfl⟩ := hf
    exact ⟨⟨a, b, c⟩, rfl, trivial⟩)
  obtain ⟨A2, n2, c2, l2, rfl, hn2, hc2, hl2, _, hin2⟩ := rows_of_sl (cs := Sp.cs) (Q := fun _ => True) Sp.len (by decide) hs2 (fun l hf => by
    obtain ⟨a, _, rfl, _, b, _, rfl, _, c, _, rfl, _, d, _, rfl, _, e, _, rfl, _, f, _, rfl, _, g, _, rfl, _, h, _, rfl, _, rfl⟩ := hf
    exact ⟨⟨a, b, c, d, e, f, g, h⟩, rfl, trivial⟩)
  have hr := @rdD_v (inpOf W) [] A n c l hin
  have hr2 := @rdS_v (inpOf W) [] A2 n2 c2 l2 hin2
  refine law_read (tr := fun I => @Ytppndeoiifkkkaa.c10 I) (args := [.slice A n c, .slice A2 n2 c2]) (fun I => @Ytppndeoiifkkkaa.c10_ok I) ?_
  show @Ytppndeoiifkkkaa.c10 (inpOf W) [.v (.slice A n c), .v (.slice A2 n2 c2)] [] _
  unfold Ytppndeoiifkkkaa.c10
  simp only [hr, hr2, optK]
  exact ⟨⟨by omega, by omega⟩, trivial⟩

set_option maxRecDepth 100000 in
theorem lifted (os : Os) (started : os.Started) (H : Type) (enc : TypeId × Value → H) :
    ReturnsInHanded {} Try.checked os 10 .any (Rows.tallyCountsSpec.pre6 enc Try.prog Try.f10 Rows.tallyCountsRow.domain false) (Rows.tallyCountsSpec.post enc Try.prog Try.f10 false true false false) := by
  refine returnsInHanded_of_change (C := Try.checked) Try.ownK started (by kernel_rfl) Try.func10
    (ChangeSpec.witness6 (enc := enc) (C := Try.checked) false ⟨#[], #[.slice none 0 0, .slice none 0 0], []⟩ 12 (by kernel_rfl) (by kernel_rfl) (by kernel_rfl) (by kernel_rfl)) ?_
  intro W base args ds gs before hval0 hW hcnd _
  have hval : ∀ (j : Nat) t v, Try.f10.params[j]? = some t → args[j]? = some v → Value.okWide Try.prog W .any base t v := hval0
  refine law_step (ts := [83, 22]) (by rw [Try.params10]) (by kernel_rfl) rfl rd (fun ds h => match ds, h with | [a0, a1], _ => rfl) hW fun p hA => ?_
  rw [Try.params10] at hval
  exact opened hval hA
theorem over : Rows.tallyCountsRow.holds Try.pinned (OpenSpec.ofChange Rows.tallyCountsSpec) :=
  OpenClaim.holds_of_wide 10 Try.f10 rfl rfl rfl rfl rfl rfl rfl ⟨rfl, rfl, rfl, rfl, rfl⟩ rfl rfl rfl rfl rfl (by kernel_rfl) Try.func10 closed
    (of_decide_eq_true (by kernel_rfl)) (by unfold Func.isWrapper; first | (rw [if_pos (by decide +kernel)]; kernel_rfl) | (rw [if_neg (by decide +kernel)]; exact ⟨rfl, rfl⟩))
    (fun os started H enc _ => lifted os started H enc)
theorem proved : Rows.TallyCountsSaid := over
#print axioms proved
end Go.Proofs.Ytppndeoiifkkkaa.tallyCounts
