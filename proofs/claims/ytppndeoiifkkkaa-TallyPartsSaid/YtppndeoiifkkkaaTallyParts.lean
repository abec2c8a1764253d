/- TallyParts (P46.2): for every row and place the law returns true, and changes nothing. No condition. -/
import Derived.Test.YtppndeoiifkkkaaLift
import Derived.Test.YtppndeoiifkkkaaTaF
import Derived.Test.YtppndeoiifkkkaaSzO
namespace Go.Proofs.Ytppndeoiifkkkaa.tallyParts
open Sz Go.ChangeShapes Go.WideShapes Go.ChangeAt Go.RowKit
set_option linter.unusedVariables false
theorem c0 : (Rows.tallyPartsRow.wf (OpenSpec.ofChange Rows.tallyPartsSpec)) = true := by kernel_rfl
theorem c3 : (Try.f11.params.all (Try.pinned.checked.prog.readableRec ·)) = true := by kernel_rfl
theorem c4 : (namedTie Try.pinned.checked.prog Rows.tallyPartsRow.named Rows.tallyPartsSpec.vars) = true := by kernel_rfl
theorem c5 : ((Rows.tallyPartsRow.stops == [])) = true := by kernel_rfl
theorem c7 : ((Rows.tallyPartsRow.knobs == [])) = true := by kernel_rfl
theorem c9 : ((Rows.tallyPartsRow.inPlace == Try.pinned.checked.prog.inPlace 11)) = true := by kernel_rfl
theorem c10 : ((Rows.tallyPartsRow.unfollowed == Try.pinned.checked.prog.unfollowed 11)) = true := by kernel_rfl
theorem c11 : ((Rows.tallyPartsRow.recurses == Try.pinned.checked.prog.recurses 11)) = true := by kernel_rfl
theorem c12 : ((Rows.tallyPartsRow.named == Try.pinned.checked.prog.varsNamed 11)) = true := by kernel_rfl
theorem c13 : ((Rows.tallyPartsRow.maps == (Try.f11.params.toList ++ Rows.tallyPartsSpec.plain.varTypes Try.pinned.checked.prog).any (Try.pinned.checked.prog.mapsRec ·))) = true := by kernel_rfl
theorem c14 : ((Rows.tallyPartsRow.ifaces == (Try.f11.params.toList ++ Rows.tallyPartsSpec.plain.varTypes Try.pinned.checked.prog).any (Try.pinned.checked.prog.ifacesRec ·))) = true := by kernel_rfl
theorem c15 : ((Rows.tallyPartsRow.mapsOut == Try.pinned.checked.prog.mapsAmong Try.f11.resultTypes.toList)) = true := by kernel_rfl
theorem c16 : ((Rows.tallyPartsRow.loops == (Try.f11.params.toList ++ Rows.tallyPartsSpec.plain.varTypes Try.pinned.checked.prog).any (Try.pinned.checked.prog.loopsFrom ·))) = true := by kernel_rfl
theorem c17 : ((Rows.tallyPartsRow.wideKeys == (Try.f11.params.toList ++ Rows.tallyPartsSpec.plain.varTypes Try.pinned.checked.prog ++ Try.f11.resultTypes.toList).any (Try.pinned.checked.prog.wideKeysFrom ·))) = true := by kernel_rfl
theorem c18 : (Rows.tallyPartsSpec.vars.all (Try.pinned.checked.prog.varReadable ·)) = true := by kernel_rfl
theorem c19 : (Try.f11.resultTypes.all (fun t => Try.pinned.checked.prog.readableRec t && decide (t < Try.pinned.checked.prog.types.size))) = true := by kernel_rfl
theorem c20 : ((Rows.tallyPartsRow.ifacesOut == Try.f11.resultTypes.toList.any (Try.pinned.checked.prog.ifacesRec ·))) = true := by kernel_rfl
theorem c21 : ((Rows.tallyPartsRow.loopsOut == Try.f11.resultTypes.toList.any (Try.pinned.checked.prog.loopsFrom ·))) = true := by kernel_rfl
theorem c22 : ((Rows.tallyPartsRow.plainKeys == Try.pinned.checked.prog.plainKeys)) = true := by rw [Try.shared22]; kernel_rfl
theorem c23 : (Rows.tallyPartsRow.shortTexts.isNone) = true := by kernel_rfl
theorem c26 : ((Rows.tallyPartsRow.lifted == Try.pinned.checked.prog.liftsFinal)) = true := by rw [Try.shared26]; kernel_rfl
theorem c27 : ((Try.pinned.checked.prog.make == some Rows.tallyPartsRow.make)) = true := by rw [Try.shared27]; kernel_rfl
theorem c29 : ((Rows.tallyPartsRow.pinned == Rows.tallyPartsRow.pinnedBy)) = true := by kernel_rfl
theorem c30 : ((Rows.tallyPartsRow.veiled == (Try.f11.params.toList ++ Rows.tallyPartsSpec.plain.varTypes Try.pinned.checked.prog ++ Try.f11.resultTypes.toList).any (Try.pinned.checked.prog.veiledRec ·))) = true := by kernel_rfl
theorem c31 : (Rows.tallyPartsRow.veiledFits Try.pinned.checked.prog Try.f11.params.toList (Try.f11.params.toList ++ Rows.tallyPartsSpec.plain.varTypes Try.pinned.checked.prog ++ Try.f11.resultTypes.toList)) = true := by kernel_rfl
theorem closed : joinedFacts Try.pinned.checked.prog 11 Try.f11 Rows.tallyPartsSpec Rows.tallyPartsRow = true := by
  unfold joinedFacts
  rw [c0, Try.shared1, Try.shared2, c3, c4, c5, Try.shared6, c7, Try.shared8, c9, c10, c11, c12, c13, c14, c15, c16, c17, c18, c19, c20, c21, c22, c23, Try.shared24, Try.shared25, c26, c27, c29, c30, c31]
  kernel_rfl
theorem rd : ∀ t ∈ [83, 5], Try.prog.readableRec t = true ∧ t < Try.prog.types.size := by
  have h : ([83, 5].all fun t => Try.prog.readableRec t && decide (t < Try.prog.types.size)) = true := by kernel_rfl
  intro t ht
  have := List.all_eq_true.1 h t ht
  simpa using this
theorem sh83 : shOf Try.prog 12 83 = some (.sl (.int .i64 (.int .i64 (.str .nil))) .nil) := by kernel_rfl
set_option maxRecDepth 100000 in
theorem opened {H : Type} {enc : TypeId × Value → H} {W : World} {base : Nat} {args : Array Value} {ds : List (DataW H)} {p : List MemPlace}
    (hval : ∀ (j : Nat) t v, (#[83, 5] : Array TypeId)[j]? = some t → args[j]? = some v → Value.okWide Try.prog W .any base t v) (hA : DataW.TrodAll enc Try.prog W 0 (fun _ => true) true [83, 5] args.toList ds p) :
    Calls Try.prog 11 args W fun e W' => e = .returned (.bool true) ∧ Below W.heap.size W W' := by
  obtain ⟨v0, v1, d0, d1, p0, p1, e, rfl, rfl, h0, h1⟩ := trodAll_two hA
  obtain rfl : args = #[v0, v1] := by cases args; simp_all
  have hs := open_sls Try.underlying83 sh83 (hval 0 83 v0 rfl rfl) h0
  obtain ⟨a1, rfl, rfl, rfl, w1⟩ := open_int Try.underlying5 (hval 1 5 v1 rfl rfl) h1
  obtain ⟨A, n, c, l, rfl, hn, hc, hl, _, hin⟩ := rows_of_sl (cs := Dn.cs) (Q := fun _ => True) Dn.len (by decide) hs (fun l hf => by
    obtain ⟨a, _, rfl, _, b, _, rfl, _, c, _, rfl, _, rfl⟩ := hf
    exact ⟨⟨a, b, c⟩, rfl, trivial⟩)
  have hb := wf_bounds_u8 w1
  have hr := @rdD_v (inpOf W) [] A n c l hin
  refine law_read (tr := fun I => @Ytppndeoiifkkkaa.c11 I) (args := [.slice A n c, .int .u8 a1]) (fun I => @Ytppndeoiifkkkaa.c11_ok I) ?_
  show @Ytppndeoiifkkkaa.c11 (inpOf W) [.v (.slice A n c), .v (.int .u8 a1)] [] _
  unfold Ytppndeoiifkkkaa.c11
  simp only [hr, optK]
  exact ⟨⟨hn, by omega, hb.1, hb.2⟩, trivial⟩

set_option maxRecDepth 100000 in
theorem lifted (os : Os) (started : os.Started) (H : Type) (enc : TypeId × Value → H) :
    ReturnsInHanded {} Try.checked os 11 .any (Rows.tallyPartsSpec.pre6 enc Try.prog Try.f11 Rows.tallyPartsRow.domain false) (Rows.tallyPartsSpec.post enc Try.prog Try.f11 false true false false) := by
  refine returnsInHanded_of_change (C := Try.checked) Try.ownK started (by kernel_rfl) Try.func11
    (ChangeSpec.witness6 (enc := enc) (C := Try.checked) false ⟨#[], #[.slice none 0 0, .int .u8 0], []⟩ 12 (by kernel_rfl) (by kernel_rfl) (by kernel_rfl) (by kernel_rfl)) ?_
  intro W base args ds gs before hval0 hW hcnd _
  have hval : ∀ (j : Nat) t v, Try.f11.params[j]? = some t → args[j]? = some v → Value.okWide Try.prog W .any base t v := hval0
  refine law_step (ts := [83, 5]) (by rw [Try.params11]) (by kernel_rfl) rfl rd (fun ds h => match ds, h with | [a0, a1], _ => rfl) hW fun p hA => ?_
  rw [Try.params11] at hval
  exact opened hval hA
theorem over : Rows.tallyPartsRow.holds Try.pinned (OpenSpec.ofChange Rows.tallyPartsSpec) :=
  OpenClaim.holds_of_wide 11 Try.f11 rfl rfl rfl rfl rfl rfl rfl ⟨rfl, rfl, rfl, rfl, rfl⟩ rfl rfl rfl rfl rfl (by kernel_rfl) Try.func11 closed
    (of_decide_eq_true (by kernel_rfl)) (by unfold Func.isWrapper; first | (rw [if_pos (by decide +kernel)]; kernel_rfl) | (rw [if_neg (by decide +kernel)]; exact ⟨rfl, rfl⟩))
    (fun os started H enc _ => lifted os started H enc)
theorem proved : Rows.TallyPartsSaid := over
#print axioms proved
end Go.Proofs.Ytppndeoiifkkkaa.tallyParts
