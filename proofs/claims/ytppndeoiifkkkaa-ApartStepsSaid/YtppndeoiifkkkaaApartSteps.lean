/- ApartSteps (P28.1): for every row of steps, every tenant and every row of commands the law returns true, and changes nothing. No condition. -/
import Derived.Test.YtppndeoiifkkkaaLift
import Derived.Test.YtppndeoiifkkkaaApF
import Derived.Test.YtppndeoiifkkkaaOpen
namespace Go.Proofs.Ytppndeoiifkkkaa.apartSteps
open Go.ChangeShapes Go.WideShapes Go.ChangeAt Go.RowKit
set_option linter.unusedVariables false
theorem c0 : (Rows.apartStepsRow.wf (OpenSpec.ofChange Rows.apartStepsSpec)) = true := by kernel_rfl
theorem c3 : (Try.f3.params.all (Try.pinned.checked.prog.readableRec ·)) = true := by kernel_rfl
theorem c4 : (namedTie Try.pinned.checked.prog Rows.apartStepsRow.named Rows.apartStepsSpec.vars) = true := by kernel_rfl
theorem c5 : ((Rows.apartStepsRow.stops == [])) = true := by kernel_rfl
theorem c7 : ((Rows.apartStepsRow.knobs == [])) = true := by kernel_rfl
theorem c9 : ((Rows.apartStepsRow.inPlace == Try.pinned.checked.prog.inPlace 3)) = true := by kernel_rfl
theorem c10 : ((Rows.apartStepsRow.unfollowed == Try.pinned.checked.prog.unfollowed 3)) = true := by kernel_rfl
theorem c11 : ((Rows.apartStepsRow.recurses == Try.pinned.checked.prog.recurses 3)) = true := by kernel_rfl
theorem c12 : ((Rows.apartStepsRow.named == Try.pinned.checked.prog.varsNamed 3)) = true := by kernel_rfl
theorem c13 : ((Rows.apartStepsRow.maps == (Try.f3.params.toList ++ Rows.apartStepsSpec.plain.varTypes Try.pinned.checked.prog).any (Try.pinned.checked.prog.mapsRec ·))) = true := by kernel_rfl
theorem c14 : ((Rows.apartStepsRow.ifaces == (Try.f3.params.toList ++ Rows.apartStepsSpec.plain.varTypes Try.pinned.checked.prog).any (Try.pinned.checked.prog.ifacesRec ·))) = true := by kernel_rfl
theorem c15 : ((Rows.apartStepsRow.mapsOut == Try.pinned.checked.prog.mapsAmong Try.f3.resultTypes.toList)) = true := by kernel_rfl
theorem c16 : ((Rows.apartStepsRow.loops == (Try.f3.params.toList ++ Rows.apartStepsSpec.plain.varTypes Try.pinned.checked.prog).any (Try.pinned.checked.prog.loopsFrom ·))) = true := by kernel_rfl
theorem c17 : ((Rows.apartStepsRow.wideKeys == (Try.f3.params.toList ++ Rows.apartStepsSpec.plain.varTypes Try.pinned.checked.prog ++ Try.f3.resultTypes.toList).any (Try.pinned.checked.prog.wideKeysFrom ·))) = true := by kernel_rfl
theorem c18 : (Rows.apartStepsSpec.vars.all (Try.pinned.checked.prog.varReadable ·)) = true := by kernel_rfl
theorem c19 : (Try.f3.resultTypes.all (fun t => Try.pinned.checked.prog.readableRec t && decide (t < Try.pinned.checked.prog.types.size))) = true := by kernel_rfl
theorem c20 : ((Rows.apartStepsRow.ifacesOut == Try.f3.resultTypes.toList.any (Try.pinned.checked.prog.ifacesRec ·))) = true := by kernel_rfl
theorem c21 : ((Rows.apartStepsRow.loopsOut == Try.f3.resultTypes.toList.any (Try.pinned.checked.prog.loopsFrom ·))) = true := by kernel_rfl
theorem c22 : ((Rows.apartStepsRow.plainKeys == Try.pinned.checked.prog.plainKeys)) = true := by rw [Try.shared22]; kernel_rfl
theorem c23 : (Rows.apartStepsRow.shortTexts.isNone) = true := by kernel_rfl
theorem c26 : ((Rows.apartStepsRow.lifted == Try.pinned.checked.prog.liftsFinal)) = true := by rw [Try.shared26]; kernel_rfl
theorem c27 : ((Try.pinned.checked.prog.make == some Rows.apartStepsRow.make)) = true := by rw [Try.shared27]; kernel_rfl
theorem c29 : ((Rows.apartStepsRow.pinned == Rows.apartStepsRow.pinnedBy)) = true := by kernel_rfl
theorem c30 : ((Rows.apartStepsRow.veiled == (Try.f3.params.toList ++ Rows.apartStepsSpec.plain.varTypes Try.pinned.checked.prog ++ Try.f3.resultTypes.toList).any (Try.pinned.checked.prog.veiledRec ·))) = true := by kernel_rfl
theorem c31 : (Rows.apartStepsRow.veiledFits Try.pinned.checked.prog Try.f3.params.toList (Try.f3.params.toList ++ Rows.apartStepsSpec.plain.varTypes Try.pinned.checked.prog ++ Try.f3.resultTypes.toList)) = true := by kernel_rfl
theorem closed : joinedFacts Try.pinned.checked.prog 3 Try.f3 Rows.apartStepsSpec Rows.apartStepsRow = true := by
  unfold joinedFacts
  rw [c0, Try.shared1, Try.shared2, c3, c4, c5, Try.shared6, c7, Try.shared8, c9, c10, c11, c12, c13, c14, c15, c16, c17, c18, c19, c20, c21, c22, c23, Try.shared24, Try.shared25, c26, c27, c29, c30, c31]
  kernel_rfl
theorem rd : ∀ t ∈ [22, 3, 23], Try.prog.readableRec t = true ∧ t < Try.prog.types.size := by
  have h : ([22, 3, 23].all fun t => Try.prog.readableRec t && decide (t < Try.prog.types.size)) = true := by kernel_rfl
  intro t ht
  have := List.all_eq_true.1 h t ht
  simpa using this
theorem sh22 : shOf Try.prog 12 22 = some (.sl (.int .i64 (.int .i64 (.int .i64 (.int .i64 (.int .i64 (.int .i64 (.int .i64 (.str .nil)))))))) .nil) := by kernel_rfl
theorem sh23 : shOf Try.prog 12 23 = some (.sl (.int .i64 (.int .i64 (.str .nil))) .nil) := by kernel_rfl
theorem rd_steps {W : World} {v : Value} (hs : SlFits W v (Sh.int .i64 (.int .i64 (.int .i64 (.int .i64 (.int .i64 (.int .i64 (.int .i64 (.str .nil)))))))).len ((Sh.int .i64 (.int .i64 (.int .i64 (.int .i64 (.int .i64 (.int .i64 (.int .i64 (.str .nil)))))))).fits W)) : ∃ l, Rd Stp.cs 8 W v l := by
  obtain ⟨A, n, c, rfl, hn, hc, hcell⟩ := sl_open hs (by decide)
  rcases hcell with h0 | ⟨g, o, rfl, hcell⟩
  · subst h0; exact ⟨[], A, c, rfl, hn, .inl rfl⟩
  · obtain ⟨l, hl, hat⟩ := list_of (p := fun k (x : Stp) => RAt Stp.cs W g (o + k * 8) x) n (fun i hi => by
      obtain ⟨cs, _, hget, a, _, rfl, _, b, _, rfl, _, c, _, rfl, _, d, _, rfl, _, e, _, rfl, _, f, _, rfl, _, p, _, rfl, _, t, _, rfl, _, rfl⟩ := hcell i hi
      exact ⟨⟨a, b, c, d, e, f, p, t⟩, fun j u hj => hget j u hj⟩)
    exact ⟨l, some ⟨g, o, none⟩, c, by rw [hl], by rw [hl]; exact hn, .inr ⟨g, o, rfl, hat⟩⟩
theorem rd_cmds {W : World} {v : Value} (hs : SlFits W v (Sh.int .i64 (.int .i64 (.str .nil))).len ((Sh.int .i64 (.int .i64 (.str .nil))).fits W)) : ∃ l, Rd Cmd.cs 3 W v l := by
  obtain ⟨A, n, c, rfl, hn, hc, hcell⟩ := sl_open hs (by decide)
  rcases hcell with h0 | ⟨g, o, rfl, hcell⟩
  · subst h0; exact ⟨[], A, c, rfl, hn, .inl rfl⟩
  · obtain ⟨l, hl, hat⟩ := list_of (p := fun k (x : Cmd) => RAt Cmd.cs W g (o + k * 3) x) n (fun i hi => by
      obtain ⟨cs, _, hget, a, _, rfl, _, b, _, rfl, _, t, _, rfl, _, rfl⟩ := hcell i hi
      exact ⟨⟨a, b, t⟩, fun j u hj => hget j u hj⟩)
    exact ⟨l, some ⟨g, o, none⟩, c, by rw [hl], by rw [hl]; exact hn, .inr ⟨g, o, rfl, hat⟩⟩
set_option maxRecDepth 100000 in
theorem opened {H : Type} {enc : TypeId × Value → H} {W : World} {base : Nat} {args : Array Value} {ds : List (DataW H)} {p : List MemPlace}
    (hval : ∀ (j : Nat) t v, (#[22, 3, 23] : Array TypeId)[j]? = some t → args[j]? = some v → Value.okWide Try.prog W .any base t v) (hA : DataW.TrodAll enc Try.prog W 0 (fun _ => true) true [22, 3, 23] args.toList ds p) :
    Calls Try.prog 3 args W fun e W' => e = .returned (.bool true) ∧ Below W.heap.size W W' := by
  obtain ⟨v0, v1, v2, d0, d1, d2, p0, p1, p2, e, rfl, rfl, h0, h1, h2⟩ := trodAll_three hA
  obtain rfl : args = #[v0, v1, v2] := by cases args; simp_all
  obtain ⟨l, hl⟩ := rd_steps (open_sls Try.underlying22 sh22 (hval 0 22 v0 rfl rfl) h0)
  obtain ⟨a1, rfl, rfl, rfl, w1⟩ := open_int Try.underlying3 (hval 1 3 v1 rfl rfl) h1
  obtain ⟨c, hc⟩ := rd_cmds (open_sls Try.underlying23 sh23 (hval 2 23 v2 rfl rfl) h2)
  by_cases hbig : l.length ≤ 200
  · by_cases hbig2 : c.length ≤ 60
    · exact apartSteps_w v0 v2 l c a1 W hbig hl hc hbig2
    · obtain ⟨A, cap, rfl, _⟩ := hl
      obtain ⟨Ac, capc, rfl, _⟩ := hc
      exact apartSteps_big2 A Ac _ cap _ capc a1 W hbig hbig2
  · obtain ⟨A, cap, rfl, _⟩ := hl
    obtain ⟨Ac, capc, rfl, _⟩ := hc
    exact apartSteps_big1 A Ac _ cap _ capc a1 W hbig
set_option maxRecDepth 100000 in
theorem lifted (os : Os) (started : os.Started) (H : Type) (enc : TypeId × Value → H) :
    ReturnsInHanded {} Try.checked os 3 .any (Rows.apartStepsSpec.pre6 enc Try.prog Try.f3 Rows.apartStepsRow.domain false) (Rows.apartStepsSpec.post enc Try.prog Try.f3 false true false false) := by
  refine returnsInHanded_of_change (C := Try.checked) Try.ownK started (by kernel_rfl) Try.func3
    (ChangeSpec.witness6 (enc := enc) (C := Try.checked) false ⟨#[], #[.slice none 0 0, .int .i64 0, .slice none 0 0], []⟩ 12 (by kernel_rfl) (by kernel_rfl) (by kernel_rfl) (by kernel_rfl)) ?_
  intro W base args ds gs before hval0 hW hcnd _
  have hval : ∀ (j : Nat) t v, Try.f3.params[j]? = some t → args[j]? = some v → Value.okWide Try.prog W .any base t v := hval0
  refine law_step (ts := [22, 3, 23]) (by rw [Try.params3]) (by kernel_rfl) rfl rd (fun ds h => match ds, h with | [a0, a1, a2], _ => rfl) hW fun p hA => ?_
  rw [Try.params3] at hval
  exact opened hval hA
theorem over : Rows.apartStepsRow.holds Try.pinned (OpenSpec.ofChange Rows.apartStepsSpec) :=
  OpenClaim.holds_of_wide 3 Try.f3 rfl rfl rfl rfl rfl rfl rfl ⟨rfl, rfl, rfl, rfl, rfl⟩ rfl rfl rfl rfl rfl (by kernel_rfl) Try.func3 closed
    (of_decide_eq_true (by kernel_rfl)) (by unfold Func.isWrapper; first | (rw [if_pos (by decide +kernel)]; kernel_rfl) | (rw [if_neg (by decide +kernel)]; exact ⟨rfl, rfl⟩))
    (fun os started H enc _ => lifted os started H enc)
theorem proved : Rows.ApartStepsSaid := over
#print axioms proved
end Go.Proofs.Ytppndeoiifkkkaa.apartSteps
