/- Layer 45 (foreign), law ForeignSigns. By symbolic walks. -/
import Derived.Test.YtdbjkklhgfhgnaaGreatFoD
import Derived.Test.YtdbjkklhgfhgnaaGreatFoB
namespace Go.Proofs.YtdbjkklhgfhgnaaGreat
open Go.RowKit Sz
set_option linter.unusedVariables false
set_option linter.unusedSimpArgs false
set_option maxHeartbeats 4000000
set_option maxRecDepth 20000
-- almshouse/almshouselaw45.ForeignSigns (1 parameters)
def x5 : XC := (.seq (.tree (.seq ⟨some 2, none, (.ofA (.mv (.cst (.v (.bool false)))))⟩
  .done))
 (.seq (.seq (.tree (.seq ⟨some 8, none, (.call (.cst (.fn 43 [])) [])⟩
  (.seq ⟨some 9, none, (.ofA (.un .not (.tmp 8)))⟩
  .done)))
 (.cond (.tmp 9)
 (.seq (.tree (.seq ⟨some 2, none, (.ofA (.mv (.cst (.v (.bool false)))))⟩
  .done))
 .ret)
 .skip))
 (.seq (.seq (.tree (.seq ⟨some 10, none, (.ofA (.mv (.tmp 0)))⟩
  (.seq ⟨some 11, none, (.ofA (.len (.tmp 10)))⟩
  (.seq ⟨some 12, none, (.ofA (.bin .gtr (.tmp 11) (.cst (.v (.int .i64 200)))))⟩
  .done))))
 (.cond (.tmp 12)
 (.seq (.tree (.seq ⟨some 2, none, (.ofA (.mv (.cst (.v (.bool true)))))⟩
  .done))
 .ret)
 .skip))
 (.seq (.tree (.seq ⟨some 3, none, (.ofA (.mv (.cst (.v (.bool true)))))⟩
  .done))
 (.seq (.tree (.seq ⟨some 13, none, (.ofA (.mv (.tmp 0)))⟩
  (.seq ⟨some 14, none, (.call (.cst (.fn 44 [])) [(.tmp 13)])⟩
  (.seq ⟨some 4, none, (.ofA (.mv (.tmp 14)))⟩
  .done))))
 (.seq (.seq (.tree (.seq ⟨some 15, none, (.ofA (.mv (.tmp 4)))⟩
  (.seq ⟨some 16, none, (.ofA (.len (.tmp 15)))⟩
  (.seq ⟨some 17, none, (.ofA (.mv (.tmp 0)))⟩
  (.seq ⟨some 18, none, (.ofA (.len (.tmp 17)))⟩
  (.seq ⟨some 19, none, (.ofA (.bin .neq (.tmp 16) (.tmp 18)))⟩
  .done))))))
 (.cond (.tmp 19)
 (.seq (.tree (.seq ⟨some 2, none, (.ofA (.mv (.cst (.v (.bool false)))))⟩
  .done))
 .ret)
 .skip))
 (.seq (.seq (.tree (.seq ⟨some 20, none, (.ofA (.mv (.tmp 0)))⟩
  (.seq ⟨some 21, none, (.ofA (.len (.tmp 20)))⟩
  (.seq ⟨some 22, none, (.ofA (.mv (.cst (.v (.int .i64 0)))))⟩
  .done))))
 (.block 0 (.loop (.seq (.tree (.seq ⟨some 23, none, (.ofA (.bin .lss (.tmp 22) (.tmp 21)))⟩
  .done))
 (.seq (.cond (.tmp 23)
 .skip
 (.exit 0))
 (.seq (.block 1 (.seq (.tree (.seq ⟨some 24, none, (.ofA (.mv (.tmp 22)))⟩
  (.seq ⟨some 25, none, (.ofA (.isl 8 (.tmp 20) (.tmp 22)))⟩
  (.seq ⟨some 26, none, (.ofA (.load (some 8) (.tmp 25)))⟩
  (.seq ⟨some 6, none, (.alloc [(.v (.int .i64 0)), (.v (.int .i64 0)), (.v (.int .i64 0)), (.v (.int .i64 0)), (.v (.int .i64 0)), (.v (.int .i64 0)), (.v (.int .i64 0)), (.v (.string ⟨#[]⟩))])⟩
  (.seq ⟨some 5, none, (.ofA (.mv (.tmp 24)))⟩
  (.seq ⟨none, none, (.store 8 (.tmp 6) (.tmp 26))⟩
  .done)))))))
 (.seq (.tree (.seq ⟨some 27, none, (.ofA (.load (some 8) (.tmp 6)))⟩
  (.seq ⟨some 7, none, (.alloc [(.v (.int .i64 0)), (.v (.int .i64 0)), (.v (.int .i64 0)), (.v (.int .i64 0)), (.v (.int .i64 0)), (.v (.int .i64 0)), (.v (.int .i64 0)), (.v (.string ⟨#[]⟩))])⟩
  (.seq ⟨none, none, (.store 8 (.tmp 7) (.tmp 27))⟩
  .done))))
 (.seq (.seq (.tree (.seq ⟨some 28, none, (.ofA (.faddr 0 (.tmp 6)))⟩
  (.seq ⟨some 29, none, (.ofA (.load none (.tmp 28)))⟩
  (.seq ⟨some 30, none, (.ofA (.bin .eql (.tmp 29) (.cst (.v (.int .i64 5)))))⟩
  (.seq ⟨some 31, none, (.ofA (.mv (.tmp 30)))⟩
  (.seq ⟨some 32, some (31, true), (.ofA (.faddr 5 (.tmp 6)))⟩
  (.seq ⟨some 33, some (31, true), (.ofA (.faddr 0 (.tmp 32)))⟩
  (.seq ⟨some 34, some (31, true), (.ofA (.load none (.tmp 33)))⟩
  (.seq ⟨some 35, some (31, true), (.ofA (.bin .eql (.tmp 34) (.cst (.v (.int .i64 2)))))⟩
  (.seq ⟨some 36, none, (.ofA (.pick (.tmp 31) (.tmp 35) (.cst (.v (.bool false)))))⟩
  (.seq ⟨some 37, none, (.ofA (.mv (.tmp 36)))⟩
  (.seq ⟨some 38, some (37, true), (.ofA (.faddr 5 (.tmp 6)))⟩
  (.seq ⟨some 39, some (37, true), (.ofA (.faddr 2 (.tmp 38)))⟩
  (.seq ⟨some 40, some (37, true), (.ofA (.load none (.tmp 39)))⟩
  (.seq ⟨some 41, some (37, true), (.ofA (.bin .neq (.tmp 40) (.cst (.v (.string ⟨#[]⟩)))))⟩
  (.seq ⟨some 42, none, (.ofA (.pick (.tmp 37) (.tmp 41) (.cst (.v (.bool false)))))⟩
  .done))))))))))))))))
 (.cond (.tmp 42)
 (.seq (.tree (.take ⟨some 43, none, (.ofA (.mv (.tmp 3)))⟩
  (.take ⟨some 44, none, (.ofA (.mv (.tmp 43)))⟩
  (.take ⟨some 45, some (44, true), (.ofA (.faddr 5 (.tmp 6)))⟩
  (.take ⟨some 46, some (44, true), (.ofA (.faddr 2 (.tmp 45)))⟩
  (.take ⟨some 47, some (44, true), (.ofA (.load none (.tmp 46)))⟩
  (.take ⟨some 48, some (44, true), (.ofA (.sidx (.tmp 47) (.cst (.v (.int .i64 0)))))⟩
  (.take ⟨some 49, some (44, true), (.ofA (.conv .i64 (.tmp 48)))⟩
  (.take ⟨some 50, some (44, true), (.ofA (.faddr 1 (.tmp 6)))⟩
  (.take ⟨some 51, some (44, true), (.ofA (.load none (.tmp 50)))⟩
  (.take ⟨some 52, some (44, true), (.ofA (.bin .add (.cst (.v (.int .i64 65))) (.tmp 51)))⟩
  (.take ⟨some 53, some (44, true), (.ofA (.bin .eql (.tmp 49) (.tmp 52)))⟩
  (.take ⟨some 54, none, (.ofA (.pick (.tmp 44) (.tmp 53) (.cst (.v (.bool false)))))⟩
  (.take ⟨some 3, none, (.ofA (.mv (.tmp 54)))⟩
  .done))))))))))))))
 (.seq (.tree (.seq ⟨some 55, none, (.ofA (.faddr 1 (.tmp 6)))⟩
  (.seq ⟨some 56, none, (.ofA (.load none (.tmp 55)))⟩
  (.seq ⟨some 57, none, (.ofA (.bin .geq (.tmp 56) (.cst (.v (.int .i64 0)))))⟩
  (.seq ⟨some 58, none, (.ofA (.mv (.tmp 57)))⟩
  (.seq ⟨some 59, some (58, true), (.ofA (.faddr 1 (.tmp 6)))⟩
  (.seq ⟨some 60, some (58, true), (.ofA (.load none (.tmp 59)))⟩
  (.seq ⟨some 61, some (58, true), (.ofA (.bin .lss (.tmp 60) (.cst (.v (.int .i64 4)))))⟩
  (.seq ⟨some 62, none, (.ofA (.pick (.tmp 58) (.tmp 61) (.cst (.v (.bool false)))))⟩
  .done)))))))))
 (.cond (.tmp 62)
 (.tree (.take ⟨some 63, none, (.ofA (.faddr 1 (.tmp 6)))⟩
  (.take ⟨some 64, none, (.ofA (.load none (.tmp 63)))⟩
  (.take ⟨some 65, none, (.ofA (.bin .add (.cst (.v (.int .i64 65))) (.tmp 64)))⟩
  (.take ⟨some 66, none, (.ofA (.conv .u8 (.tmp 65)))⟩
  (.take ⟨some 69, none, (.ofA (.faddr 5 (.tmp 6)))⟩
  (.take ⟨some 70, none, (.ofA (.faddr 2 (.tmp 69)))⟩
  (.take ⟨some 71, none, (.ofA (.load none (.tmp 70)))⟩
  (.take ⟨some 72, none, (.ofA (.faddr 5 (.tmp 6)))⟩
  (.take ⟨some 73, none, (.ofA (.faddr 2 (.tmp 72)))⟩
  (.take ⟨some 74, none, (.ofA (.load none (.tmp 73)))⟩
  (.take ⟨some 75, none, (.ofA (.lens (.tmp 74)))⟩
  (.take ⟨some 76, none, (.ofA (.mx false (.tmp 75) [(.cst (.v (.int .i64 15)))]))⟩
  (.take ⟨some 77, none, (.ofA (.slcs (.tmp 71) none (some (.tmp 76))))⟩
  (.alt [true] [(⟨some 67, none, (.buildSl 1 1 [(.v (.int .u8 0))] [(0, 1, (.tmp 66))])⟩,
 (.take ⟨some 68, none, (.ofA (.b2s (.tmp 67)))⟩
  (.take ⟨some 78, none, (.ofA (.bin .add (.tmp 68) (.tmp 77)))⟩
  (.take ⟨some 79, none, (.ofA (.faddr 5 (.tmp 7)))⟩
  (.take ⟨some 80, none, (.ofA (.faddr 2 (.tmp 79)))⟩
  (.alt [false] [(⟨none, none, (.store 1 (.tmp 80) (.tmp 78))⟩,
 .done)]))))))])))))))))))))))
 .skip)))
 .skip))
 (.seq (.tree (.take ⟨some 81, none, (.ofA (.mv (.tmp 4)))⟩
  (.take ⟨some 82, none, (.ofA (.mv (.tmp 5)))⟩
  (.take ⟨some 83, none, (.ofA (.isl 8 (.tmp 81) (.tmp 82)))⟩
  (.take ⟨some 84, none, (.ofA (.load (some 8) (.tmp 83)))⟩
  (.take ⟨some 85, none, (.ofA (.load (some 8) (.tmp 7)))⟩
  (.take ⟨some 86, none, (.ofA (.eqs true [.int, .int, .int, .int, .int, .int, .int, .str] (.tmp 84) (.tmp 85)))⟩
  .done)))))))
 (.cond (.tmp 86)
 (.seq (.tree (.seq ⟨some 2, none, (.ofA (.mv (.cst (.v (.bool false)))))⟩
  .done))
 .ret)
 .skip))))))
 (.tree (.seq ⟨some 87, none, (.ofA (.bin .add (.tmp 22) (.cst (.v (.int .i64 1)))))⟩
  (.seq ⟨some 22, none, (.ofA (.mv (.tmp 87)))⟩
  .done)))))))))
 (.seq (.tree (.seq ⟨some 88, none, (.ofA (.mv (.tmp 0)))⟩
  (.seq ⟨some 89, none, (.call (.cst (.fn 45 [])) [(.tmp 88)])⟩
  (.seq ⟨some 90, none, (.ofA (.mv (.tmp 3)))⟩
  (.seq ⟨some 91, none, (.ofA (.eqb false (.tmp 89) (.tmp 90)))⟩
  (.seq ⟨some 2, none, (.ofA (.mv (.tmp 91)))⟩
  .done))))))
 .ret))))))))
def r5 : List XR := [.tmp 2]
theorem fn5 : FnX Tryz.prog 5 [] 92 x5 r5 := ⟨_, Tryz.func5, by kernel_rfl, by kernel_rfl, by kernel_rfl, by kernel_rfl⟩

def okL (s : Stp) : Bool := !wrF s || (((s.data[0]?.getD 0).toNat : Int) == IntKind.i64.wrap (65 + s.tenant))
theorem okL_ok {s : Stp} (h1 : -9223372036854775808 ≤ s.tenant) (h2 : s.tenant ≤ 9223372036854775807) : okL s = okS s := by
  have hd := (s.data[0]?.getD 0).toNat_lt
  have e : (((s.data[0]?.getD 0).toNat : Int) == IntKind.i64.wrap (65 + s.tenant)) = (((s.data[0]?.getD 0).toNat : Int) - 65 == s.tenant) := by
    generalize (s.data[0]?.getD 0).toNat = d at hd
    have w : IntKind.i64.wrap (65 + s.tenant) = if s.tenant ≤ 9223372036854775742 then 65 + s.tenant else 65 + s.tenant - 18446744073709551616 := by
      split
      · exact Sz.w_64 (by omega) (by omega)
      · simp [IntKind.wrap, IntKind.bits, IntKind.signed]; omega
    rw [w]
    rw [Bool.eq_iff_iff, beq_iff_eq, beq_iff_eq]
    split <;> omega
  unfold okL okS
  rw [e]
  cases wrF s <;> simp
def G5 [Inp] : List CEntry := [⟨43, true, c43⟩, ⟨44, true, c44⟩, ⟨45, true, c45⟩]
theorem g5 [Inp] : GOk Tryz.prog G5 := GOk.cons c43_ok (GOk.cons c44_ok (GOk.cons c45_ok (g0 _)))
def c5 [Inp] : Trans := fun args m k => match args with
  | [.v (.slice p n c)] => ∃ ls : List Stp, inpL p (n * 8) = some (rowV Stp.cs ls) ∧ ls.length = n ∧ n ≤ 9223372036854775807 ∧ (∀ s ∈ ls, s.data.size ≤ 140737488355328 ∧ -9223372036854775808 ≤ s.tenant ∧ s.tenant ≤ 9223372036854775807) ∧ k (.v (.bool true)) m
  | _ => False
theorem c5_ok [I : Inp] : Contract Tryz.prog 5 true c5 := by
  refine .readN fn5 (G := fun J => @G5 J) (fun J => @g5 J) _ fun args m k h => ?_
  unfold c5 at h
  split at h
  case h_2 => exact h.elim
  rename_i p n c
  obtain ⟨ls, hin0, rfl, hn, hsz, hk⟩ := h
  refine ⟨by simp, fun J hJ us hus hI => ?_⟩
  obtain ⟨u, t1, rfl, hk1, rfl⟩ := hus
  have hin := hI _ _ _ hin0
  obtain rfl := hk1.1 _ rfl
  by_cases h200 : (200 : Int) < (ls.length : Int)
  · simp (maxSteps := 2000000) -implicitDefEqProofs only [↓x5, ↓r5, ↓G5, ↓c43, h200, gt_iff_lt, Sz.s_alt, Sz.s_alt20, Sz.s_alt2t, Sz.s_alt2f, ↓Sz.s_loopi, ↓Sz.v_pq, ↓Sz.PRE, Sz.POST, Sz.CORE, Nat.reduceDiv, Nat.reduceMod, Int.reduceLT, Int.reduceLE, Int.reduceToNat, Int.reduceAdd, ↓reduceIte, Nat.reduceEqDiff, Nat.reduceAdd, Nat.reduceMul, Nat.reduceSub, Nat.reduceLeDiff, Nat.reduceLT, reduceCtorEq, if_true, eq_self, forall_const, implies_true]
    exact hk
  · have hitem : ∀ (i : Nat) (x : Stp), ls[i]? = some x → inpL (plusA p (i * 8)) 8 = some x.cs := fun i x hx => inp_item Stp.len hin rfl hx
    simp (maxSteps := 2000000) -implicitDefEqProofs only [↓x5, ↓r5, ↓G5, ↓c43, ↓c44, h200, gt_iff_lt, Sz.s_alt, Sz.s_alt20, Sz.s_alt2t, Sz.s_alt2f, ↓Sz.s_loopi, ↓Sz.v_pq, ↓Sz.PRE, Sz.POST, Sz.CORE, Nat.reduceDiv, Nat.reduceMod, Int.reduceLT, Int.reduceLE, Int.reduceToNat, Int.reduceAdd, ↓reduceIte, Nat.reduceEqDiff, Nat.reduceAdd, Nat.reduceMul, Nat.reduceSub, Nat.reduceLeDiff, Nat.reduceLT, reduceCtorEq, if_true, eq_self, forall_const, implies_true]
    refine ⟨ls, hin, rfl, by omega, fun s hs => (hsz s hs).1, ?_⟩
    have fin : ls.all okL = !ls.any (fun s => !okS s) := by
      rw [List.not_any_eq_all_not]
      simp only [Bool.not_not]
      rw [Bool.eq_iff_iff, List.all_eq_true, List.all_eq_true]
      constructor
      · intro h s hs
        have := h s hs
        rwa [okL_ok (hsz s hs).2.1 (hsz s hs).2.2] at this
      · intro h s hs
        have := h s hs
        rwa [← okL_ok (hsz s hs).2.1 (hsz s hs).2.2] at this
    cases hp : p.isNone with
    | true =>
      have h0 : ls.length = 0 := by
        rcases Nat.eq_zero_or_pos ls.length with h | h
        · exact h
        · have := inpL_isSome hin (by omega)
          cases p <;> simp_all
      have h00 := List.length_eq_zero_iff.1 h0
      subst h00
      simp (maxSteps := 2000000) -implicitDefEqProofs only [List.length_nil, Sz.s_alt, Sz.s_alt20, Sz.s_alt2t, Sz.s_alt2f, ↓Sz.s_loopi, ↓Sz.v_pq, ↓Sz.PRE, Sz.POST, Sz.CORE, Nat.reduceDiv, Nat.reduceMod, Int.reduceLT, Int.reduceLE, Int.reduceToNat, Int.reduceAdd, ↓reduceIte, Nat.reduceEqDiff, Nat.reduceAdd, Nat.reduceMul, Nat.reduceSub, Nat.reduceLeDiff, Nat.reduceLT, reduceCtorEq, if_true, eq_self, forall_const, implies_true]
      refine TXi_of (TX_count (@g5 J) 0 (fun x => [(0, .v (.slice p 0 c)), (3, .v (.bool true)), (4, .v (.slice none 0 0)), (20, .v (.slice p 0 c)), (21, .v (.int .i64 0)), (22, .v (.int .i64 (x : Int)))]) (fun _ => []) (fun x => True) trivial ⟨[], by simp [Sz.NdL, Sz.NdA, Sz.oO_cells, Sz.oO_own, Sz.iL_nil], by simp only [FitM, ObLe, LeL, Le, List.cons_append, List.nil_append] <;> (try (simp (maxSteps := 2000000) -implicitDefEqProofs only [Sz.s_alt, Sz.s_alt20, Sz.s_alt2t, Sz.s_alt2f, ↓Sz.s_loopi, ↓Sz.v_pq, ↓Sz.PRE, Sz.POST, Sz.CORE, Nat.reduceDiv, Nat.reduceMod, Int.reduceLT, Int.reduceLE, Int.reduceToNat, Int.reduceAdd, ↓reduceIte, Nat.reduceEqDiff, Nat.reduceAdd, Nat.reduceMul, Nat.reduceSub, Nat.reduceLeDiff, Nat.reduceLT, reduceCtorEq, if_true, eq_self, forall_const, implies_true])) <;> (try simp), by simp only [FitE, Le, LeL, List.cons_append, List.nil_append] <;> (try (simp (maxSteps := 2000000) -implicitDefEqProofs only [Sz.s_alt, Sz.s_alt20, Sz.s_alt2t, Sz.s_alt2f, ↓Sz.s_loopi, ↓Sz.v_pq, ↓Sz.PRE, Sz.POST, Sz.CORE, Nat.reduceDiv, Nat.reduceMod, Int.reduceLT, Int.reduceLE, Int.reduceToNat, Int.reduceAdd, ↓reduceIte, Nat.reduceEqDiff, Nat.reduceAdd, Nat.reduceMul, Nat.reduceSub, Nat.reduceLeDiff, Nat.reduceLT, reduceCtorEq, if_true, eq_self, forall_const, implies_true])) <;> (try simp only [Sz.Le, Sz.LeL, List.getElem?_cons_zero, List.getElem?_cons_succ]) <;> (try simp), keep0 hJ⟩ (fun x hx _ => by omega) ?_)
      intro _
      simp (maxSteps := 2000000) -implicitDefEqProofs only [↓G5, ↓c45, Sz.s_alt, Sz.s_alt20, Sz.s_alt2t, Sz.s_alt2f, ↓Sz.s_loopi, ↓Sz.v_pq, ↓Sz.PRE, Sz.POST, Sz.CORE, Nat.reduceDiv, Nat.reduceMod, Int.reduceLT, Int.reduceLE, Int.reduceToNat, Int.reduceAdd, ↓reduceIte, Nat.reduceEqDiff, Nat.reduceAdd, Nat.reduceMul, Nat.reduceSub, Nat.reduceLeDiff, Nat.reduceLT, reduceCtorEq, if_true, eq_self, forall_const, implies_true]
      exact ⟨[], hin, rfl, by simpa using hk⟩
    | false =>
      simp (maxSteps := 2000000) -implicitDefEqProofs only [bne_self_eq_false, Bool.false_eq_true, Sz.s_alt, Sz.s_alt20, Sz.s_alt2t, Sz.s_alt2f, ↓Sz.s_loopi, ↓Sz.v_pq, ↓Sz.PRE, Sz.POST, Sz.CORE, Nat.reduceDiv, Nat.reduceMod, Int.reduceLT, Int.reduceLE, Int.reduceToNat, Int.reduceAdd, ↓reduceIte, Nat.reduceEqDiff, Nat.reduceAdd, Nat.reduceMul, Nat.reduceSub, Nat.reduceLeDiff, Nat.reduceLT, reduceCtorEq, if_true, eq_self, forall_const, implies_true]
      refine TXi_of (TX_count (@g5 J) ls.length (fun x => [(0, .v (.slice p ls.length c)), (3, .v (.bool ((ls.take x).all okL))), (4, .row 0 0 ls.length 8), (20, .v (.slice p ls.length c)), (21, .v (.int .i64 ls.length)), (22, .v (.int .i64 (x : Int)))]) (fun x => [⟨true, sL (ls.map sgS)⟩]) (fun x => True) trivial ?_ ?_ ?_)
      · exact ⟨[0], by simp [Sz.NdL, Sz.NdA, Sz.oO_cells, Sz.oO_own, Sz.iL_nil], by simp only [FitM, ObLe, LeL, Le, List.cons_append, List.nil_append] <;> (try (simp (maxSteps := 2000000) -implicitDefEqProofs only [sL_le, List.take_zero, List.all_nil, Sz.s_alt, Sz.s_alt20, Sz.s_alt2t, Sz.s_alt2f, ↓Sz.s_loopi, ↓Sz.v_pq, ↓Sz.PRE, Sz.POST, Sz.CORE, Nat.reduceDiv, Nat.reduceMod, Int.reduceLT, Int.reduceLE, Int.reduceToNat, Int.reduceAdd, ↓reduceIte, Nat.reduceEqDiff, Nat.reduceAdd, Nat.reduceMul, Nat.reduceSub, Nat.reduceLeDiff, Nat.reduceLT, reduceCtorEq, if_true, eq_self, forall_const, implies_true])) <;> (try simp), by simp only [FitE, Le, LeL, List.cons_append, List.nil_append] <;> (try (simp (maxSteps := 2000000) -implicitDefEqProofs only [sL_le, List.take_zero, List.all_nil, Sz.s_alt, Sz.s_alt20, Sz.s_alt2t, Sz.s_alt2f, ↓Sz.s_loopi, ↓Sz.v_pq, ↓Sz.PRE, Sz.POST, Sz.CORE, Nat.reduceDiv, Nat.reduceMod, Int.reduceLT, Int.reduceLE, Int.reduceToNat, Int.reduceAdd, ↓reduceIte, Nat.reduceEqDiff, Nat.reduceAdd, Nat.reduceMul, Nat.reduceSub, Nat.reduceLeDiff, Nat.reduceLT, reduceCtorEq, if_true, eq_self, forall_const, implies_true])) <;> (try simp only [Sz.Le, Sz.LeL, List.getElem?_cons_zero, List.getElem?_cons_succ]) <;> (try simp), keep0 hJ⟩
      · intro x hx _
        obtain ⟨d, hd⟩ : ∃ d, ls[x]? = some d := ⟨_, List.getElem?_eq_getElem hx⟩
        have hds := hsz d (List.mem_of_getElem? hd)
        have f : inpL (plusA p (x * 8)) 8 = some [.int .i64 d.kind, .int .i64 d.tenant, .int .i64 d.other, .int .i64 d.a, .int .i64 d.b, .int .i64 d.op, .int .i64 d.place, .string d.data] := hitem x d hd
        have hpp : p.isSome = true := inpL_isSome hin (by omega)
        have i0 : (0 : Int) ≤ (x : Int) := by omega
        have i1 : (x : Int) < (ls.length : Int) := by omega
        have w1 : IntKind.i64.wrap ((x : Int) + 1) = (x : Int) + 1 := Sz.w_64 (by omega) (by omega)
        have q1 := sL_len (ls.map sgS)
        rw [List.length_map] at q1
        have hd2 : (ls.map sgS)[x]? = some (sgS d) := by rw [List.getElem?_map, hd]; rfl
        have q2 := sL_get hd2
        have q5 : x * 8 + 8 ≤ ls.length * 8 := by omega
        have hall := all_snoc okL hd
        have hsg : ∀ b, (wrF d && inF d) = b → sgS d = if b = true then { d with data := (sgD d.tenant d.data).extract 0 (min (d.data.size + 1) 16) } else d := fun b hb => by unfold sgS; rw [hb]
        generalize (ls.take x).all okL = A at hall ⊢
        cases hw : wrF d with
        | false =>
          have e := hsg false (by rw [hw]; rfl)
          have e2 : ((sL (ls.map sgS)).drop (x * 8)).take 8 = [.v (.int .i64 d.kind), .v (.int .i64 d.tenant), .v (.int .i64 d.other), .v (.int .i64 d.a), .v (.int .i64 d.b), .v (.int .i64 d.op), .v (.int .i64 d.place), .v (.string d.data)] := by rw [q2, e]; rfl
          have ha : ((ls.take (x + 1)).all okL) = A := by rw [hall]; simp [okL, hw]
          rw [ha]
          have hw2 := hw
          unfold wrF at hw2
          clear hsg hall q2
          cases h1 : (d.kind == 5) <;> cases h2 : (d.op == 2) <;> cases h3 : (d.data.toList == (⟨#[]⟩ : ByteArray).toList) <;> simp only [h1, h2, h3, Bool.true_and, Bool.and_true, Bool.and_false, Bool.false_and, Bool.not_false, Bool.not_true, Bool.true_eq_false] at hw2
          all_goals
            simp (maxSteps := 2000000) -implicitDefEqProofs only [f, hpp, i0, i1, w1, h1, h2, h3, q1, q5, e2, beq_self_eq_true, Bool.true_and, Bool.not_true, Bool.false_eq_true, Sz.s_alt, Sz.s_alt20, Sz.s_alt2t, Sz.s_alt2f, ↓Sz.s_loopi, ↓Sz.v_pq, ↓Sz.PRE, Sz.POST, Sz.CORE, Nat.reduceDiv, Nat.reduceMod, Int.reduceLT, Int.reduceLE, Int.reduceToNat, Int.reduceAdd, ↓reduceIte, Nat.reduceEqDiff, Nat.reduceAdd, Nat.reduceMul, Nat.reduceSub, Nat.reduceLeDiff, Nat.reduceLT, reduceCtorEq, if_true, eq_self, forall_const, implies_true]
            exact ⟨[0], by simp [Sz.NdL, Sz.NdA, Sz.oO_cells, Sz.oO_own, Sz.iL_nil], by simp only [FitM, ObLe, LeL, Le, List.cons_append, List.nil_append] <;> (try (simp (maxSteps := 2000000) -implicitDefEqProofs only [sL_le, Sz.s_alt, Sz.s_alt20, Sz.s_alt2t, Sz.s_alt2f, ↓Sz.s_loopi, ↓Sz.v_pq, ↓Sz.PRE, Sz.POST, Sz.CORE, Nat.reduceDiv, Nat.reduceMod, Int.reduceLT, Int.reduceLE, Int.reduceToNat, Int.reduceAdd, ↓reduceIte, Nat.reduceEqDiff, Nat.reduceAdd, Nat.reduceMul, Nat.reduceSub, Nat.reduceLeDiff, Nat.reduceLT, reduceCtorEq, if_true, eq_self, forall_const, implies_true])) <;> (try simp), by simp only [FitE, Le, LeL, List.cons_append, List.nil_append] <;> (try (simp (maxSteps := 2000000) -implicitDefEqProofs only [sL_le, Sz.s_alt, Sz.s_alt20, Sz.s_alt2t, Sz.s_alt2f, ↓Sz.s_loopi, ↓Sz.v_pq, ↓Sz.PRE, Sz.POST, Sz.CORE, Nat.reduceDiv, Nat.reduceMod, Int.reduceLT, Int.reduceLE, Int.reduceToNat, Int.reduceAdd, ↓reduceIte, Nat.reduceEqDiff, Nat.reduceAdd, Nat.reduceMul, Nat.reduceSub, Nat.reduceLeDiff, Nat.reduceLT, reduceCtorEq, if_true, eq_self, forall_const, implies_true])) <;> (try simp only [Sz.Le, Sz.LeL, List.getElem?_cons_zero, List.getElem?_cons_succ]) <;> (try simp), keep0 hJ⟩
        | true =>
          have hs := wr_size hw
          have hs0 : (0 : Int) < (d.data.size : Int) := by omega
          have hw2 := hw
          unfold wrF at hw2
          simp only [Bool.and_eq_true, Bool.not_eq_true'] at hw2
          obtain ⟨⟨h1, h2⟩, h3⟩ := hw2
          have ho : okL d = (((d.data[0]?.getD 0).toNat : Int) == IntKind.i64.wrap (65 + d.tenant)) := by simp [okL, hw]
          have v0 : IntKind.i64.wrap ((d.data[0]?.getD 0).toNat : Int) = ((d.data[0]?.getD 0).toNat : Int) := Sz.w_64 (by omega) (by have := (d.data[0]?.getD 0).toNat_lt; omega)
          rw [ho] at hall
          obtain ⟨B, hB⟩ : ∃ B, (((d.data[0]?.getD 0).toNat : Int) == IntKind.i64.wrap (65 + d.tenant)) = B := ⟨_, rfl⟩
          rw [hB] at hall
          rw [hall]
          by_cases hr : 0 ≤ d.tenant ∧ d.tenant < 4
          · obtain ⟨h0, h4⟩ := hr
            have e := hsg true (by rw [hw]; simp [inF, h0, h4])
            rw [if_pos rfl, sg_cut] at e
            have e2 : ((sL (ls.map sgS)).drop (x * 8)).take 8 = [.v (.int .i64 d.kind), .v (.int .i64 d.tenant), .v (.int .i64 d.other), .v (.int .i64 d.a), .v (.int .i64 d.b), .v (.int .i64 d.op), .v (.int .i64 d.place), .v (.string (strOf [UInt8.ofNat (65 + d.tenant).toNat] ++ d.data.extract 0 (min d.data.size 15)))] := by rw [q2, e]; rfl
            have v1 : IntKind.i64.wrap (65 + d.tenant) = 65 + d.tenant := Sz.w_64 (by omega) (by omega)
            have v2 : IntKind.u8.wrap (65 + d.tenant) = 65 + d.tenant := by simp [IntKind.wrap, IntKind.bits, IntKind.signed]; omega
            have bv : bytesV [SV.v (.int .u8 (65 + d.tenant))] = some [UInt8.ofNat (65 + d.tenant).toNat] := rfl
            have hS : (strOf [UInt8.ofNat (65 + d.tenant).toNat]).size = 1 := rfl
            rw [v1] at hB
            clear hsg hall q2 ho
            by_cases h15 : (15 : Int) < (d.data.size : Int)
            · have hm : min d.data.size 15 = 15 := by omega
              rw [hm] at e2
              have hn : 15 ≤ d.data.size := by omega
              have hE : ((1 + (d.data.extract 0 15).size : Nat) : Int) ≤ 9223372036854775807 := by rw [ByteArray.size_extract]; omega
              cases A <;>
              simp (maxSteps := 2000000) -implicitDefEqProofs only [f, hpp, i0, i1, w1, h1, h2, h3, q1, q5, e2, beq_self_eq_true, Bool.true_and, Bool.false_and, Bool.not_true, Bool.not_false, Bool.false_eq_true, hs0, v0, v1, v2, bv, hB, h0, h4, ge_iff_le, h15, hn, hE, hS, Sz.s_alt, Sz.s_alt20, Sz.s_alt2t, Sz.s_alt2f, ↓Sz.s_loopi, ↓Sz.v_pq, ↓Sz.PRE, Sz.POST, Sz.CORE, Nat.reduceDiv, Nat.reduceMod, Int.reduceLT, Int.reduceLE, Int.reduceToNat, Int.reduceAdd, ↓reduceIte, Nat.reduceEqDiff, Nat.reduceAdd, Nat.reduceMul, Nat.reduceSub, Nat.reduceLeDiff, Nat.reduceLT, reduceCtorEq, if_true, eq_self, forall_const, implies_true] <;>
              exact ⟨[0], by simp [Sz.NdL, Sz.NdA, Sz.oO_cells, Sz.oO_own, Sz.iL_nil], by simp only [FitM, ObLe, LeL, Le, List.cons_append, List.nil_append] <;> (try (simp (maxSteps := 2000000) -implicitDefEqProofs only [sL_le, Sz.s_alt, Sz.s_alt20, Sz.s_alt2t, Sz.s_alt2f, ↓Sz.s_loopi, ↓Sz.v_pq, ↓Sz.PRE, Sz.POST, Sz.CORE, Nat.reduceDiv, Nat.reduceMod, Int.reduceLT, Int.reduceLE, Int.reduceToNat, Int.reduceAdd, ↓reduceIte, Nat.reduceEqDiff, Nat.reduceAdd, Nat.reduceMul, Nat.reduceSub, Nat.reduceLeDiff, Nat.reduceLT, reduceCtorEq, if_true, eq_self, forall_const, implies_true])) <;> (try simp), by simp only [FitE, Le, LeL, List.cons_append, List.nil_append] <;> (try (simp (maxSteps := 2000000) -implicitDefEqProofs only [sL_le, Sz.s_alt, Sz.s_alt20, Sz.s_alt2t, Sz.s_alt2f, ↓Sz.s_loopi, ↓Sz.v_pq, ↓Sz.PRE, Sz.POST, Sz.CORE, Nat.reduceDiv, Nat.reduceMod, Int.reduceLT, Int.reduceLE, Int.reduceToNat, Int.reduceAdd, ↓reduceIte, Nat.reduceEqDiff, Nat.reduceAdd, Nat.reduceMul, Nat.reduceSub, Nat.reduceLeDiff, Nat.reduceLT, reduceCtorEq, if_true, eq_self, forall_const, implies_true])) <;> (try simp only [Sz.Le, Sz.LeL, List.getElem?_cons_zero, List.getElem?_cons_succ]) <;> (try simp), keep0 hJ⟩
            · have hm : min d.data.size 15 = d.data.size := by omega
              rw [hm] at e2
              have hE : ((1 + (d.data.extract 0 d.data.size).size : Nat) : Int) ≤ 9223372036854775807 := by rw [ByteArray.size_extract]; omega
              have hZ : (0 : Int) ≤ (d.data.size : Int) := by omega
              cases A <;>
              simp (maxSteps := 2000000) -implicitDefEqProofs only [f, hpp, i0, i1, w1, h1, h2, h3, q1, q5, e2, beq_self_eq_true, Bool.true_and, Bool.false_and, Bool.not_true, Bool.not_false, Bool.false_eq_true, hs0, v0, v1, v2, bv, hB, h0, h4, ge_iff_le, h15, hE, hS, hZ, Nat.zero_le, Nat.le_refl, true_and, Sz.s_alt, Sz.s_alt20, Sz.s_alt2t, Sz.s_alt2f, ↓Sz.s_loopi, ↓Sz.v_pq, ↓Sz.PRE, Sz.POST, Sz.CORE, Nat.reduceDiv, Nat.reduceMod, Int.reduceLT, Int.reduceLE, Int.reduceToNat, Int.reduceAdd, ↓reduceIte, Nat.reduceEqDiff, Nat.reduceAdd, Nat.reduceMul, Nat.reduceSub, Nat.reduceLeDiff, Nat.reduceLT, reduceCtorEq, if_true, eq_self, forall_const, implies_true] <;>
              exact ⟨[0], by simp [Sz.NdL, Sz.NdA, Sz.oO_cells, Sz.oO_own, Sz.iL_nil], by simp only [FitM, ObLe, LeL, Le, List.cons_append, List.nil_append] <;> (try (simp (maxSteps := 2000000) -implicitDefEqProofs only [sL_le, Sz.s_alt, Sz.s_alt20, Sz.s_alt2t, Sz.s_alt2f, ↓Sz.s_loopi, ↓Sz.v_pq, ↓Sz.PRE, Sz.POST, Sz.CORE, Nat.reduceDiv, Nat.reduceMod, Int.reduceLT, Int.reduceLE, Int.reduceToNat, Int.reduceAdd, ↓reduceIte, Nat.reduceEqDiff, Nat.reduceAdd, Nat.reduceMul, Nat.reduceSub, Nat.reduceLeDiff, Nat.reduceLT, reduceCtorEq, if_true, eq_self, forall_const, implies_true])) <;> (try simp), by simp only [FitE, Le, LeL, List.cons_append, List.nil_append] <;> (try (simp (maxSteps := 2000000) -implicitDefEqProofs only [sL_le, Sz.s_alt, Sz.s_alt20, Sz.s_alt2t, Sz.s_alt2f, ↓Sz.s_loopi, ↓Sz.v_pq, ↓Sz.PRE, Sz.POST, Sz.CORE, Nat.reduceDiv, Nat.reduceMod, Int.reduceLT, Int.reduceLE, Int.reduceToNat, Int.reduceAdd, ↓reduceIte, Nat.reduceEqDiff, Nat.reduceAdd, Nat.reduceMul, Nat.reduceSub, Nat.reduceLeDiff, Nat.reduceLT, reduceCtorEq, if_true, eq_self, forall_const, implies_true])) <;> (try simp only [Sz.Le, Sz.LeL, List.getElem?_cons_zero, List.getElem?_cons_succ]) <;> (try simp), keep0 hJ⟩
          · have e := hsg false (by rw [hw]; simp only [inF, Bool.true_and, Bool.and_eq_false_iff, decide_eq_false_iff_not]; omega)
            have e2 : ((sL (ls.map sgS)).drop (x * 8)).take 8 = [.v (.int .i64 d.kind), .v (.int .i64 d.tenant), .v (.int .i64 d.other), .v (.int .i64 d.a), .v (.int .i64 d.b), .v (.int .i64 d.op), .v (.int .i64 d.place), .v (.string d.data)] := by rw [q2, e]; rfl
            clear hsg hall q2 ho
            by_cases h0 : 0 ≤ d.tenant
            · have h4 : ¬ d.tenant < 4 := fun h4 => hr ⟨h0, h4⟩
              cases A <;>
              simp (maxSteps := 2000000) -implicitDefEqProofs only [f, hpp, i0, i1, w1, h1, h2, h3, q1, q5, e2, beq_self_eq_true, Bool.true_and, Bool.false_and, Bool.not_true, Bool.not_false, Bool.false_eq_true, hs0, v0, hB, h0, h4, ge_iff_le, Sz.s_alt, Sz.s_alt20, Sz.s_alt2t, Sz.s_alt2f, ↓Sz.s_loopi, ↓Sz.v_pq, ↓Sz.PRE, Sz.POST, Sz.CORE, Nat.reduceDiv, Nat.reduceMod, Int.reduceLT, Int.reduceLE, Int.reduceToNat, Int.reduceAdd, ↓reduceIte, Nat.reduceEqDiff, Nat.reduceAdd, Nat.reduceMul, Nat.reduceSub, Nat.reduceLeDiff, Nat.reduceLT, reduceCtorEq, if_true, eq_self, forall_const, implies_true] <;>
              exact ⟨[0], by simp [Sz.NdL, Sz.NdA, Sz.oO_cells, Sz.oO_own, Sz.iL_nil], by simp only [FitM, ObLe, LeL, Le, List.cons_append, List.nil_append] <;> (try (simp (maxSteps := 2000000) -implicitDefEqProofs only [sL_le, Sz.s_alt, Sz.s_alt20, Sz.s_alt2t, Sz.s_alt2f, ↓Sz.s_loopi, ↓Sz.v_pq, ↓Sz.PRE, Sz.POST, Sz.CORE, Nat.reduceDiv, Nat.reduceMod, Int.reduceLT, Int.reduceLE, Int.reduceToNat, Int.reduceAdd, ↓reduceIte, Nat.reduceEqDiff, Nat.reduceAdd, Nat.reduceMul, Nat.reduceSub, Nat.reduceLeDiff, Nat.reduceLT, reduceCtorEq, if_true, eq_self, forall_const, implies_true])) <;> (try simp), by simp only [FitE, Le, LeL, List.cons_append, List.nil_append] <;> (try (simp (maxSteps := 2000000) -implicitDefEqProofs only [sL_le, Sz.s_alt, Sz.s_alt20, Sz.s_alt2t, Sz.s_alt2f, ↓Sz.s_loopi, ↓Sz.v_pq, ↓Sz.PRE, Sz.POST, Sz.CORE, Nat.reduceDiv, Nat.reduceMod, Int.reduceLT, Int.reduceLE, Int.reduceToNat, Int.reduceAdd, ↓reduceIte, Nat.reduceEqDiff, Nat.reduceAdd, Nat.reduceMul, Nat.reduceSub, Nat.reduceLeDiff, Nat.reduceLT, reduceCtorEq, if_true, eq_self, forall_const, implies_true])) <;> (try simp only [Sz.Le, Sz.LeL, List.getElem?_cons_zero, List.getElem?_cons_succ]) <;> (try simp), keep0 hJ⟩
            · cases A <;>
              simp (maxSteps := 2000000) -implicitDefEqProofs only [f, hpp, i0, i1, w1, h1, h2, h3, q1, q5, e2, beq_self_eq_true, Bool.true_and, Bool.false_and, Bool.not_true, Bool.not_false, Bool.false_eq_true, hs0, v0, hB, h0, ge_iff_le, Sz.s_alt, Sz.s_alt20, Sz.s_alt2t, Sz.s_alt2f, ↓Sz.s_loopi, ↓Sz.v_pq, ↓Sz.PRE, Sz.POST, Sz.CORE, Nat.reduceDiv, Nat.reduceMod, Int.reduceLT, Int.reduceLE, Int.reduceToNat, Int.reduceAdd, ↓reduceIte, Nat.reduceEqDiff, Nat.reduceAdd, Nat.reduceMul, Nat.reduceSub, Nat.reduceLeDiff, Nat.reduceLT, reduceCtorEq, if_true, eq_self, forall_const, implies_true] <;>
              exact ⟨[0], by simp [Sz.NdL, Sz.NdA, Sz.oO_cells, Sz.oO_own, Sz.iL_nil], by simp only [FitM, ObLe, LeL, Le, List.cons_append, List.nil_append] <;> (try (simp (maxSteps := 2000000) -implicitDefEqProofs only [sL_le, Sz.s_alt, Sz.s_alt20, Sz.s_alt2t, Sz.s_alt2f, ↓Sz.s_loopi, ↓Sz.v_pq, ↓Sz.PRE, Sz.POST, Sz.CORE, Nat.reduceDiv, Nat.reduceMod, Int.reduceLT, Int.reduceLE, Int.reduceToNat, Int.reduceAdd, ↓reduceIte, Nat.reduceEqDiff, Nat.reduceAdd, Nat.reduceMul, Nat.reduceSub, Nat.reduceLeDiff, Nat.reduceLT, reduceCtorEq, if_true, eq_self, forall_const, implies_true])) <;> (try simp), by simp only [FitE, Le, LeL, List.cons_append, List.nil_append] <;> (try (simp (maxSteps := 2000000) -implicitDefEqProofs only [sL_le, Sz.s_alt, Sz.s_alt20, Sz.s_alt2t, Sz.s_alt2f, ↓Sz.s_loopi, ↓Sz.v_pq, ↓Sz.PRE, Sz.POST, Sz.CORE, Nat.reduceDiv, Nat.reduceMod, Int.reduceLT, Int.reduceLE, Int.reduceToNat, Int.reduceAdd, ↓reduceIte, Nat.reduceEqDiff, Nat.reduceAdd, Nat.reduceMul, Nat.reduceSub, Nat.reduceLeDiff, Nat.reduceLT, reduceCtorEq, if_true, eq_self, forall_const, implies_true])) <;> (try simp only [Sz.Le, Sz.LeL, List.getElem?_cons_zero, List.getElem?_cons_succ]) <;> (try simp), keep0 hJ⟩
      · intro _
        have i1 : ¬ (ls.length : Int) < (ls.length : Int) := by omega
        rw [List.take_length, fin]
        simp (maxSteps := 2000000) -implicitDefEqProofs only [i1, ↓G5, ↓c45, Sz.s_alt, Sz.s_alt20, Sz.s_alt2t, Sz.s_alt2f, ↓Sz.s_loopi, ↓Sz.v_pq, ↓Sz.PRE, Sz.POST, Sz.CORE, Nat.reduceDiv, Nat.reduceMod, Int.reduceLT, Int.reduceLE, Int.reduceToNat, Int.reduceAdd, ↓reduceIte, Nat.reduceEqDiff, Nat.reduceAdd, Nat.reduceMul, Nat.reduceSub, Nat.reduceLeDiff, Nat.reduceLT, reduceCtorEq, if_true, eq_self, forall_const, implies_true]
        refine ⟨ls, hin, rfl, by omega, ?_⟩
        simp (maxSteps := 2000000) -implicitDefEqProofs only [beq_self_eq_true, Sz.s_alt, Sz.s_alt20, Sz.s_alt2t, Sz.s_alt2f, ↓Sz.s_loopi, ↓Sz.v_pq, ↓Sz.PRE, Sz.POST, Sz.CORE, Nat.reduceDiv, Nat.reduceMod, Int.reduceLT, Int.reduceLE, Int.reduceToNat, Int.reduceAdd, ↓reduceIte, Nat.reduceEqDiff, Nat.reduceAdd, Nat.reduceMul, Nat.reduceSub, Nat.reduceLeDiff, Nat.reduceLT, reduceCtorEq, if_true, eq_self, forall_const, implies_true]
        exact hk
end Go.Proofs.YtdbjkklhgfhgnaaGreat
