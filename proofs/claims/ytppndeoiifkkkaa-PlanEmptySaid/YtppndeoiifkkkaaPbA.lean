/- Layer 9 (rule) and the document's, layer 49 (plan): numbers of blocks, who stays, by symbolic walks. -/
import Derived.Test.YtppndeoiifkkkaaSyL
import Derived.Test.YtppndeoiifkkkaaProg
import Derived.IntWalk
namespace Go.Proofs.Ytppndeoiifkkkaa
open Go.RowKit Sy
set_option linter.unusedVariables false
set_option linter.unusedSimpArgs false
-- (almshouse/plan.Wish).some (1 parameters)
def x98 : XC := (.seq (.tree (.seq ⟨some 1, none, (.box (.tmp 0))⟩
  (.seq ⟨some 2, none, (.ofA (.mv (.cst (.v (.bool false)))))⟩
  .done)))
 (.seq (.tree (.seq ⟨some 3, none, (.ofA (.faddr 0 (.tmp 1)))⟩
  (.seq ⟨some 4, none, (.ofA (.load none (.tmp 3)))⟩
  (.seq ⟨some 5, none, (.ofA (.bin .neq (.tmp 4) (.cst (.v (.int .i64 0)))))⟩
  (.seq ⟨some 2, none, (.ofA (.mv (.tmp 5)))⟩
  .done)))))
 .ret))
def r98 : List XR := [.tmp 2]
theorem fn98 : FnX Try.prog 98 [] 6 x98 r98 := ⟨_, Try.func98, by kernel_rfl, by kernel_rfl, by kernel_rfl, by kernel_rfl⟩
-- almshouse/rule.Check (2 parameters)
def x99 : XC := (.seq (.tree (.seq ⟨some 4, none, (.ofA (.mv (.cst (.v (.int .i64 0)))))⟩
  .done))
 (.seq (.seq (.tree (.seq ⟨some 5, none, (.ofA (.mv (.tmp 0)))⟩
  (.seq ⟨some 6, none, (.ofA (.bin .lss (.tmp 5) (.cst (.v (.int .i64 1)))))⟩
  (.seq ⟨some 7, none, (.ofA (.mv (.tmp 6)))⟩
  (.seq ⟨some 8, some (7, false), (.ofA (.mv (.tmp 0)))⟩
  (.seq ⟨some 9, some (7, false), (.ofA (.bin .gtr (.tmp 8) (.cst (.v (.int .i64 64)))))⟩
  (.seq ⟨some 10, none, (.ofA (.pick (.tmp 7) (.cst (.v (.bool true))) (.tmp 9)))⟩
  (.seq ⟨some 11, none, (.ofA (.mv (.tmp 10)))⟩
  (.seq ⟨some 12, some (11, false), (.ofA (.mv (.tmp 1)))⟩
  (.seq ⟨some 13, some (11, false), (.ofA (.bin .lss (.tmp 12) (.cst (.v (.int .i64 0)))))⟩
  (.seq ⟨some 14, none, (.ofA (.pick (.tmp 11) (.cst (.v (.bool true))) (.tmp 13)))⟩
  (.seq ⟨some 15, none, (.ofA (.mv (.tmp 14)))⟩
  (.seq ⟨some 16, some (15, false), (.ofA (.mv (.tmp 1)))⟩
  (.seq ⟨some 17, some (15, false), (.ofA (.bin .gtr (.tmp 16) (.cst (.v (.int .i64 8)))))⟩
  (.seq ⟨some 18, none, (.ofA (.pick (.tmp 15) (.cst (.v (.bool true))) (.tmp 17)))⟩
  .done)))))))))))))))
 (.cond (.tmp 18)
 (.seq (.tree (.seq ⟨some 4, none, (.ofA (.mv (.cst (.v (.int .i64 5)))))⟩
  .done))
 .ret)
 .skip))
 (.seq (.tree (.seq ⟨some 4, none, (.ofA (.mv (.cst (.v (.int .i64 0)))))⟩
  .done))
 .ret)))
def r99 : List XR := [.tmp 4]
theorem fn99 : FnX Try.prog 99 [] 19 x99 r99 := ⟨_, Try.func99, by kernel_rfl, by kernel_rfl, by kernel_rfl, by kernel_rfl⟩
-- almshouse/rule.paged (1 parameters)
def x153 : XC := (.seq (.tree (.seq ⟨some 2, none, (.ofA (.mv (.cst (.v (.bool false)))))⟩
  .done))
 (.seq (.tree (.seq ⟨some 3, none, (.ofA (.mv (.tmp 0)))⟩
  (.seq ⟨some 4, none, (.ofA (.bin .geq (.tmp 3) (.cst (.v (.int .i64 2)))))⟩
  (.seq ⟨some 5, none, (.ofA (.mv (.tmp 4)))⟩
  (.seq ⟨some 6, some (5, true), (.ofA (.mv (.tmp 0)))⟩
  (.seq ⟨some 7, some (5, true), (.ofA (.bin .leq (.tmp 6) (.cst (.v (.int .i64 16)))))⟩
  (.seq ⟨some 8, none, (.ofA (.pick (.tmp 5) (.tmp 7) (.cst (.v (.bool false)))))⟩
  (.seq ⟨some 2, none, (.ofA (.mv (.tmp 8)))⟩
  .done))))))))
 .ret))
def r153 : List XR := [.tmp 2]
theorem fn153 : FnX Try.prog 153 [] 9 x153 r153 := ⟨_, Try.func153, by kernel_rfl, by kernel_rfl, by kernel_rfl, by kernel_rfl⟩
-- almshouse/rule.Data (2 parameters)
def x154 : XC := (.seq (.tree (.seq ⟨some 4, none, (.ofA (.mv (.cst (.v (.int .i64 0)))))⟩
  .done))
 (.seq (.seq (.tree (.seq ⟨some 5, none, (.ofA (.mv (.tmp 0)))⟩
  (.seq ⟨some 6, none, (.call (.cst (.fn 99 [])) [(.tmp 5), (.cst (.v (.int .i64 0)))])⟩
  (.seq ⟨some 7, none, (.ofA (.bin .neq (.tmp 6) (.cst (.v (.int .i64 0)))))⟩
  (.seq ⟨some 8, none, (.ofA (.mv (.tmp 7)))⟩
  (.seq ⟨some 9, some (8, false), (.ofA (.mv (.tmp 1)))⟩
  (.seq ⟨some 10, some (8, false), (.call (.cst (.fn 153 [])) [(.tmp 9)])⟩
  (.seq ⟨some 11, some (8, false), (.ofA (.un .not (.tmp 10)))⟩
  (.seq ⟨some 12, none, (.ofA (.pick (.tmp 8) (.cst (.v (.bool true))) (.tmp 11)))⟩
  .done)))))))))
 (.cond (.tmp 12)
 (.seq (.tree (.seq ⟨some 4, none, (.ofA (.mv (.cst (.v (.int .i64 0)))))⟩
  .done))
 .ret)
 .skip))
 (.seq (.tree (.seq ⟨some 13, none, (.ofA (.mv (.tmp 0)))⟩
  (.seq ⟨some 14, none, (.ofA (.mv (.tmp 1)))⟩
  (.seq ⟨some 15, none, (.ofA (.bin .quo (.tmp 13) (.tmp 14)))⟩
  (.seq ⟨some 16, none, (.ofA (.bin .add (.tmp 15) (.cst (.v (.int .i64 2)))))⟩
  (.seq ⟨some 4, none, (.ofA (.mv (.tmp 16)))⟩
  .done))))))
 .ret)))
def r154 : List XR := [.tmp 4]
theorem fn154 : FnX Try.prog 154 [] 17 x154 r154 := ⟨_, Try.func154, by kernel_rfl, by kernel_rfl, by kernel_rfl, by kernel_rfl⟩
-- almshouse/rule.Total (3 parameters)
def x103 : XC := (.seq (.tree (.seq ⟨some 6, none, (.ofA (.mv (.cst (.v (.int .i64 0)))))⟩
  .done))
 (.seq (.seq (.tree (.seq ⟨some 7, none, (.ofA (.mv (.tmp 0)))⟩
  (.seq ⟨some 8, none, (.ofA (.mv (.tmp 1)))⟩
  (.seq ⟨some 9, none, (.call (.cst (.fn 99 [])) [(.tmp 7), (.tmp 8)])⟩
  (.seq ⟨some 10, none, (.ofA (.bin .neq (.tmp 9) (.cst (.v (.int .i64 0)))))⟩
  (.seq ⟨some 11, none, (.ofA (.mv (.tmp 10)))⟩
  (.seq ⟨some 12, some (11, false), (.ofA (.mv (.tmp 2)))⟩
  (.seq ⟨some 13, some (11, false), (.call (.cst (.fn 153 [])) [(.tmp 12)])⟩
  (.seq ⟨some 14, some (11, false), (.ofA (.un .not (.tmp 13)))⟩
  (.seq ⟨some 15, none, (.ofA (.pick (.tmp 11) (.cst (.v (.bool true))) (.tmp 14)))⟩
  .done))))))))))
 (.cond (.tmp 15)
 (.seq (.tree (.seq ⟨some 6, none, (.ofA (.mv (.cst (.v (.int .i64 0)))))⟩
  .done))
 .ret)
 .skip))
 (.seq (.tree (.seq ⟨some 16, none, (.ofA (.mv (.tmp 0)))⟩
  (.seq ⟨some 17, none, (.ofA (.mv (.tmp 2)))⟩
  (.seq ⟨some 18, none, (.call (.cst (.fn 154 [])) [(.tmp 16), (.tmp 17)])⟩
  (.seq ⟨some 19, none, (.ofA (.mv (.tmp 1)))⟩
  (.seq ⟨some 20, none, (.ofA (.bin .add (.tmp 18) (.tmp 19)))⟩
  (.seq ⟨some 6, none, (.ofA (.mv (.tmp 20)))⟩
  .done)))))))
 .ret)))
def r103 : List XR := [.tmp 6]
theorem fn103 : FnX Try.prog 103 [] 21 x103 r103 := ⟨_, Try.func103, by kernel_rfl, by kernel_rfl, by kernel_rfl, by kernel_rfl⟩
-- almshouse/almshouseref09.Right (3 parameters)
def x107 : XC := (.seq (.tree (.seq ⟨some 6, none, (.ofA (.mv (.cst (.v (.bool false)))))⟩
  .done))
 (.seq (.tree (.seq ⟨some 7, none, (.ofA (.mv (.tmp 0)))⟩
  (.seq ⟨some 8, none, (.ofA (.bin .geq (.tmp 7) (.cst (.v (.int .i64 1)))))⟩
  (.seq ⟨some 9, none, (.ofA (.mv (.tmp 8)))⟩
  (.seq ⟨some 10, some (9, true), (.ofA (.mv (.tmp 0)))⟩
  (.seq ⟨some 11, some (9, true), (.ofA (.bin .leq (.tmp 10) (.cst (.v (.int .i64 64)))))⟩
  (.seq ⟨some 12, none, (.ofA (.pick (.tmp 9) (.tmp 11) (.cst (.v (.bool false)))))⟩
  (.seq ⟨some 13, none, (.ofA (.mv (.tmp 12)))⟩
  (.seq ⟨some 14, some (13, true), (.ofA (.mv (.tmp 1)))⟩
  (.seq ⟨some 15, some (13, true), (.ofA (.bin .geq (.tmp 14) (.cst (.v (.int .i64 0)))))⟩
  (.seq ⟨some 16, none, (.ofA (.pick (.tmp 13) (.tmp 15) (.cst (.v (.bool false)))))⟩
  (.seq ⟨some 17, none, (.ofA (.mv (.tmp 16)))⟩
  (.seq ⟨some 18, some (17, true), (.ofA (.mv (.tmp 1)))⟩
  (.seq ⟨some 19, some (17, true), (.ofA (.bin .leq (.tmp 18) (.cst (.v (.int .i64 8)))))⟩
  (.seq ⟨some 20, none, (.ofA (.pick (.tmp 17) (.tmp 19) (.cst (.v (.bool false)))))⟩
  (.seq ⟨some 21, none, (.ofA (.mv (.tmp 20)))⟩
  (.seq ⟨some 22, some (21, true), (.ofA (.mv (.tmp 2)))⟩
  (.seq ⟨some 23, some (21, true), (.ofA (.bin .geq (.tmp 22) (.cst (.v (.int .i64 2)))))⟩
  (.seq ⟨some 24, none, (.ofA (.pick (.tmp 21) (.tmp 23) (.cst (.v (.bool false)))))⟩
  (.seq ⟨some 25, none, (.ofA (.mv (.tmp 24)))⟩
  (.seq ⟨some 26, some (25, true), (.ofA (.mv (.tmp 2)))⟩
  (.seq ⟨some 27, some (25, true), (.ofA (.bin .leq (.tmp 26) (.cst (.v (.int .i64 16)))))⟩
  (.seq ⟨some 28, none, (.ofA (.pick (.tmp 25) (.tmp 27) (.cst (.v (.bool false)))))⟩
  (.seq ⟨some 6, none, (.ofA (.mv (.tmp 28)))⟩
  .done))))))))))))))))))))))))
 .ret))
def r107 : List XR := [.tmp 6]
theorem fn107 : FnX Try.prog 107 [] 29 x107 r107 := ⟨_, Try.func107, by kernel_rfl, by kernel_rfl, by kernel_rfl, by kernel_rfl⟩
-- almshouse/almshouseref09.Data (2 parameters)
def x155 : XC := (.seq (.tree (.seq ⟨some 4, none, (.ofA (.mv (.cst (.v (.int .i64 0)))))⟩
  .done))
 (.seq (.seq (.tree (.seq ⟨some 6, none, (.ofA (.mv (.tmp 0)))⟩
  (.seq ⟨some 7, none, (.ofA (.mv (.tmp 1)))⟩
  (.seq ⟨some 8, none, (.call (.cst (.fn 107 [])) [(.tmp 6), (.cst (.v (.int .i64 0))), (.tmp 7)])⟩
  (.seq ⟨some 9, none, (.ofA (.un .not (.tmp 8)))⟩
  .done)))))
 (.cond (.tmp 9)
 (.seq (.tree (.seq ⟨some 4, none, (.ofA (.mv (.cst (.v (.int .i64 0)))))⟩
  .done))
 .ret)
 .skip))
 (.seq (.tree (.seq ⟨some 5, none, (.ofA (.mv (.cst (.v (.int .i64 0)))))⟩
  .done))
 (.seq (.block 0 (.loop (.seq (.seq (.tree (.seq ⟨some 10, none, (.ofA (.mv (.tmp 5)))⟩
  (.seq ⟨some 11, none, (.ofA (.bin .add (.tmp 10) (.cst (.v (.int .i64 1)))))⟩
  (.seq ⟨some 12, none, (.ofA (.mv (.tmp 1)))⟩
  (.seq ⟨some 13, none, (.ofA (.bin .mul (.tmp 11) (.tmp 12)))⟩
  (.seq ⟨some 14, none, (.ofA (.mv (.tmp 0)))⟩
  (.seq ⟨some 15, none, (.ofA (.bin .leq (.tmp 13) (.tmp 14)))⟩
  .done)))))))
 (.cond (.tmp 15)
 .skip
 (.exit 0)))
 (.block 1 (.tree (.seq ⟨some 16, none, (.ofA (.mv (.tmp 5)))⟩
  (.seq ⟨some 17, none, (.ofA (.bin .add (.tmp 16) (.cst (.v (.int .i64 1)))))⟩
  (.seq ⟨some 5, none, (.ofA (.mv (.tmp 17)))⟩
  .done))))))))
 (.seq (.tree (.seq ⟨some 18, none, (.ofA (.mv (.tmp 5)))⟩
  (.seq ⟨some 19, none, (.ofA (.bin .add (.tmp 18) (.cst (.v (.int .i64 2)))))⟩
  (.seq ⟨some 4, none, (.ofA (.mv (.tmp 19)))⟩
  .done))))
 .ret)))))
def r155 : List XR := [.tmp 4]
theorem fn155 : FnX Try.prog 155 [] 20 x155 r155 := ⟨_, Try.func155, by kernel_rfl, by kernel_rfl, by kernel_rfl, by kernel_rfl⟩
-- almshouse/almshouseref09.Total (3 parameters)
def x105 : XC := (.seq (.tree (.seq ⟨some 6, none, (.ofA (.mv (.cst (.v (.int .i64 0)))))⟩
  .done))
 (.seq (.seq (.tree (.seq ⟨some 7, none, (.ofA (.mv (.tmp 0)))⟩
  (.seq ⟨some 8, none, (.ofA (.mv (.tmp 1)))⟩
  (.seq ⟨some 9, none, (.ofA (.mv (.tmp 2)))⟩
  (.seq ⟨some 10, none, (.call (.cst (.fn 107 [])) [(.tmp 7), (.tmp 8), (.tmp 9)])⟩
  (.seq ⟨some 11, none, (.ofA (.un .not (.tmp 10)))⟩
  .done))))))
 (.cond (.tmp 11)
 (.seq (.tree (.seq ⟨some 6, none, (.ofA (.mv (.cst (.v (.int .i64 0)))))⟩
  .done))
 .ret)
 .skip))
 (.seq (.tree (.seq ⟨some 12, none, (.ofA (.mv (.tmp 0)))⟩
  (.seq ⟨some 13, none, (.ofA (.mv (.tmp 2)))⟩
  (.seq ⟨some 14, none, (.call (.cst (.fn 155 [])) [(.tmp 12), (.tmp 13)])⟩
  (.seq ⟨some 15, none, (.ofA (.mv (.tmp 1)))⟩
  (.seq ⟨some 16, none, (.ofA (.bin .add (.tmp 14) (.tmp 15)))⟩
  (.seq ⟨some 6, none, (.ofA (.mv (.tmp 16)))⟩
  .done)))))))
 .ret)))
def r105 : List XR := [.tmp 6]
theorem fn105 : FnX Try.prog 105 [] 17 x105 r105 := ⟨_, Try.func105, by kernel_rfl, by kernel_rfl, by kernel_rfl, by kernel_rfl⟩
-- (almshouse/plan.Wish).stays (2 parameters)
def x104 : XC := (.seq (.tree (.seq ⟨some 2, none, (.box (.tmp 0))⟩
  (.seq ⟨some 3, none, (.box (.tmp 1))⟩
  (.seq ⟨some 4, none, (.ofA (.mv (.cst (.v (.bool false)))))⟩
  .done))))
 (.seq (.tree (.seq ⟨some 5, none, (.ofA (.faddr 0 (.tmp 3)))⟩
  (.seq ⟨some 6, none, (.ofA (.load none (.tmp 5)))⟩
  (.seq ⟨some 7, none, (.ofA (.mv (.tmp 6)))⟩
  (.seq ⟨some 8, some (7, true), (.ofA (.load (some 2) (.tmp 2)))⟩
  (.seq ⟨some 9, some (7, true), (.call (.cst (.fn 98 [])) [(.tmp 8)])⟩
  (.seq ⟨some 10, none, (.ofA (.pick (.tmp 7) (.tmp 9) (.cst (.v (.bool false)))))⟩
  (.seq ⟨some 11, none, (.ofA (.mv (.tmp 10)))⟩
  (.seq ⟨some 12, some (11, true), (.ofA (.faddr 3 (.tmp 3)))⟩
  (.seq ⟨some 13, some (11, true), (.ofA (.load none (.tmp 12)))⟩
  (.seq ⟨some 14, some (11, true), (.ofA (.faddr 1 (.tmp 2)))⟩
  (.seq ⟨some 15, some (11, true), (.ofA (.load none (.tmp 14)))⟩
  (.seq ⟨some 16, some (11, true), (.ofA (.bin .eql (.tmp 13) (.tmp 15)))⟩
  (.seq ⟨some 17, none, (.ofA (.pick (.tmp 11) (.tmp 16) (.cst (.v (.bool false)))))⟩
  (.seq ⟨some 4, none, (.ofA (.mv (.tmp 17)))⟩
  .done)))))))))))))))
 .ret))
def r104 : List XR := [.tmp 4]
theorem fn104 : FnX Try.prog 104 [] 18 x104 r104 := ⟨_, Try.func104, by kernel_rfl, by kernel_rfl, by kernel_rfl, by kernel_rfl⟩
-- almshouse/almshouseref49.stays (2 parameters)
def x106 : XC := (.seq (.tree (.seq ⟨some 2, none, (.box (.tmp 0))⟩
  (.seq ⟨some 3, none, (.box (.tmp 1))⟩
  (.seq ⟨some 4, none, (.ofA (.mv (.cst (.v (.bool false)))))⟩
  .done))))
 (.seq (.tree (.seq ⟨some 5, none, (.ofA (.faddr 0 (.tmp 2)))⟩
  (.seq ⟨some 6, none, (.ofA (.load none (.tmp 5)))⟩
  (.seq ⟨some 7, none, (.ofA (.mv (.tmp 6)))⟩
  (.seq ⟨some 8, some (7, true), (.ofA (.faddr 0 (.tmp 3)))⟩
  (.seq ⟨some 9, some (7, true), (.ofA (.load none (.tmp 8)))⟩
  (.seq ⟨some 10, some (7, true), (.ofA (.bin .neq (.tmp 9) (.cst (.v (.int .i64 0)))))⟩
  (.seq ⟨some 11, none, (.ofA (.pick (.tmp 7) (.tmp 10) (.cst (.v (.bool false)))))⟩
  (.seq ⟨some 12, none, (.ofA (.mv (.tmp 11)))⟩
  (.seq ⟨some 13, some (12, true), (.ofA (.faddr 3 (.tmp 2)))⟩
  (.seq ⟨some 14, some (12, true), (.ofA (.load none (.tmp 13)))⟩
  (.seq ⟨some 15, some (12, true), (.ofA (.faddr 1 (.tmp 3)))⟩
  (.seq ⟨some 16, some (12, true), (.ofA (.load none (.tmp 15)))⟩
  (.seq ⟨some 17, some (12, true), (.ofA (.bin .eql (.tmp 14) (.tmp 16)))⟩
  (.seq ⟨some 18, none, (.ofA (.pick (.tmp 12) (.tmp 17) (.cst (.v (.bool false)))))⟩
  (.seq ⟨some 4, none, (.ofA (.mv (.tmp 18)))⟩
  .done))))))))))))))))
 .ret))
def r106 : List XR := [.tmp 4]
theorem fn106 : FnX Try.prog 106 [] 19 x106 r106 := ⟨_, Try.func106, by kernel_rfl, by kernel_rfl, by kernel_rfl, by kernel_rfl⟩

theorem GOk.cons {P : Program} {f : FuncId} {q : Bool} {tr : Trans} {G : List CEntry} (h : Contract P f q tr) (hG : GOk P G) : GOk P (⟨f, q, tr⟩ :: G) := fun c hc => by
  rcases List.mem_cons.1 hc with rfl | hc
  · exact h
  · exact hG c hc
theorem g0 : GOk Try.prog [] := fun c h => by cases h
def roomB (s p : Int) : Bool := decide (1 ≤ s) && decide (s ≤ 64) && decide (0 ≤ p) && decide (p ≤ 8)
theorem roomB_iff (s p : Int) : roomB s p = true ↔ 1 ≤ s ∧ s ≤ 64 ∧ 0 ≤ p ∧ p ≤ 8 := by simp [roomB, and_assoc]
def roomE (s p : Int) : Int := if roomB s p then 0 else 5
def c98 : Trans := fun args m k => match args with
  | [.agg [.v (.int .i64 s), .v (.int .i64 p)]] => k (.v (.bool (s != 0))) m
  | _ => False
theorem c98_ok : Contract Try.prog 98 true c98 := by
  refine .plainArgs fn98 g0 _ fun args m k h => ?_
  unfold c98 at h
  split at h
  · refine ⟨rfl, by simp, ?_⟩
    simp (maxSteps := 2000000) -implicitDefEqProofs only [↓x98, ↓r98, ↓Sy.PRE, Sy.POST, Nat.reduceDiv, Nat.reduceMod, Int.reduceLT, Int.reduceLE, Int.reduceToNat, Int.reduceAdd, decide_true, decide_false, ↓reduceIte, List.map_cons, List.map_nil, List.length_cons, List.length_nil, List.cons_append, List.nil_append, List.getElem?_cons_zero, List.getElem?_cons_succ, List.getElem?_nil, List.take_succ_cons, List.take_zero, List.drop_succ_cons, List.drop_zero, List.all_cons, List.all_nil, List.set_cons_zero, List.set_cons_succ, List.append_nil, Option.map_some, Option.map_none, cond_true, cond_false, Bool.true_eq_false, Bool.false_eq_true, Bool.not_true, Bool.not_false, Nat.reduceEqDiff, Nat.reduceAdd, Nat.reduceMul, Nat.reduceSub, Nat.reduceLeDiff, Nat.reduceLT, true_and, and_true, reduceCtorEq, Nat.zero_add, Nat.add_zero, Nat.zero_mul, Nat.le_refl, Int.toNat_natCast, Bool.and_self, Bool.true_and, Bool.and_true, if_true, eq_self, forall_const, and_self, implies_true]
    exact h
  · exact h.elim
def c99 : Trans := fun args m k => match args with
  | [.v (.int .i64 s), .v (.int .i64 p)] => k (.v (.int .i64 (roomE s p))) m
  | _ => False
theorem c99_ok : Contract Try.prog 99 true c99 := by
  refine .plainArgs fn99 g0 _ fun args m k h => ?_
  unfold c99 at h
  split at h
  · rename_i s p
    refine ⟨rfl, by simp, ?_⟩
    simp (maxSteps := 2000000) -implicitDefEqProofs only [↓x99, ↓r99, ↓Sy.PRE, Sy.POST, Nat.reduceDiv, Nat.reduceMod, Int.reduceLT, Int.reduceLE, Int.reduceToNat, Int.reduceAdd, decide_true, decide_false, ↓reduceIte, List.map_cons, List.map_nil, List.length_cons, List.length_nil, List.cons_append, List.nil_append, List.getElem?_cons_zero, List.getElem?_cons_succ, List.getElem?_nil, List.take_succ_cons, List.take_zero, List.drop_succ_cons, List.drop_zero, List.all_cons, List.all_nil, List.set_cons_zero, List.set_cons_succ, List.append_nil, Option.map_some, Option.map_none, cond_true, cond_false, Bool.true_eq_false, Bool.false_eq_true, Bool.not_true, Bool.not_false, Nat.reduceEqDiff, Nat.reduceAdd, Nat.reduceMul, Nat.reduceSub, Nat.reduceLeDiff, Nat.reduceLT, true_and, and_true, reduceCtorEq, Nat.zero_add, Nat.add_zero, Nat.zero_mul, Nat.le_refl, Int.toNat_natCast, Bool.and_self, Bool.true_and, Bool.and_true, if_true, eq_self, forall_const, and_self, implies_true]
    have e5 : ¬ (1 ≤ s ∧ s ≤ 64 ∧ 0 ≤ p ∧ p ≤ 8) → roomE s p = 5 := fun hn => by unfold roomE; rw [if_neg (by rw [roomB_iff]; exact hn)]
    have e0 : (1 ≤ s ∧ s ≤ 64 ∧ 0 ≤ p ∧ p ≤ 8) → roomE s p = 0 := fun hn => by unfold roomE; rw [if_pos (by rw [roomB_iff]; exact hn)]
    repeat' split
    all_goals simp only [decide_eq_true_eq, decide_eq_false_iff_not] at *
    all_goals first | (rw [e5 (by omega)] at h; exact h) | (rw [e0 (by omega)] at h; exact h)
  · exact h.elim
def pagedB (n : Int) : Bool := decide (2 ≤ n) && decide (n ≤ 16)
theorem pagedB_iff (n : Int) : pagedB n = true ↔ 2 ≤ n ∧ n ≤ 16 := by simp [pagedB]
def c153 : Trans := fun args m k => match args with
  | [.v (.int .i64 n)] => k (.v (.bool (pagedB n))) m
  | _ => False
theorem c153_ok : Contract Try.prog 153 true c153 := by
  refine .plainArgs fn153 g0 _ fun args m k h => ?_
  unfold c153 at h
  split at h
  · rename_i n
    refine ⟨rfl, by simp, ?_⟩
    simp (maxSteps := 2000000) -implicitDefEqProofs only [↓x153, ↓r153, ↓Sy.PRE, Sy.POST, Nat.reduceDiv, Nat.reduceMod, Int.reduceLT, Int.reduceLE, Int.reduceToNat, Int.reduceAdd, decide_true, decide_false, ↓reduceIte, List.map_cons, List.map_nil, List.length_cons, List.length_nil, List.cons_append, List.nil_append, List.getElem?_cons_zero, List.getElem?_cons_succ, List.getElem?_nil, List.take_succ_cons, List.take_zero, List.drop_succ_cons, List.drop_zero, List.all_cons, List.all_nil, List.set_cons_zero, List.set_cons_succ, List.append_nil, Option.map_some, Option.map_none, cond_true, cond_false, Bool.true_eq_false, Bool.false_eq_true, Bool.not_true, Bool.not_false, Nat.reduceEqDiff, Nat.reduceAdd, Nat.reduceMul, Nat.reduceSub, Nat.reduceLeDiff, Nat.reduceLT, true_and, and_true, reduceCtorEq, Nat.zero_add, Nat.add_zero, Nat.zero_mul, Nat.le_refl, Int.toNat_natCast, Bool.and_self, Bool.true_and, Bool.and_true, if_true, eq_self, forall_const, and_self, implies_true]
    unfold pagedB at h
    split
    · rename_i h1
      simp only [decide_eq_true_eq] at h1
      simp only [h1, decide_true, Bool.true_and] at h
      exact h
    · rename_i h1
      simp only [decide_eq_true_eq] at h1
      simp only [h1, decide_false, Bool.false_and] at h
      exact h
  · exact h.elim
theorem wrap_id {x : Int} (h1 : -9223372036854775808 ≤ x) (h2 : x ≤ 9223372036854775807) : IntKind.i64.wrap x = x := by
  exact IntWalk.i64_in x ⟨h1, h2⟩
def dataF (s n : Int) : Int := if roomB s 0 = true ∧ pagedB n = true then s / n + 2 else 0
theorem dataF_bd (s n : Int) : 0 ≤ dataF s n ∧ dataF s n ≤ 66 := by
  unfold dataF
  split
  · rename_i h
    have hb := (roomB_iff s 0).1 h.1
    have hq := (pagedB_iff n).1 h.2
    have d0 : 0 ≤ s / n := Int.ediv_nonneg (by omega) (by omega)
    have d1 : s / n ≤ s := Int.ediv_le_self _ (by omega)
    omega
  · omega
def c154 : Trans := fun args m k => match args with
  | [.v (.int .i64 s), .v (.int .i64 n)] => k (.v (.int .i64 (dataF s n))) m
  | _ => False
theorem c154_ok : Contract Try.prog 154 true c154 := by
  refine .plainArgs fn154 (G := [⟨99, true, c99⟩, ⟨153, true, c153⟩]) (GOk.cons c99_ok (GOk.cons c153_ok g0)) _ fun args m k h => ?_
  unfold c154 at h
  split at h
  · rename_i s n
    refine ⟨rfl, by simp, ?_⟩
    simp (maxSteps := 2000000) -implicitDefEqProofs only [↓x154, ↓r154, ↓c99, ↓c153, ↓Sy.PRE, Sy.POST, Nat.reduceDiv, Nat.reduceMod, Int.reduceLT, Int.reduceLE, Int.reduceToNat, Int.reduceAdd, decide_true, decide_false, ↓reduceIte, List.map_cons, List.map_nil, List.length_cons, List.length_nil, List.cons_append, List.nil_append, List.getElem?_cons_zero, List.getElem?_cons_succ, List.getElem?_nil, List.take_succ_cons, List.take_zero, List.drop_succ_cons, List.drop_zero, List.all_cons, List.all_nil, List.set_cons_zero, List.set_cons_succ, List.append_nil, Option.map_some, Option.map_none, cond_true, cond_false, Bool.true_eq_false, Bool.false_eq_true, Bool.not_true, Bool.not_false, Nat.reduceEqDiff, Nat.reduceAdd, Nat.reduceMul, Nat.reduceSub, Nat.reduceLeDiff, Nat.reduceLT, true_and, and_true, reduceCtorEq, Nat.zero_add, Nat.add_zero, Nat.zero_mul, Nat.le_refl, Int.toNat_natCast, Bool.and_self, Bool.true_and, Bool.and_true, if_true, eq_self, forall_const, and_self, implies_true]
    by_cases h1 : roomB s 0 = true
    · have e1 : (roomE s 0 != 0) = false := by unfold roomE; rw [if_pos h1]; rfl
      by_cases h2 : pagedB n = true
      · obtain ⟨a1, a2, a3, a4⟩ := (roomB_iff s 0).1 h1
        obtain ⟨b1, b2⟩ := (pagedB_iff n).1 h2
        have d0 : 0 ≤ s / n := Int.ediv_nonneg (by omega) (by omega)
        have d1 : s / n ≤ s := Int.ediv_le_self _ (by omega)
        have e3 : s.tdiv n = s / n := Int.tdiv_eq_ediv_of_nonneg (by omega)
        have e4 : IntKind.i64.wrap (s / n) = s / n := wrap_id (by omega) (by omega)
        have e5 : IntKind.i64.wrap (s / n + 2) = s / n + 2 := wrap_id (by omega) (by omega)
        have e6 : dataF s n = s / n + 2 := if_pos ⟨h1, h2⟩
        have e7 : n ≠ 0 := by omega
        simp only [e1, h2, e3, e4, e5, e7, Bool.not_true, if_true, Bool.false_eq_true, if_false, ne_eq, not_false_eq_true, true_and]
        rw [e6] at h
        exact h
      · have h2' : pagedB n = false := by simpa using h2
        have e6 : dataF s n = 0 := if_neg (by simp [h2'])
        simp only [e1, h2', Bool.not_false, if_true]
        rw [e6] at h
        exact h
    · have e1 : (roomE s 0 != 0) = true := by unfold roomE; rw [if_neg h1]; rfl
      have e6 : dataF s n = 0 := if_neg (by simp [h1])
      simp only [e1, Bool.true_eq_false, if_false]
      rw [e6] at h
      exact h
  · exact h.elim
def totF (s p n : Int) : Int := if roomB s p = true ∧ pagedB n = true then dataF s n + p else 0
theorem totF_bd (s p n : Int) : 0 ≤ totF s p n ∧ totF s p n ≤ 74 := by
  unfold totF
  split
  · rename_i h
    have hb := (roomB_iff s p).1 h.1
    have := dataF_bd s n
    omega
  · omega
def c103 : Trans := fun args m k => match args with
  | [.v (.int .i64 s), .v (.int .i64 p), .v (.int .i64 n)] => k (.v (.int .i64 (totF s p n))) m
  | _ => False
theorem c103_ok : Contract Try.prog 103 true c103 := by
  refine .plainArgs fn103 (G := [⟨99, true, c99⟩, ⟨153, true, c153⟩, ⟨154, true, c154⟩]) (GOk.cons c99_ok (GOk.cons c153_ok (GOk.cons c154_ok g0))) _ fun args m k h => ?_
  unfold c103 at h
  split at h
  · rename_i s p n
    refine ⟨rfl, by simp, ?_⟩
    simp (maxSteps := 2000000) -implicitDefEqProofs only [↓x103, ↓r103, ↓c99, ↓c153, ↓c154, ↓Sy.PRE, Sy.POST, Nat.reduceDiv, Nat.reduceMod, Int.reduceLT, Int.reduceLE, Int.reduceToNat, Int.reduceAdd, decide_true, decide_false, ↓reduceIte, List.map_cons, List.map_nil, List.length_cons, List.length_nil, List.cons_append, List.nil_append, List.getElem?_cons_zero, List.getElem?_cons_succ, List.getElem?_nil, List.take_succ_cons, List.take_zero, List.drop_succ_cons, List.drop_zero, List.all_cons, List.all_nil, List.set_cons_zero, List.set_cons_succ, List.append_nil, Option.map_some, Option.map_none, cond_true, cond_false, Bool.true_eq_false, Bool.false_eq_true, Bool.not_true, Bool.not_false, Nat.reduceEqDiff, Nat.reduceAdd, Nat.reduceMul, Nat.reduceSub, Nat.reduceLeDiff, Nat.reduceLT, true_and, and_true, reduceCtorEq, Nat.zero_add, Nat.add_zero, Nat.zero_mul, Nat.le_refl, Int.toNat_natCast, Bool.and_self, Bool.true_and, Bool.and_true, if_true, eq_self, forall_const, and_self, implies_true]
    by_cases h1 : roomB s p = true
    · have e1 : (roomE s p != 0) = false := by unfold roomE; rw [if_pos h1]; rfl
      by_cases h2 : pagedB n = true
      · obtain ⟨a1, a2, a3, a4⟩ := (roomB_iff s p).1 h1
        have hb := dataF_bd s n
        have e5 : IntKind.i64.wrap (dataF s n + p) = dataF s n + p := wrap_id (by omega) (by omega)
        have e6 : totF s p n = dataF s n + p := if_pos ⟨h1, h2⟩
        simp only [e1, h2, e5, Bool.not_true, if_true, Bool.false_eq_true, if_false]
        rw [e6] at h
        exact h
      · have h2' : pagedB n = false := by simpa using h2
        have e6 : totF s p n = 0 := if_neg (by simp [h2'])
        simp only [e1, h2', Bool.not_false, if_true]
        rw [e6] at h
        exact h
    · have e1 : (roomE s p != 0) = true := by unfold roomE; rw [if_neg h1]; rfl
      have e6 : totF s p n = 0 := if_neg (by simp [h1])
      simp only [e1, Bool.true_eq_false, if_false]
      rw [e6] at h
      exact h
  · exact h.elim
def c107 : Trans := fun args m k => match args with
  | [.v (.int .i64 s), .v (.int .i64 p), .v (.int .i64 n)] => k (.v (.bool (roomB s p && pagedB n))) m
  | _ => False
theorem c107_ok : Contract Try.prog 107 true c107 := by
  refine .plainArgs fn107 g0 _ fun args m k h => ?_
  unfold c107 at h
  split at h
  · rename_i s p n
    refine ⟨rfl, by simp, ?_⟩
    simp (maxSteps := 2000000) -implicitDefEqProofs only [↓x107, ↓r107, ↓Sy.PRE, Sy.POST, Nat.reduceDiv, Nat.reduceMod, Int.reduceLT, Int.reduceLE, Int.reduceToNat, Int.reduceAdd, decide_true, decide_false, ↓reduceIte, List.map_cons, List.map_nil, List.length_cons, List.length_nil, List.cons_append, List.nil_append, List.getElem?_cons_zero, List.getElem?_cons_succ, List.getElem?_nil, List.take_succ_cons, List.take_zero, List.drop_succ_cons, List.drop_zero, List.all_cons, List.all_nil, List.set_cons_zero, List.set_cons_succ, List.append_nil, Option.map_some, Option.map_none, cond_true, cond_false, Bool.true_eq_false, Bool.false_eq_true, Bool.not_true, Bool.not_false, Nat.reduceEqDiff, Nat.reduceAdd, Nat.reduceMul, Nat.reduceSub, Nat.reduceLeDiff, Nat.reduceLT, true_and, and_true, reduceCtorEq, Nat.zero_add, Nat.add_zero, Nat.zero_mul, Nat.le_refl, Int.toNat_natCast, Bool.and_self, Bool.true_and, Bool.and_true, if_true, eq_self, forall_const, and_self, implies_true]
    have key : ∀ b : Bool, (roomB s p && pagedB n) = b → k (.v (.bool b)) m := fun b hb => by rw [← hb]; exact h
    repeat' split
    all_goals simp only [decide_eq_true_eq] at *
    all_goals apply key
    all_goals (simp [roomB, pagedB, *]; done)
  · exact h.elim
def c155 : Trans := fun args m k => match args with
  | [.v (.int .i64 s), .v (.int .i64 n)] => k (.v (.int .i64 (dataF s n))) m
  | _ => False
theorem c155_ok : Contract Try.prog 155 true c155 := by
  refine .plainArgs fn155 (G := [⟨107, true, c107⟩]) (GOk.cons c107_ok g0) _ fun args m k h => ?_
  unfold c155 at h
  split at h
  · rename_i s n
    refine ⟨rfl, by simp, ?_⟩
    simp (maxSteps := 2000000) -implicitDefEqProofs only [↓x155, ↓r155, ↓c107, ↓Sy.PRE, Sy.POST, Nat.reduceDiv, Nat.reduceMod, Int.reduceLT, Int.reduceLE, Int.reduceToNat, Int.reduceAdd, decide_true, decide_false, ↓reduceIte, List.map_cons, List.map_nil, List.length_cons, List.length_nil, List.cons_append, List.nil_append, List.getElem?_cons_zero, List.getElem?_cons_succ, List.getElem?_nil, List.take_succ_cons, List.take_zero, List.drop_succ_cons, List.drop_zero, List.all_cons, List.all_nil, List.set_cons_zero, List.set_cons_succ, List.append_nil, Option.map_some, Option.map_none, cond_true, cond_false, Bool.true_eq_false, Bool.false_eq_true, Bool.not_true, Bool.not_false, Nat.reduceEqDiff, Nat.reduceAdd, Nat.reduceMul, Nat.reduceSub, Nat.reduceLeDiff, Nat.reduceLT, true_and, and_true, reduceCtorEq, Nat.zero_add, Nat.add_zero, Nat.zero_mul, Nat.le_refl, Int.toNat_natCast, Bool.and_self, Bool.true_and, Bool.and_true, if_true, eq_self, forall_const, and_self, implies_true]
    by_cases h1 : (roomB s 0 && pagedB n) = true
    · have h1' := h1
      simp only [Bool.and_eq_true] at h1'
      obtain ⟨a1, a2, a3, a4⟩ := (roomB_iff s 0).1 h1'.1
      obtain ⟨b1, b2⟩ := (pagedB_iff n).1 h1'.2
      have d0 : 0 ≤ s / n := Int.ediv_nonneg (by omega) (by omega)
      have d1 : s / n ≤ s := Int.ediv_le_self _ (by omega)
      have e6 : dataF s n = s / n + 2 := if_pos ⟨h1'.1, h1'.2⟩
      simp only [h1, Bool.not_true, Bool.false_eq_true, if_false]
      rw [e6] at h
      refine TX_loop (GOk.cons c107_ok g0) (X := { x : Nat // (x : Int) ≤ s / n }) (fun x => [(0, .v (.int .i64 s)), (1, .v (.int .i64 n)), (5, .v (.int .i64 (x.1 : Int)))]) (fun _ => []) (fun x => (s / n).toNat - x.1) ⟨0, by omega⟩ ?_ ?_
      · exact ⟨[], by simp, trivial, by simp only [FitE, Le]; simp (maxSteps := 2000000) -implicitDefEqProofs only [↓Sy.PRE, Sy.POST, Nat.reduceDiv, Nat.reduceMod, Int.reduceLT, Int.reduceLE, Int.reduceToNat, Int.reduceAdd, decide_true, decide_false, ↓reduceIte, List.map_cons, List.map_nil, List.length_cons, List.length_nil, List.cons_append, List.nil_append, List.getElem?_cons_zero, List.getElem?_cons_succ, List.getElem?_nil, List.take_succ_cons, List.take_zero, List.drop_succ_cons, List.drop_zero, List.all_cons, List.all_nil, List.set_cons_zero, List.set_cons_succ, List.append_nil, Option.map_some, Option.map_none, cond_true, cond_false, Bool.true_eq_false, Bool.false_eq_true, Bool.not_true, Bool.not_false, Nat.reduceEqDiff, Nat.reduceAdd, Nat.reduceMul, Nat.reduceSub, Nat.reduceLeDiff, Nat.reduceLT, true_and, and_true, reduceCtorEq, Nat.zero_add, Nat.add_zero, Nat.zero_mul, Nat.le_refl, Int.toNat_natCast, Bool.and_self, Bool.true_and, Bool.and_true, if_true, eq_self, forall_const, and_self, implies_true]⟩
      · rintro ⟨x, hx⟩
        have m0 : 0 ≤ ((x : Int) + 1) * n := Int.mul_nonneg (by omega) (by omega)
        have m1 : ((x : Int) + 1) * n ≤ 65 * 16 := Int.mul_le_mul (by omega) (by omega) (by omega) (by omega)
        have w1 : IntKind.i64.wrap ((x : Int) + 1) = (x : Int) + 1 := wrap_id (by omega) (by omega)
        have w2 : IntKind.i64.wrap (((x : Int) + 1) * n) = ((x : Int) + 1) * n := wrap_id (by omega) (by omega)
        simp (maxSteps := 2000000) -implicitDefEqProofs only [w1, w2, ↓Sy.PRE, Sy.POST, Nat.reduceDiv, Nat.reduceMod, Int.reduceLT, Int.reduceLE, Int.reduceToNat, Int.reduceAdd, decide_true, decide_false, ↓reduceIte, List.map_cons, List.map_nil, List.length_cons, List.length_nil, List.cons_append, List.nil_append, List.getElem?_cons_zero, List.getElem?_cons_succ, List.getElem?_nil, List.take_succ_cons, List.take_zero, List.drop_succ_cons, List.drop_zero, List.all_cons, List.all_nil, List.set_cons_zero, List.set_cons_succ, List.append_nil, Option.map_some, Option.map_none, cond_true, cond_false, Bool.true_eq_false, Bool.false_eq_true, Bool.not_true, Bool.not_false, Nat.reduceEqDiff, Nat.reduceAdd, Nat.reduceMul, Nat.reduceSub, Nat.reduceLeDiff, Nat.reduceLT, true_and, and_true, reduceCtorEq, Nat.zero_add, Nat.add_zero, Nat.zero_mul, Nat.le_refl, Int.toNat_natCast, Bool.and_self, Bool.true_and, Bool.and_true, if_true, eq_self, forall_const, and_self, implies_true]
        split
        · rename_i hle
          simp only [decide_eq_true_eq] at hle
          have hlt : (x : Int) + 1 ≤ s / n := (Int.le_ediv_iff_mul_le (by omega)).2 hle
          exact ⟨⟨x + 1, by omega⟩, by simp only; omega, [], by simp, trivial, by simp only [FitE, Le]; simp (maxSteps := 2000000) -implicitDefEqProofs only [↓Sy.PRE, Sy.POST, Nat.reduceDiv, Nat.reduceMod, Int.reduceLT, Int.reduceLE, Int.reduceToNat, Int.reduceAdd, decide_true, decide_false, ↓reduceIte, List.map_cons, List.map_nil, List.length_cons, List.length_nil, List.cons_append, List.nil_append, List.getElem?_cons_zero, List.getElem?_cons_succ, List.getElem?_nil, List.take_succ_cons, List.take_zero, List.drop_succ_cons, List.drop_zero, List.all_cons, List.all_nil, List.set_cons_zero, List.set_cons_succ, List.append_nil, Option.map_some, Option.map_none, cond_true, cond_false, Bool.true_eq_false, Bool.false_eq_true, Bool.not_true, Bool.not_false, Nat.reduceEqDiff, Nat.reduceAdd, Nat.reduceMul, Nat.reduceSub, Nat.reduceLeDiff, Nat.reduceLT, true_and, and_true, reduceCtorEq, Nat.zero_add, Nat.add_zero, Nat.zero_mul, Nat.le_refl, Int.toNat_natCast, Bool.and_self, Bool.true_and, Bool.and_true, if_true, eq_self, forall_const, and_self, implies_true]; simp⟩
        · rename_i hle
          simp only [decide_eq_true_eq] at hle
          have hnot : ¬ (x : Int) + 1 ≤ s / n := fun h => hle ((Int.le_ediv_iff_mul_le (by omega)).1 h)
          have hx' : (x : Int) = s / n := by omega
          have w3 : IntKind.i64.wrap ((x : Int) + 2) = (x : Int) + 2 := wrap_id (by omega) (by omega)
          rw [w3, hx']
          exact h
    · have h1' : (roomB s 0 && pagedB n) = false := by simpa using h1
      have e6 : dataF s n = 0 := if_neg (by rw [← Bool.and_eq_true]; exact h1)
      simp only [h1', Bool.not_false, if_true]
      rw [e6] at h
      exact h
  · exact h.elim
def c105 : Trans := fun args m k => match args with
  | [.v (.int .i64 s), .v (.int .i64 p), .v (.int .i64 n)] => k (.v (.int .i64 (totF s p n))) m
  | _ => False
theorem c105_ok : Contract Try.prog 105 true c105 := by
  refine .plainArgs fn105 (G := [⟨107, true, c107⟩, ⟨155, true, c155⟩]) (GOk.cons c107_ok (GOk.cons c155_ok g0)) _ fun args m k h => ?_
  unfold c105 at h
  split at h
  · rename_i s p n
    refine ⟨rfl, by simp, ?_⟩
    simp (maxSteps := 2000000) -implicitDefEqProofs only [↓x105, ↓r105, ↓c107, ↓c155, ↓Sy.PRE, Sy.POST, Nat.reduceDiv, Nat.reduceMod, Int.reduceLT, Int.reduceLE, Int.reduceToNat, Int.reduceAdd, decide_true, decide_false, ↓reduceIte, List.map_cons, List.map_nil, List.length_cons, List.length_nil, List.cons_append, List.nil_append, List.getElem?_cons_zero, List.getElem?_cons_succ, List.getElem?_nil, List.take_succ_cons, List.take_zero, List.drop_succ_cons, List.drop_zero, List.all_cons, List.all_nil, List.set_cons_zero, List.set_cons_succ, List.append_nil, Option.map_some, Option.map_none, cond_true, cond_false, Bool.true_eq_false, Bool.false_eq_true, Bool.not_true, Bool.not_false, Nat.reduceEqDiff, Nat.reduceAdd, Nat.reduceMul, Nat.reduceSub, Nat.reduceLeDiff, Nat.reduceLT, true_and, and_true, reduceCtorEq, Nat.zero_add, Nat.add_zero, Nat.zero_mul, Nat.le_refl, Int.toNat_natCast, Bool.and_self, Bool.true_and, Bool.and_true, if_true, eq_self, forall_const, and_self, implies_true]
    by_cases h1 : (roomB s p && pagedB n) = true
    · have h1' := h1
      simp only [Bool.and_eq_true] at h1'
      obtain ⟨a1, a2, a3, a4⟩ := (roomB_iff s p).1 h1'.1
      have hb := dataF_bd s n
      have e5 : IntKind.i64.wrap (dataF s n + p) = dataF s n + p := wrap_id (by omega) (by omega)
      have e6 : totF s p n = dataF s n + p := if_pos h1'
      simp only [h1, e5, Bool.not_true, Bool.false_eq_true, if_false]
      rw [e6] at h
      exact h
    · have e6 : totF s p n = 0 := if_neg (by rw [← Bool.and_eq_true]; exact h1)
      simp only [h1, Bool.not_false, if_true]
      rw [e6] at h
      exact h
  · exact h.elim
/-! ### Who stays -/
structure Tn where
  there : Bool
  epoch : Int
  size : Int
  spare : Int
  A : Option Addr
  n : Nat
  c : Nat
structure Wi where
  size : Int
  spare : Int
def Tn.cs (t : Tn) : List Value := [.bool t.there, .int .i64 t.epoch, .int .i64 t.size, .int .i64 t.spare, .slice t.A t.n t.c]
def Wi.cs (x : Wi) : List Value := [.int .i64 x.size, .int .i64 x.spare]
def staysB (t : Tn) (x : Wi) : Bool := t.there && (x.size != 0) && (t.spare == x.spare)
def c104 : Trans := fun args m k => match args with
  | [.agg [.v (.int .i64 ws), .v (.int .i64 wp)], .agg [.v (.bool th), .v (.int .i64 ep), .v (.int .i64 sz), .v (.int .i64 sp), .v (.slice A n c)]] => k (.v (.bool (staysB ⟨th, ep, sz, sp, A, n, c⟩ ⟨ws, wp⟩))) m
  | _ => False
theorem c104_ok : Contract Try.prog 104 true c104 := by
  refine .plainArgs fn104 (G := [⟨98, true, c98⟩]) (GOk.cons c98_ok g0) _ fun args m k h => ?_
  unfold c104 at h
  split at h
  · rename_i ws wp th ep sz sp A n c
    refine ⟨rfl, by simp, ?_⟩
    simp (maxSteps := 2000000) -implicitDefEqProofs only [↓x104, ↓r104, ↓c98, ↓Sy.PRE, Sy.POST, Nat.reduceDiv, Nat.reduceMod, Int.reduceLT, Int.reduceLE, Int.reduceToNat, Int.reduceAdd, decide_true, decide_false, ↓reduceIte, List.map_cons, List.map_nil, List.length_cons, List.length_nil, List.cons_append, List.nil_append, List.getElem?_cons_zero, List.getElem?_cons_succ, List.getElem?_nil, List.take_succ_cons, List.take_zero, List.drop_succ_cons, List.drop_zero, List.all_cons, List.all_nil, List.set_cons_zero, List.set_cons_succ, List.append_nil, Option.map_some, Option.map_none, cond_true, cond_false, Bool.true_eq_false, Bool.false_eq_true, Bool.not_true, Bool.not_false, Nat.reduceEqDiff, Nat.reduceAdd, Nat.reduceMul, Nat.reduceSub, Nat.reduceLeDiff, Nat.reduceLT, true_and, and_true, reduceCtorEq, Nat.zero_add, Nat.add_zero, Nat.zero_mul, Nat.le_refl, Int.toNat_natCast, Bool.and_self, Bool.true_and, Bool.and_true, if_true, eq_self, forall_const, and_self, implies_true]
    unfold staysB at h
    cases th
    · simpa using h
    · by_cases h0 : ws = 0
      · subst h0; simpa using h
      · have : (ws != 0) = true := by simpa using h0
        simp only [this, Bool.true_and, if_true] at h ⊢
        exact h
  · exact h.elim
def c106 : Trans := fun args m k => match args with
  | [.agg [.v (.bool th), .v (.int .i64 ep), .v (.int .i64 sz), .v (.int .i64 sp), .v (.slice A n c)], .agg [.v (.int .i64 ws), .v (.int .i64 wp)]] => k (.v (.bool (staysB ⟨th, ep, sz, sp, A, n, c⟩ ⟨ws, wp⟩))) m
  | _ => False
theorem c106_ok : Contract Try.prog 106 true c106 := by
  refine .plainArgs fn106 g0 _ fun args m k h => ?_
  unfold c106 at h
  split at h
  · rename_i th ep sz sp A n c ws wp
    refine ⟨rfl, by simp, ?_⟩
    simp (maxSteps := 2000000) -implicitDefEqProofs only [↓x106, ↓r106, ↓Sy.PRE, Sy.POST, Nat.reduceDiv, Nat.reduceMod, Int.reduceLT, Int.reduceLE, Int.reduceToNat, Int.reduceAdd, decide_true, decide_false, ↓reduceIte, List.map_cons, List.map_nil, List.length_cons, List.length_nil, List.cons_append, List.nil_append, List.getElem?_cons_zero, List.getElem?_cons_succ, List.getElem?_nil, List.take_succ_cons, List.take_zero, List.drop_succ_cons, List.drop_zero, List.all_cons, List.all_nil, List.set_cons_zero, List.set_cons_succ, List.append_nil, Option.map_some, Option.map_none, cond_true, cond_false, Bool.true_eq_false, Bool.false_eq_true, Bool.not_true, Bool.not_false, Nat.reduceEqDiff, Nat.reduceAdd, Nat.reduceMul, Nat.reduceSub, Nat.reduceLeDiff, Nat.reduceLT, true_and, and_true, reduceCtorEq, Nat.zero_add, Nat.add_zero, Nat.zero_mul, Nat.le_refl, Int.toNat_natCast, Bool.and_self, Bool.true_and, Bool.and_true, if_true, eq_self, forall_const, and_self, implies_true]
    unfold staysB at h
    cases th
    · simpa using h
    · by_cases h0 : ws = 0
      · subst h0; simpa using h
      · have : (ws != 0) = true := by simpa using h0
        simp only [this, Bool.true_and, if_true] at h ⊢
        exact h
  · exact h.elim
end Go.Proofs.Ytppndeoiifkkkaa
