/- Walks and plain facts for the law QuotaFullest, part MQFD. No condition. -/
import Derived.Test.YtcejgadbpahbmaaMQFC
import Derived.Test.YtcejgadbpahbmaaProg
import Derived.IntWalk
import Derived.Test.YtcejgadbpahbmaaMQFA
import Derived.Sort.Grow
import Derived.Shelf.SlSortCmp.WholeK
import Derived.Shelf.Small.Wraps
import Derived.Shelf.SlSortCmp.NoneTotal
import Derived.RowKit
import Derived.Shelf.Sort.Plain
import Derived.Shelf.Slices.In.SortNone
set_option linter.unusedVariables false
set_option linter.unusedSimpArgs false
section
namespace Go.Proofs.Ytcejgadbpahbmaa
open Go.RowKit Sz
set_option maxHeartbeats 8000000
set_option maxRecDepth 20000
namespace Qu
-- almshouse/rule.Check (2 parameters)
def x113 : XC := (.seq (.tree (.seq ⟨some 4, none, (.ofA (.mv (.cst (.v (.int .i64 0)))))⟩
 .done))
 (.seq (.seq (.tree (.seq ⟨some 5, none, (.ofA (.mv (.tmp 0)))⟩
 (.seq ⟨some 6, none, (.ofA (.bin .lss (.tmp 5) (.cst (.v (.int .i64 1)))))⟩
 (.seq ⟨some 7, none, (.ofA (.mv (.tmp 6)))⟩
 (.seq ⟨some 8, some (7, false), (.ofA (.mv (.tmp 0)))⟩
 (.seq ⟨some 9, some (7, false), (.ofA (.bin .gtr (.tmp 8) (.cst (.v (.int .i64 64)))))⟩
 (.seq ⟨some 10, none, (.ofA (.pick (.tmp 7) (.cst (.v (.bool true))) (.tmp 9)))⟩
 (.seq ⟨some 11, none, (.ofA (.mv (.tmp 10)))⟩
 (.seq ⟨some 12, some (11, false), (.ofA (.mv (.tmp 1)))⟩
 (.seq ⟨some 13, some (11, false), (.ofA (.bin .lss (.tmp 12) (.cst (.v (.int .i64 0)))))⟩
 (.seq ⟨some 14, none, (.ofA (.pick (.tmp 11) (.cst (.v (.bool true))) (.tmp 13)))⟩
 (.seq ⟨some 15, none, (.ofA (.mv (.tmp 14)))⟩
 (.seq ⟨some 16, some (15, false), (.ofA (.mv (.tmp 1)))⟩
 (.seq ⟨some 17, some (15, false), (.ofA (.bin .gtr (.tmp 16) (.cst (.v (.int .i64 8)))))⟩
 (.seq ⟨some 18, none, (.ofA (.pick (.tmp 15) (.cst (.v (.bool true))) (.tmp 17)))⟩
 .done)))))))))))))))
 (.cond (.tmp 18)
 (.seq (.tree (.seq ⟨some 4, none, (.ofA (.mv (.cst (.v (.int .i64 5)))))⟩
 .done))
 .ret)
 .skip))
 (.seq (.tree (.seq ⟨some 4, none, (.ofA (.mv (.cst (.v (.int .i64 0)))))⟩
 .done))
 .ret)))
def r113 : List XR := [.tmp 4]
theorem fn113 : FnX Try.prog 113 [82, 68, 97, 118] 19 x113 r113 := ⟨_, Try.func113, by kernel_rfl, by kernel_rfl, by kernel_rfl, by kernel_rfl⟩
-- almshouse/rule.paged (1 parameters)
def x114 : XC := (.seq (.tree (.seq ⟨some 2, none, (.ofA (.mv (.cst (.v (.bool false)))))⟩
 .done))
 (.seq (.tree (.seq ⟨some 3, none, (.ofA (.mv (.tmp 0)))⟩
 (.seq ⟨some 4, none, (.ofA (.bin .geq (.tmp 3) (.cst (.v (.int .i64 2)))))⟩
 (.seq ⟨some 5, none, (.ofA (.mv (.tmp 4)))⟩
 (.seq ⟨some 6, some (5, true), (.ofA (.mv (.tmp 0)))⟩
 (.seq ⟨some 7, some (5, true), (.ofA (.bin .leq (.tmp 6) (.cst (.v (.int .i64 16)))))⟩
 (.seq ⟨some 8, none, (.ofA (.pick (.tmp 5) (.tmp 7) (.cst (.v (.bool false)))))⟩
 (.seq ⟨some 2, none, (.ofA (.mv (.tmp 8)))⟩
 .done))))))))
 .ret))
def r114 : List XR := [.tmp 2]
theorem fn114 : FnX Try.prog 114 [82, 68, 97, 118] 9 x114 r114 := ⟨_, Try.func114, by kernel_rfl, by kernel_rfl, by kernel_rfl, by kernel_rfl⟩
-- almshouse/rule.Data (2 parameters)
def x115 : XC := (.seq (.tree (.seq ⟨some 4, none, (.ofA (.mv (.cst (.v (.int .i64 0)))))⟩
 .done))
 (.seq (.seq (.tree (.seq ⟨some 5, none, (.ofA (.mv (.tmp 0)))⟩
 (.seq ⟨some 6, none, (.call (.cst (.fn 113 [])) [(.tmp 5), (.cst (.v (.int .i64 0)))])⟩
 (.seq ⟨some 7, none, (.ofA (.bin .neq (.tmp 6) (.cst (.v (.int .i64 0)))))⟩
 (.seq ⟨some 8, none, (.ofA (.mv (.tmp 7)))⟩
 (.seq ⟨some 9, some (8, false), (.ofA (.mv (.tmp 1)))⟩
 (.seq ⟨some 10, some (8, false), (.call (.cst (.fn 114 [])) [(.tmp 9)])⟩
 (.seq ⟨some 11, some (8, false), (.ofA (.un .not (.tmp 10)))⟩
 (.seq ⟨some 12, none, (.ofA (.pick (.tmp 8) (.cst (.v (.bool true))) (.tmp 11)))⟩
 .done)))))))))
 (.cond (.tmp 12)
 (.seq (.tree (.seq ⟨some 4, none, (.ofA (.mv (.cst (.v (.int .i64 0)))))⟩
 .done))
 .ret)
 .skip))
 (.seq (.tree (.seq ⟨some 13, none, (.ofA (.mv (.tmp 0)))⟩
 (.seq ⟨some 14, none, (.ofA (.mv (.tmp 1)))⟩
 (.seq ⟨some 15, none, (.ofA (.bin .quo (.tmp 13) (.tmp 14)))⟩
 (.seq ⟨some 16, none, (.ofA (.bin .add (.tmp 15) (.cst (.v (.int .i64 2)))))⟩
 (.seq ⟨some 4, none, (.ofA (.mv (.tmp 16)))⟩
 .done))))))
 .ret)))
def r115 : List XR := [.tmp 4]
theorem fn115 : FnX Try.prog 115 [82, 68, 97, 118] 17 x115 r115 := ⟨_, Try.func115, by kernel_rfl, by kernel_rfl, by kernel_rfl, by kernel_rfl⟩
-- almshouse/rule.Total (3 parameters)
def x94 : XC := (.seq (.tree (.seq ⟨some 6, none, (.ofA (.mv (.cst (.v (.int .i64 0)))))⟩
 .done))
 (.seq (.seq (.tree (.seq ⟨some 7, none, (.ofA (.mv (.tmp 0)))⟩
 (.seq ⟨some 8, none, (.ofA (.mv (.tmp 1)))⟩
 (.seq ⟨some 9, none, (.call (.cst (.fn 113 [])) [(.tmp 7), (.tmp 8)])⟩
 (.seq ⟨some 10, none, (.ofA (.bin .neq (.tmp 9) (.cst (.v (.int .i64 0)))))⟩
 (.seq ⟨some 11, none, (.ofA (.mv (.tmp 10)))⟩
 (.seq ⟨some 12, some (11, false), (.ofA (.mv (.tmp 2)))⟩
 (.seq ⟨some 13, some (11, false), (.call (.cst (.fn 114 [])) [(.tmp 12)])⟩
 (.seq ⟨some 14, some (11, false), (.ofA (.un .not (.tmp 13)))⟩
 (.seq ⟨some 15, none, (.ofA (.pick (.tmp 11) (.cst (.v (.bool true))) (.tmp 14)))⟩
 .done))))))))))
 (.cond (.tmp 15)
 (.seq (.tree (.seq ⟨some 6, none, (.ofA (.mv (.cst (.v (.int .i64 0)))))⟩
 .done))
 .ret)
 .skip))
 (.seq (.tree (.seq ⟨some 16, none, (.ofA (.mv (.tmp 0)))⟩
 (.seq ⟨some 17, none, (.ofA (.mv (.tmp 2)))⟩
 (.seq ⟨some 18, none, (.call (.cst (.fn 115 [])) [(.tmp 16), (.tmp 17)])⟩
 (.seq ⟨some 19, none, (.ofA (.mv (.tmp 1)))⟩
 (.seq ⟨some 20, none, (.ofA (.bin .add (.tmp 18) (.tmp 19)))⟩
 (.seq ⟨some 6, none, (.ofA (.mv (.tmp 20)))⟩
 .done)))))))
 .ret)))
def r94 : List XR := [.tmp 6]
theorem fn94 : FnX Try.prog 94 [82, 68, 97, 118] 21 x94 r94 := ⟨_, Try.func94, by kernel_rfl, by kernel_rfl, by kernel_rfl, by kernel_rfl⟩
-- almshouse/almshouseref09.Right (3 parameters)
def x120 : XC := (.seq (.tree (.seq ⟨some 6, none, (.ofA (.mv (.cst (.v (.bool false)))))⟩
 .done))
 (.seq (.tree (.seq ⟨some 7, none, (.ofA (.mv (.tmp 0)))⟩
 (.seq ⟨some 8, none, (.ofA (.bin .geq (.tmp 7) (.cst (.v (.int .i64 1)))))⟩
 (.seq ⟨some 9, none, (.ofA (.mv (.tmp 8)))⟩
 (.seq ⟨some 10, some (9, true), (.ofA (.mv (.tmp 0)))⟩
 (.seq ⟨some 11, some (9, true), (.ofA (.bin .leq (.tmp 10) (.cst (.v (.int .i64 64)))))⟩
 (.seq ⟨some 12, none, (.ofA (.pick (.tmp 9) (.tmp 11) (.cst (.v (.bool false)))))⟩
 (.seq ⟨some 13, none, (.ofA (.mv (.tmp 12)))⟩
 (.seq ⟨some 14, some (13, true), (.ofA (.mv (.tmp 1)))⟩
 (.seq ⟨some 15, some (13, true), (.ofA (.bin .geq (.tmp 14) (.cst (.v (.int .i64 0)))))⟩
 (.seq ⟨some 16, none, (.ofA (.pick (.tmp 13) (.tmp 15) (.cst (.v (.bool false)))))⟩
 (.seq ⟨some 17, none, (.ofA (.mv (.tmp 16)))⟩
 (.seq ⟨some 18, some (17, true), (.ofA (.mv (.tmp 1)))⟩
 (.seq ⟨some 19, some (17, true), (.ofA (.bin .leq (.tmp 18) (.cst (.v (.int .i64 8)))))⟩
 (.seq ⟨some 20, none, (.ofA (.pick (.tmp 17) (.tmp 19) (.cst (.v (.bool false)))))⟩
 (.seq ⟨some 21, none, (.ofA (.mv (.tmp 20)))⟩
 (.seq ⟨some 22, some (21, true), (.ofA (.mv (.tmp 2)))⟩
 (.seq ⟨some 23, some (21, true), (.ofA (.bin .geq (.tmp 22) (.cst (.v (.int .i64 2)))))⟩
 (.seq ⟨some 24, none, (.ofA (.pick (.tmp 21) (.tmp 23) (.cst (.v (.bool false)))))⟩
 (.seq ⟨some 25, none, (.ofA (.mv (.tmp 24)))⟩
 (.seq ⟨some 26, some (25, true), (.ofA (.mv (.tmp 2)))⟩
 (.seq ⟨some 27, some (25, true), (.ofA (.bin .leq (.tmp 26) (.cst (.v (.int .i64 16)))))⟩
 (.seq ⟨some 28, none, (.ofA (.pick (.tmp 25) (.tmp 27) (.cst (.v (.bool false)))))⟩
 (.seq ⟨some 6, none, (.ofA (.mv (.tmp 28)))⟩
 .done))))))))))))))))))))))))
 .ret))
def r120 : List XR := [.tmp 6]
theorem fn120 : FnX Try.prog 120 [82, 68, 97, 118] 29 x120 r120 := ⟨_, Try.func120, by kernel_rfl, by kernel_rfl, by kernel_rfl, by kernel_rfl⟩
-- almshouse/almshouseref09.Data (2 parameters)
def x121 : XC := (.seq (.tree (.seq ⟨some 4, none, (.ofA (.mv (.cst (.v (.int .i64 0)))))⟩
 .done))
 (.seq (.seq (.tree (.seq ⟨some 6, none, (.ofA (.mv (.tmp 0)))⟩
 (.seq ⟨some 7, none, (.ofA (.mv (.tmp 1)))⟩
 (.seq ⟨some 8, none, (.call (.cst (.fn 120 [])) [(.tmp 6), (.cst (.v (.int .i64 0))), (.tmp 7)])⟩
 (.seq ⟨some 9, none, (.ofA (.un .not (.tmp 8)))⟩
 .done)))))
 (.cond (.tmp 9)
 (.seq (.tree (.seq ⟨some 4, none, (.ofA (.mv (.cst (.v (.int .i64 0)))))⟩
 .done))
 .ret)
 .skip))
 (.seq (.tree (.seq ⟨some 5, none, (.ofA (.mv (.cst (.v (.int .i64 0)))))⟩
 .done))
 (.seq (.block 0 (.loop (.seq (.seq (.tree (.seq ⟨some 10, none, (.ofA (.mv (.tmp 5)))⟩
 (.seq ⟨some 11, none, (.ofA (.bin .add (.tmp 10) (.cst (.v (.int .i64 1)))))⟩
 (.seq ⟨some 12, none, (.ofA (.mv (.tmp 1)))⟩
 (.seq ⟨some 13, none, (.ofA (.bin .mul (.tmp 11) (.tmp 12)))⟩
 (.seq ⟨some 14, none, (.ofA (.mv (.tmp 0)))⟩
 (.seq ⟨some 15, none, (.ofA (.bin .leq (.tmp 13) (.tmp 14)))⟩
 .done)))))))
 (.cond (.tmp 15)
 .skip
 (.exit 0)))
 (.block 1 (.tree (.seq ⟨some 16, none, (.ofA (.mv (.tmp 5)))⟩
 (.seq ⟨some 17, none, (.ofA (.bin .add (.tmp 16) (.cst (.v (.int .i64 1)))))⟩
 (.seq ⟨some 5, none, (.ofA (.mv (.tmp 17)))⟩
 .done))))))))
 (.seq (.tree (.seq ⟨some 18, none, (.ofA (.mv (.tmp 5)))⟩
 (.seq ⟨some 19, none, (.ofA (.bin .add (.tmp 18) (.cst (.v (.int .i64 2)))))⟩
 (.seq ⟨some 4, none, (.ofA (.mv (.tmp 19)))⟩
 .done))))
 .ret)))))
def r121 : List XR := [.tmp 4]
theorem fn121 : FnX Try.prog 121 [82, 68, 97, 118] 20 x121 r121 := ⟨_, Try.func121, by kernel_rfl, by kernel_rfl, by kernel_rfl, by kernel_rfl⟩
-- almshouse/almshouseref09.Total (3 parameters)
def x98 : XC := (.seq (.tree (.seq ⟨some 6, none, (.ofA (.mv (.cst (.v (.int .i64 0)))))⟩
 .done))
 (.seq (.seq (.tree (.seq ⟨some 7, none, (.ofA (.mv (.tmp 0)))⟩
 (.seq ⟨some 8, none, (.ofA (.mv (.tmp 1)))⟩
 (.seq ⟨some 9, none, (.ofA (.mv (.tmp 2)))⟩
 (.seq ⟨some 10, none, (.call (.cst (.fn 120 [])) [(.tmp 7), (.tmp 8), (.tmp 9)])⟩
 (.seq ⟨some 11, none, (.ofA (.un .not (.tmp 10)))⟩
 .done))))))
 (.cond (.tmp 11)
 (.seq (.tree (.seq ⟨some 6, none, (.ofA (.mv (.cst (.v (.int .i64 0)))))⟩
 .done))
 .ret)
 .skip))
 (.seq (.tree (.seq ⟨some 12, none, (.ofA (.mv (.tmp 0)))⟩
 (.seq ⟨some 13, none, (.ofA (.mv (.tmp 2)))⟩
 (.seq ⟨some 14, none, (.call (.cst (.fn 121 [])) [(.tmp 12), (.tmp 13)])⟩
 (.seq ⟨some 15, none, (.ofA (.mv (.tmp 1)))⟩
 (.seq ⟨some 16, none, (.ofA (.bin .add (.tmp 14) (.tmp 15)))⟩
 (.seq ⟨some 6, none, (.ofA (.mv (.tmp 16)))⟩
 .done)))))))
 .ret)))
def r98 : List XR := [.tmp 6]
theorem fn98 : FnX Try.prog 98 [82, 68, 97, 118] 17 x98 r98 := ⟨_, Try.func98, by kernel_rfl, by kernel_rfl, by kernel_rfl, by kernel_rfl⟩
-- almshouse/quota.Cost (2 parameters)
def x62 : XC := (.seq (.tree (.seq ⟨some 2, none, (.box (.tmp 0))⟩
 (.seq ⟨some 4, none, (.ofA (.mv (.cst (.v (.int .i64 0)))))⟩
 .done)))
 (.seq (.tree (.seq ⟨some 5, none, (.ofA (.faddr 0 (.tmp 2)))⟩
 (.seq ⟨some 6, none, (.ofA (.load none (.tmp 5)))⟩
 (.seq ⟨some 7, none, (.ofA (.faddr 1 (.tmp 2)))⟩
 (.seq ⟨some 8, none, (.ofA (.load none (.tmp 7)))⟩
 (.seq ⟨some 9, none, (.ofA (.mv (.tmp 1)))⟩
 (.seq ⟨some 10, none, (.call (.cst (.fn 94 [])) [(.tmp 6), (.tmp 8), (.tmp 9)])⟩
 (.seq ⟨some 4, none, (.ofA (.mv (.tmp 10)))⟩
 .done))))))))
 .ret))
def r62 : List XR := [.tmp 4]
theorem fn62 : FnX Try.prog 62 [82, 68, 97, 118] 11 x62 r62 := ⟨_, Try.func62, by kernel_rfl, by kernel_rfl, by kernel_rfl, by kernel_rfl⟩
-- almshouse/almshouseref41.Cost (2 parameters)
def x70 : XC := (.seq (.tree (.seq ⟨some 2, none, (.box (.tmp 0))⟩
 (.seq ⟨some 4, none, (.ofA (.mv (.cst (.v (.int .i64 0)))))⟩
 .done)))
 (.seq (.tree (.seq ⟨some 5, none, (.ofA (.faddr 0 (.tmp 2)))⟩
 (.seq ⟨some 6, none, (.ofA (.load none (.tmp 5)))⟩
 (.seq ⟨some 7, none, (.ofA (.faddr 1 (.tmp 2)))⟩
 (.seq ⟨some 8, none, (.ofA (.load none (.tmp 7)))⟩
 (.seq ⟨some 9, none, (.ofA (.mv (.tmp 1)))⟩
 (.seq ⟨some 10, none, (.call (.cst (.fn 98 [])) [(.tmp 6), (.tmp 8), (.tmp 9)])⟩
 (.seq ⟨some 4, none, (.ofA (.mv (.tmp 10)))⟩
 .done))))))))
 .ret))
def r70 : List XR := [.tmp 4]
theorem fn70 : FnX Try.prog 70 [82, 68, 97, 118] 11 x70 r70 := ⟨_, Try.func70, by kernel_rfl, by kernel_rfl, by kernel_rfl, by kernel_rfl⟩
def roomB (s p : Int) : Bool := decide (1 ≤ s) && decide (s ≤ 64) && decide (0 ≤ p) && decide (p ≤ 8)
theorem roomB_iff (s p : Int) : roomB s p = true ↔ 1 ≤ s ∧ s ≤ 64 ∧ 0 ≤ p ∧ p ≤ 8 := by simp [roomB, and_assoc]
def roomE (s p : Int) : Int := if roomB s p then 0 else 5
def c113 [Inp] : Trans := fun args m k => match args with
  | [.v (.int .i64 s), .v (.int .i64 p)] => k (.v (.int .i64 (roomE s p))) m
  | _ => False
theorem c113_ok [Inp] : Contract Try.prog 113 true c113 := by
  refine .plainArgs fn113 (g0 _) _ fun args m k h => ?_
  unfold c113 at h
  split at h
  · rename_i s p
    refine ⟨rfl, by simp, ?_⟩
    simp (maxSteps := 2000000) -implicitDefEqProofs only [↓x113, ↓r113, s_alt, s_alt20, s_alt2t, s_alt2f, ↓s_loopi, ↓v_pq, ↓PRE, POST, CORE, Nat.reduceDiv, Nat.reduceMod, Int.reduceLT, Int.reduceLE, Int.reduceToNat, Int.reduceAdd, ↓reduceIte, Nat.reduceEqDiff, Nat.reduceAdd, Nat.reduceMul, Nat.reduceSub, Nat.reduceLeDiff, Nat.reduceLT, reduceCtorEq, if_true, eq_self, forall_const, implies_true]
    have e5 : ¬ (1 ≤ s ∧ s ≤ 64 ∧ 0 ≤ p ∧ p ≤ 8) → roomE s p = 5 := fun hn => by unfold roomE; rw [if_neg (by rw [roomB_iff]; exact hn)]
    have e0 : (1 ≤ s ∧ s ≤ 64 ∧ 0 ≤ p ∧ p ≤ 8) → roomE s p = 0 := fun hn => by unfold roomE; rw [if_pos (by rw [roomB_iff]; exact hn)]
    repeat' split
    all_goals simp only [decide_eq_true_eq, decide_eq_false_iff_not] at *
    all_goals first | (rw [e5 (by omega)] at h; exact h) | (rw [e0 (by omega)] at h; exact h)
  · exact h.elim
def pagedB (n : Int) : Bool := decide (2 ≤ n) && decide (n ≤ 16)
theorem pagedB_iff (n : Int) : pagedB n = true ↔ 2 ≤ n ∧ n ≤ 16 := by simp [pagedB]
def c114 [Inp] : Trans := fun args m k => match args with
  | [.v (.int .i64 n)] => k (.v (.bool (pagedB n))) m
  | _ => False
theorem c114_ok [Inp] : Contract Try.prog 114 true c114 := by
  refine .plainArgs fn114 (g0 _) _ fun args m k h => ?_
  unfold c114 at h
  split at h
  · rename_i n
    refine ⟨rfl, by simp, ?_⟩
    simp (maxSteps := 2000000) -implicitDefEqProofs only [↓x114, ↓r114, s_alt, s_alt20, s_alt2t, s_alt2f, ↓s_loopi, ↓v_pq, ↓PRE, POST, CORE, Nat.reduceDiv, Nat.reduceMod, Int.reduceLT, Int.reduceLE, Int.reduceToNat, Int.reduceAdd, ↓reduceIte, Nat.reduceEqDiff, Nat.reduceAdd, Nat.reduceMul, Nat.reduceSub, Nat.reduceLeDiff, Nat.reduceLT, reduceCtorEq, if_true, eq_self, forall_const, implies_true]
    unfold pagedB at h
    split
    · rename_i h1
      simp only [decide_eq_true_eq] at h1
      simp only [h1, decide_true, Bool.true_and] at h
      exact h
    · rename_i h1
      simp only [decide_eq_true_eq] at h1
      simp only [h1, decide_false, Bool.false_and] at h
      exact h
  · exact h.elim
theorem wrap_id {x : Int} (h1 : -9223372036854775808 ≤ x) (h2 : x ≤ 9223372036854775807) : IntKind.i64.wrap x = x := by
  exact IntWalk.i64_in x ⟨h1, h2⟩
def dataF (s n : Int) : Int := if roomB s 0 = true ∧ pagedB n = true then s / n + 2 else 0
theorem dataF_bd (s n : Int) : 0 ≤ dataF s n ∧ dataF s n ≤ 66 := by
  unfold dataF
  split
  · rename_i h
    have hb := (roomB_iff s 0).1 h.1
    have hq := (pagedB_iff n).1 h.2
    have d0 : 0 ≤ s / n := Int.ediv_nonneg (by omega) (by omega)
    have d1 : s / n ≤ s := Int.ediv_le_self _ (by omega)
    omega
  · omega
def c115 [Inp] : Trans := fun args m k => match args with
  | [.v (.int .i64 s), .v (.int .i64 n)] => k (.v (.int .i64 (dataF s n))) m
  | _ => False
theorem c115_ok [Inp] : Contract Try.prog 115 true c115 := by
  refine .plainArgs fn115 (G := [⟨113, true, c113⟩, ⟨114, true, c114⟩]) (GOk.cons c113_ok (GOk.cons c114_ok (g0 _))) _ fun args m k h => ?_
  unfold c115 at h
  split at h
  · rename_i s n
    refine ⟨rfl, by simp, ?_⟩
    simp (maxSteps := 2000000) -implicitDefEqProofs only [↓x115, ↓r115, ↓c113, ↓c114, s_alt, s_alt20, s_alt2t, s_alt2f, ↓s_loopi, ↓v_pq, ↓PRE, POST, CORE, Nat.reduceDiv, Nat.reduceMod, Int.reduceLT, Int.reduceLE, Int.reduceToNat, Int.reduceAdd, ↓reduceIte, Nat.reduceEqDiff, Nat.reduceAdd, Nat.reduceMul, Nat.reduceSub, Nat.reduceLeDiff, Nat.reduceLT, reduceCtorEq, if_true, eq_self, forall_const, implies_true]
    by_cases h1 : roomB s 0 = true
    · have e1 : (roomE s 0 != 0) = false := by unfold roomE; rw [if_pos h1]; rfl
      by_cases h2 : pagedB n = true
      · obtain ⟨a1, a2, a3, a4⟩ := (roomB_iff s 0).1 h1
        obtain ⟨b1, b2⟩ := (pagedB_iff n).1 h2
        have d0 : 0 ≤ s / n := Int.ediv_nonneg (by omega) (by omega)
        have d1 : s / n ≤ s := Int.ediv_le_self _ (by omega)
        have e3 : s.tdiv n = s / n := Int.tdiv_eq_ediv_of_nonneg (by omega)
        have e4 : IntKind.i64.wrap (s / n) = s / n := wrap_id (by omega) (by omega)
        have e5 : IntKind.i64.wrap (s / n + 2) = s / n + 2 := wrap_id (by omega) (by omega)
        have e6 : dataF s n = s / n + 2 := if_pos ⟨h1, h2⟩
        have e7 : n ≠ 0 := by omega
        simp only [e1, h2, e3, e4, e5, e7, Bool.not_true, if_true, Bool.false_eq_true, if_false, ne_eq, not_false_eq_true, true_and]
        rw [e6] at h
        exact h
      · have h2' : pagedB n = false := by simpa using h2
        have e6 : dataF s n = 0 := if_neg (by simp [h2'])
        simp only [e1, h2', Bool.not_false, if_true]
        rw [e6] at h
        exact h
    · have e1 : (roomE s 0 != 0) = true := by unfold roomE; rw [if_neg h1]; rfl
      have e6 : dataF s n = 0 := if_neg (by simp [h1])
      simp only [e1, Bool.true_eq_false, if_false]
      rw [e6] at h
      exact h
  · exact h.elim
def totF (s p n : Int) : Int := if roomB s p = true ∧ pagedB n = true then dataF s n + p else 0
theorem totF_bd (s p n : Int) : 0 ≤ totF s p n ∧ totF s p n ≤ 74 := by
  unfold totF
  split
  · rename_i h
    have hb := (roomB_iff s p).1 h.1
    have := dataF_bd s n
    omega
  · omega
def c94 [Inp] : Trans := fun args m k => match args with
  | [.v (.int .i64 s), .v (.int .i64 p), .v (.int .i64 n)] => k (.v (.int .i64 (totF s p n))) m
  | _ => False
theorem c94_ok [Inp] : Contract Try.prog 94 true c94 := by
  refine .plainArgs fn94 (G := [⟨113, true, c113⟩, ⟨114, true, c114⟩, ⟨115, true, c115⟩]) (GOk.cons c113_ok (GOk.cons c114_ok (GOk.cons c115_ok (g0 _)))) _ fun args m k h => ?_
  unfold c94 at h
  split at h
  · rename_i s p n
    refine ⟨rfl, by simp, ?_⟩
    simp (maxSteps := 2000000) -implicitDefEqProofs only [↓x94, ↓r94, ↓c113, ↓c114, ↓c115, s_alt, s_alt20, s_alt2t, s_alt2f, ↓s_loopi, ↓v_pq, ↓PRE, POST, CORE, Nat.reduceDiv, Nat.reduceMod, Int.reduceLT, Int.reduceLE, Int.reduceToNat, Int.reduceAdd, ↓reduceIte, Nat.reduceEqDiff, Nat.reduceAdd, Nat.reduceMul, Nat.reduceSub, Nat.reduceLeDiff, Nat.reduceLT, reduceCtorEq, if_true, eq_self, forall_const, implies_true]
    by_cases h1 : roomB s p = true
    · have e1 : (roomE s p != 0) = false := by unfold roomE; rw [if_pos h1]; rfl
      by_cases h2 : pagedB n = true
      · obtain ⟨a1, a2, a3, a4⟩ := (roomB_iff s p).1 h1
        have hb := dataF_bd s n
        have e5 : IntKind.i64.wrap (dataF s n + p) = dataF s n + p := wrap_id (by omega) (by omega)
        have e6 : totF s p n = dataF s n + p := if_pos ⟨h1, h2⟩
        simp only [e1, h2, e5, Bool.not_true, if_true, Bool.false_eq_true, if_false]
        rw [e6] at h
        exact h
      · have h2' : pagedB n = false := by simpa using h2
        have e6 : totF s p n = 0 := if_neg (by simp [h2'])
        simp only [e1, h2', Bool.not_false, if_true]
        rw [e6] at h
        exact h
    · have e1 : (roomE s p != 0) = true := by unfold roomE; rw [if_neg h1]; rfl
      have e6 : totF s p n = 0 := if_neg (by simp [h1])
      simp only [e1, Bool.true_eq_false, if_false]
      rw [e6] at h
      exact h
  · exact h.elim
def c120 [Inp] : Trans := fun args m k => match args with
  | [.v (.int .i64 s), .v (.int .i64 p), .v (.int .i64 n)] => k (.v (.bool (roomB s p && pagedB n))) m
  | _ => False
theorem c120_ok [Inp] : Contract Try.prog 120 true c120 := by
  refine .plainArgs fn120 (g0 _) _ fun args m k h => ?_
  unfold c120 at h
  split at h
  · rename_i s p n
    refine ⟨rfl, by simp, ?_⟩
    simp (maxSteps := 2000000) -implicitDefEqProofs only [↓x120, ↓r120, s_alt, s_alt20, s_alt2t, s_alt2f, ↓s_loopi, ↓v_pq, ↓PRE, POST, CORE, Nat.reduceDiv, Nat.reduceMod, Int.reduceLT, Int.reduceLE, Int.reduceToNat, Int.reduceAdd, ↓reduceIte, Nat.reduceEqDiff, Nat.reduceAdd, Nat.reduceMul, Nat.reduceSub, Nat.reduceLeDiff, Nat.reduceLT, reduceCtorEq, if_true, eq_self, forall_const, implies_true]
    have key : ∀ b : Bool, (roomB s p && pagedB n) = b → k (.v (.bool b)) m := fun b hb => by rw [← hb]; exact h
    repeat' split
    all_goals simp only [decide_eq_true_eq] at *
    all_goals apply key
    all_goals (simp [roomB, pagedB, *]; done)
  · exact h.elim
def c121 [Inp] : Trans := fun args m k => match args with
  | [.v (.int .i64 s), .v (.int .i64 n)] => k (.v (.int .i64 (dataF s n))) m
  | _ => False
theorem s120 [Inp] : GOk Try.prog [⟨120, true, c120⟩] := GOk.cons c120_ok (g0 _)
theorem c121_ok [Inp] : Contract Try.prog 121 true c121 := by
  refine .plain0 fn121 (G := fun J => [⟨120, true, @c120 J⟩]) (fun J => @s120 J) _ fun args m k h => ?_
  unfold c121 at h
  split at h
  · rename_i s n
    refine ⟨[], [], [.v (.int .i64 s), .v (.int .i64 n)], by simp, trivial, by simp, LeL_plain _ rfl, by simp, fun J hJ hI => ?_⟩
    simp (maxSteps := 2000000) -implicitDefEqProofs only [↓x121, ↓r121, ↓c120, s_alt, s_alt20, s_alt2t, s_alt2f, ↓s_loopi, ↓v_pq, ↓PRE, POST, CORE, Nat.reduceDiv, Nat.reduceMod, Int.reduceLT, Int.reduceLE, Int.reduceToNat, Int.reduceAdd, ↓reduceIte, Nat.reduceEqDiff, Nat.reduceAdd, Nat.reduceMul, Nat.reduceSub, Nat.reduceLeDiff, Nat.reduceLT, reduceCtorEq, if_true, eq_self, forall_const, implies_true]
    by_cases h1 : (roomB s 0 && pagedB n) = true
    · have h1' := h1
      simp only [Bool.and_eq_true] at h1'
      obtain ⟨a1, a2, a3, a4⟩ := (roomB_iff s 0).1 h1'.1
      obtain ⟨b1, b2⟩ := (pagedB_iff n).1 h1'.2
      have d0 : 0 ≤ s / n := Int.ediv_nonneg (by omega) (by omega)
      have d1 : s / n ≤ s := Int.ediv_le_self _ (by omega)
      have e6 : dataF s n = s / n + 2 := if_pos ⟨h1'.1, h1'.2⟩
      simp only [h1, Bool.not_true, Bool.false_eq_true, if_false]
      rw [e6] at h
      refine TX_loop (@s120 J) (X := { x : Nat // (x : Int) ≤ s / n }) (fun x => [(0, .v (.int .i64 s)), (1, .v (.int .i64 n)), (5, .v (.int .i64 (x.1 : Int)))]) (fun _ => []) (fun x => (s / n).toNat - x.1) ⟨0, by omega⟩ ?_ ?_
      · exact (by refine ⟨[], by simp [NdL, NdA, oO_cells, oO_own, iL_nil], ?_, ?_, keep0 hJ⟩ <;> simp only [FitM, FitE, ObLe, LeL, Le, List.cons_append, List.nil_append] <;> (try (simp (maxSteps := 2000000) -implicitDefEqProofs only [s_alt, s_alt20, s_alt2t, s_alt2f, ↓s_loopi, ↓v_pq, ↓PRE, POST, CORE, Nat.reduceDiv, Nat.reduceMod, Int.reduceLT, Int.reduceLE, Int.reduceToNat, Int.reduceAdd, ↓reduceIte, Nat.reduceEqDiff, Nat.reduceAdd, Nat.reduceMul, Nat.reduceSub, Nat.reduceLeDiff, Nat.reduceLT, reduceCtorEq, if_true, eq_self, forall_const, implies_true])) <;> (try simp only [Sz.Le, Sz.LeL, List.getElem?_cons_zero, List.getElem?_cons_succ]) <;> (try simp))
      · rintro ⟨x, hx⟩
        have m0 : 0 ≤ ((x : Int) + 1) * n := Int.mul_nonneg (by omega) (by omega)
        have m1 : ((x : Int) + 1) * n ≤ 65 * 16 := Int.mul_le_mul (by omega) (by omega) (by omega) (by omega)
        have w1 : IntKind.i64.wrap ((x : Int) + 1) = (x : Int) + 1 := wrap_id (by omega) (by omega)
        have w2 : IntKind.i64.wrap (((x : Int) + 1) * n) = ((x : Int) + 1) * n := wrap_id (by omega) (by omega)
        simp (maxSteps := 2000000) -implicitDefEqProofs only [w1, w2, s_alt, s_alt20, s_alt2t, s_alt2f, ↓s_loopi, ↓v_pq, ↓PRE, POST, CORE, Nat.reduceDiv, Nat.reduceMod, Int.reduceLT, Int.reduceLE, Int.reduceToNat, Int.reduceAdd, ↓reduceIte, Nat.reduceEqDiff, Nat.reduceAdd, Nat.reduceMul, Nat.reduceSub, Nat.reduceLeDiff, Nat.reduceLT, reduceCtorEq, if_true, eq_self, forall_const, implies_true]
        split
        · rename_i hle
          simp only [decide_eq_true_eq] at hle
          have hlt : (x : Int) + 1 ≤ s / n := (Int.le_ediv_iff_mul_le (by omega)).2 hle
          exact ⟨⟨x + 1, by omega⟩, by simp only; omega, (by refine ⟨[], by simp [NdL, NdA, oO_cells, oO_own, iL_nil], ?_, ?_, keep0 hJ⟩ <;> simp only [FitM, FitE, ObLe, LeL, Le, List.cons_append, List.nil_append] <;> (try (simp (maxSteps := 2000000) -implicitDefEqProofs only [s_alt, s_alt20, s_alt2t, s_alt2f, ↓s_loopi, ↓v_pq, ↓PRE, POST, CORE, Nat.reduceDiv, Nat.reduceMod, Int.reduceLT, Int.reduceLE, Int.reduceToNat, Int.reduceAdd, ↓reduceIte, Nat.reduceEqDiff, Nat.reduceAdd, Nat.reduceMul, Nat.reduceSub, Nat.reduceLeDiff, Nat.reduceLT, reduceCtorEq, if_true, eq_self, forall_const, implies_true])) <;> (try simp only [Sz.Le, Sz.LeL, List.getElem?_cons_zero, List.getElem?_cons_succ]) <;> (try simp))⟩
        · rename_i hle
          simp only [decide_eq_true_eq] at hle
          have hnot : ¬ (x : Int) + 1 ≤ s / n := fun h => hle ((Int.le_ediv_iff_mul_le (by omega)).1 h)
          have hx' : (x : Int) = s / n := by omega
          have w3 : IntKind.i64.wrap ((x : Int) + 2) = (x : Int) + 2 := wrap_id (by omega) (by omega)
          rw [w3, hx']
          exact h
    · have h1' : (roomB s 0 && pagedB n) = false := by simpa using h1
      have e6 : dataF s n = 0 := if_neg (by rw [← Bool.and_eq_true]; exact h1)
      simp only [h1', Bool.not_false, if_true]
      rw [e6] at h
      exact h
  · exact h.elim
def c98 [Inp] : Trans := fun args m k => match args with
  | [.v (.int .i64 s), .v (.int .i64 p), .v (.int .i64 n)] => k (.v (.int .i64 (totF s p n))) m
  | _ => False
theorem c98_ok [Inp] : Contract Try.prog 98 true c98 := by
  refine .plainArgs fn98 (G := [⟨120, true, c120⟩, ⟨121, true, c121⟩]) (GOk.cons c120_ok (GOk.cons c121_ok (g0 _))) _ fun args m k h => ?_
  unfold c98 at h
  split at h
  · rename_i s p n
    refine ⟨rfl, by simp, ?_⟩
    simp (maxSteps := 2000000) -implicitDefEqProofs only [↓x98, ↓r98, ↓c120, ↓c121, s_alt, s_alt20, s_alt2t, s_alt2f, ↓s_loopi, ↓v_pq, ↓PRE, POST, CORE, Nat.reduceDiv, Nat.reduceMod, Int.reduceLT, Int.reduceLE, Int.reduceToNat, Int.reduceAdd, ↓reduceIte, Nat.reduceEqDiff, Nat.reduceAdd, Nat.reduceMul, Nat.reduceSub, Nat.reduceLeDiff, Nat.reduceLT, reduceCtorEq, if_true, eq_self, forall_const, implies_true]
    by_cases h1 : (roomB s p && pagedB n) = true
    · have h1' := h1
      simp only [Bool.and_eq_true] at h1'
      obtain ⟨a1, a2, a3, a4⟩ := (roomB_iff s p).1 h1'.1
      have hb := dataF_bd s n
      have e5 : IntKind.i64.wrap (dataF s n + p) = dataF s n + p := wrap_id (by omega) (by omega)
      have e6 : totF s p n = dataF s n + p := if_pos h1'
      simp only [h1, e5, Bool.not_true, Bool.false_eq_true, if_false]
      rw [e6] at h
      exact h
    · have e6 : totF s p n = 0 := if_neg (by rw [← Bool.and_eq_true]; exact h1)
      simp only [h1, Bool.not_false, if_true]
      rw [e6] at h
      exact h
  · exact h.elim
def c62 [Inp] : Trans := fun args m k => match args with
  | [.agg [.v (.int .i64 a), .v (.int .i64 b)], .v (.int .i64 n)] => k (.v (.int .i64 (totF a b n))) m
  | _ => False
def c70 [Inp] : Trans := fun args m k => match args with
  | [.agg [.v (.int .i64 a), .v (.int .i64 b)], .v (.int .i64 n)] => k (.v (.int .i64 (totF a b n))) m
  | _ => False
theorem a94 [Inp] {a b n : Int} {m : Mem} {k : SV → Mem → Prop} : c94 [.v (.int .i64 a), .v (.int .i64 b), .v (.int .i64 n)] m k = k (.v (.int .i64 (totF a b n))) m := rfl
theorem a98 [Inp] {a b n : Int} {m : Mem} {k : SV → Mem → Prop} : c98 [.v (.int .i64 a), .v (.int .i64 b), .v (.int .i64 n)] m k = k (.v (.int .i64 (totF a b n))) m := rfl
theorem c62_ok [Inp] : Contract Try.prog 62 true c62 := by
  refine .plainArgs fn62 (G := [⟨94, true, c94⟩]) (GOk.cons c94_ok (g0 _)) _ fun args m k h => ?_
  unfold c62 at h
  split at h
  · refine ⟨rfl, by simp, ?_⟩
    simp (maxSteps := 2000000) -implicitDefEqProofs only [↓x62, ↓r62, ↓a94, s_alt, s_alt20, s_alt2t, s_alt2f, ↓s_loopi, ↓v_pq, ↓PRE, POST, CORE, Nat.reduceDiv, Nat.reduceMod, Int.reduceLT, Int.reduceLE, Int.reduceToNat, Int.reduceAdd, ↓reduceIte, Nat.reduceEqDiff, Nat.reduceAdd, Nat.reduceMul, Nat.reduceSub, Nat.reduceLeDiff, Nat.reduceLT, reduceCtorEq, if_true, eq_self, forall_const, implies_true]
    exact h
  · exact h.elim
theorem c70_ok [Inp] : Contract Try.prog 70 true c70 := by
  refine .plainArgs fn70 (G := [⟨98, true, c98⟩]) (GOk.cons c98_ok (g0 _)) _ fun args m k h => ?_
  unfold c70 at h
  split at h
  · refine ⟨rfl, by simp, ?_⟩
    simp (maxSteps := 2000000) -implicitDefEqProofs only [↓x70, ↓r70, ↓a98, s_alt, s_alt20, s_alt2t, s_alt2f, ↓s_loopi, ↓v_pq, ↓PRE, POST, CORE, Nat.reduceDiv, Nat.reduceMod, Int.reduceLT, Int.reduceLE, Int.reduceToNat, Int.reduceAdd, ↓reduceIte, Nat.reduceEqDiff, Nat.reduceAdd, Nat.reduceMul, Nat.reduceSub, Nat.reduceLeDiff, Nat.reduceLT, reduceCtorEq, if_true, eq_self, forall_const, implies_true]
    exact h
  · exact h.elim
end Qu
end Go.Proofs.Ytcejgadbpahbmaa
end
section
namespace Go.Proofs.Ytcejgadbpahbmaa.Ra
structure Rg where
  fr : Int
  to : Int
deriving DecidableEq
def Mx : Int := 1099511627776
def clamp (n : Int) : Int := min (max n (-Mx)) Mx
def hit (r : Rg) (n : Int) : Bool := decide (clamp r.fr ≤ n) && decide (n < clamp r.to)
def cov (l : List Rg) (n : Int) : Bool := l.any fun r => hit r n
def mem (l : List Rg) (n : Int) : Prop := ∃ r ∈ l, r.fr ≤ n ∧ n < r.to
theorem mem_cons {r : Rg} {l : List Rg} {n : Int} : mem (r :: l) n ↔ (r.fr ≤ n ∧ n < r.to) ∨ mem l n := by
  unfold mem
  simp
structure Ed where
  at_ : Int
  up : Int
  sec : Bool
def edg (s : Bool) (r : Rg) : List Ed := if clamp r.fr < clamp r.to then [⟨clamp r.fr, 1, s⟩, ⟨clamp r.to, -1, s⟩] else []
def edges (l : List Rg) (s : Bool) : List Ed := l.flatMap (edg s)
def dep (es : List Ed) (s : Bool) : Int := (es.map fun e => if e.sec = s then e.up else 0).sum
def setTo (out : List Rg) (x : Int) : List Rg := match out.getLast? with | some r => out.dropLast ++ [⟨r.fr, x⟩] | none => []
def opn (out : List Rg) (x : Int) : Bool := match out.getLast? with | some r => decide (x < r.to) | none => false
def endAt (out : List Rg) (x : Int) : Bool := match out.getLast? with | some r => r.to == x | none => false
def stepO (out : List Rg) (x : Int) (inn : Bool) : List Rg :=
  if inn = true ∧ opn out x = false then (if endAt out x = true then setTo out (Mx + 1) else out ++ [⟨x, Mx + 1⟩])
  else if inn = false ∧ opn out x = true then setTo out x else out
def nxt (es : List Ed) (i : Nat) : Bool := match es[i]?, es[i + 1]? with | some e, some f => f.at_ == e.at_ | _, _ => false
def sw (T : Bool → Bool → Bool) (es : List Ed) : Nat → List Rg
  | 0 => []
  | i + 1 => if nxt es i = true then sw T es i else match es[i]? with
    | some e => stepO (sw T es i) e.at_ (T (decide (0 < dep (es.take (i + 1)) false)) (decide (0 < dep (es.take (i + 1)) true)))
    | none => sw T es i
theorem last_app {D : List Rg} {r : Rg} : (D ++ [r]).getLast? = some r := by simp
theorem setTo_app {D : List Rg} {r : Rg} {x : Int} : setTo (D ++ [r]) x = D ++ [⟨r.fr, x⟩] := by
  unfold setTo
  rw [last_app]
  simp
end Go.Proofs.Ytcejgadbpahbmaa.Ra
end
section
namespace Go.Proofs.Ytcejgadbpahbmaa.Ra
def lenS (l : List Rg) : Int := (l.map fun r => r.to - r.fr).sum
def isF : Option Int → List Rg → Bool
  | _, [] => true
  | p, r :: l => decide (r.fr < r.to) && decide (-Mx ≤ r.fr) && decide (r.to ≤ Mx) && (match p with | some q => decide (q < r.fr) | none => true) && isF (some r.to) l
def tOr (x y : Bool) : Bool := x || y
def tBut (x y : Bool) : Bool := x && !y
end Go.Proofs.Ytcejgadbpahbmaa.Ra
end
section
namespace Go.Proofs.Ytcejgadbpahbmaa
open Go.RowKit Sz
set_option maxHeartbeats 8000000
set_option maxRecDepth 20000
namespace Rc
def gV (r : Ra.Rg) : List Value := [.int .i64 r.fr, .int .i64 r.to]
theorem gV_len (r : Ra.Rg) : (gV r).length = 2 := rfl
def vL {α : Type} (cs : α → List Value) (l : List α) : List SV := (rowV cs l).map SV.v
section
variable {α : Type} {cs : α → List Value} {z : Nat}
theorem vL_nil : vL cs ([] : List α) = [] := rfl
theorem vL_len (hz : ∀ x, (cs x).length = z) (l : List α) : (vL cs l).length = l.length * z := by unfold vL; rw [List.length_map, rowV_len hz]
theorem vL_app (l l' : List α) : vL cs l ++ vL cs l' = vL cs (l ++ l') := by simp [vL, rowV]
theorem vL_le {g : List Nat} {l : List α} : LeL g (vL cs l) (vL cs l) = True := by simp only [eq_iff_iff, iff_true]; exact LeL_v g _
theorem vL_up {d : Nat} {l : List α} : upL d (vL cs l) = vL cs l := upL_v d _
end
theorem g_len {l : List Ra.Rg} : (vL gV l).length = l.length * 2 := vL_len gV_len l
def decG : List SV → Option (List Ra.Rg)
  | [] => some []
  | .v (.int .i64 a) :: .v (.int .i64 b) :: l => (decG l).map (⟨a, b⟩ :: ·)
  | _ => none
theorem decG_gL : ∀ l : List Ra.Rg, decG (vL gV l) = some l
  | [] => rfl
  | r :: l => by
    have e : vL gV (r :: l) = .v (.int .i64 r.fr) :: .v (.int .i64 r.to) :: vL gV l := rfl
    rw [e]
    simp only [decG, decG_gL l, Option.map_some]
theorem decG_inv : ∀ {l : List SV} {rs : List Ra.Rg}, decG l = some rs → l = vL gV rs
  | [], rs, h => by simp only [decG] at h; injection h with h; subst h; rfl
  | [a], rs, h => by simp [decG] at h
  | a :: b :: l, rs, h => by
    unfold decG at h
    split at h
    · rename_i heq; cases heq
    · rename_i heq
      cases heq
      obtain ⟨ys, h1, rfl⟩ := Option.map_eq_some_iff.1 h
      rw [decG_inv h1]; rfl
    · cases h
def rdG [Inp] (m : Mem) (s : SV) : Option (List Ra.Rg) := (slOf m 2 s).bind fun p => decG p.2
theorem rdG_knows {I J : Inp} {m : Mem} {s : SV} {u : Value} {xs : List Ra.Rg} (h : @rdG I m s = some xs) (hk : Knows I J m s u) :
    ∃ p c, u = .slice p xs.length c ∧ @inpL J p (xs.length * 2) = some (rowV gV xs) := by
  unfold rdG at h
  obtain ⟨⟨n, ys⟩, h1, h2⟩ := Option.bind_eq_some_iff.1 h
  have h3 := decG_inv h2
  simp only at h3
  subst h3
  have hl := @slOf_len I _ _ _ _ _ h1
  have hn : n = xs.length := by rw [g_len] at hl; omega
  subst hn
  obtain ⟨p, c, rfl, h5⟩ := hk.2.2 2 _ _ h1
  exact ⟨p, c, rfl, h5⟩
theorem rdG_v [Inp] {m : Mem} {p : Option Addr} {n c : Nat} {xs : List Ra.Rg} (h : inpL p (n * 2) = some (rowV gV xs)) : rdG m (.v (.slice p n c)) = some xs := by
  unfold rdG
  simp only [slOf, h, Option.map_some, Option.bind_some]
  exact decG_gL xs
theorem rdG_nil [Inp] {m : Mem} {c : Nat} : rdG m (.v (.slice none 0 c)) = some [] := by
  unfold rdG; rw [sl_0]; rfl
def rS (j z n : Nat) : SV := if n = 0 then .v (.slice none 0 0) else .row j 0 n z
def rM (cs : List SV) : Mem := if cs = [] then [] else [⟨true, cs⟩]
theorem rS_0 {j z : Nat} : rS j z 0 = .v (.slice none 0 0) := rfl
theorem rS_s {j z n : Nat} : rS j z (n + 1) = .row j 0 (n + 1) z := rfl
theorem rM_0 : rM [] = [] := rfl
theorem rM_s {c : SV} {cs : List SV} : rM (c :: cs) = [⟨true, c :: cs⟩] := rfl
theorem rS_ne {j z n : Nat} (h : n ≠ 0) : rS j z n = .row j 0 n z := if_neg h
theorem vL_ne {α : Type} {cs : α → List Value} {z : Nat} (hz : ∀ x, (cs x).length = z) (h0 : 0 < z) {l : List α} (h : l ≠ []) : vL cs l ≠ [] := fun e => by
  have := congrArg List.length e
  rw [vL_len hz, List.length_nil] at this
  have hn : l.length ≠ 0 := fun e => h (List.length_eq_zero_iff.1 e)
  rcases Nat.mul_eq_zero.1 this with h | h <;> omega
theorem rM_ne {C : List SV} (h : C ≠ []) : rM C = [⟨true, C⟩] := if_neg h
theorem rM_at {α : Type} {cs : α → List Value} {z : Nat} (hz : ∀ x, (cs x).length = z) (h0 : 0 < z) {l : List α} (h : l ≠ []) : (rM (vL cs l))[0]? = some ⟨true, vL cs l⟩ := by
  rw [rM_ne (vL_ne hz h0 h)]; rfl
section
variable {j z n : Nat} {K : SV → Prop}
theorem s_len : lenK (rS j z n) K = K (.v (.int .i64 n)) := by
  unfold rS
  split
  · rename_i h; subst h; rfl
  · rfl
theorem s_isl {q : IntKind} {p : Int} : islK z (rS j z n) (.v (.int q p)) K = ((0 ≤ p ∧ p < (n : Int)) ∧ mwK (.ptr j (0 + p.toNat * z)) K) := by
  unfold rS
  split
  · rename_i h; subst h
    rw [v_islp]
    simp only [Option.isSome_none, Bool.false_eq_true, and_false, false_and, eq_iff_iff, false_iff, not_and]
    intro h; omega
  · rfl
end
theorem inp00 [Inp] {p : Option Addr} : inpL p 0 = some [] := by simp [inpL]
theorem rdG_r [Inp] {m : Mem} {j : Nat} {xs : List Ra.Rg} (h : xs ≠ [] → ∃ o, m[j]? = some ⟨o, vL gV xs⟩) : rdG m (rS j 2 xs.length) = some xs := by
  unfold rS
  split
  · rename_i h0
    rw [List.length_eq_zero_iff.1 h0]
    exact rdG_nil
  · rename_i h0
    obtain ⟨o, h1⟩ := h (fun e => h0 (by rw [e]; rfl))
    unfold rdG
    rw [sl_row, h1, sl_k, Nat.zero_add, if_pos (by rw [g_len]; exact Nat.le_refl _), List.drop_zero, List.take_of_length_le (by rw [g_len]; exact Nat.le_refl _), Option.bind_some]
    exact decG_gL xs
theorem fin_row {α : Type} {cs : α → List Value} {z : Nat} (hz : ∀ x, (cs x).length = z) (h0 : 0 < z) {k : SV → Mem → Prop} {m : Mem} (L : List α) (m' : Mem) (s : SV) (j : Nat) (h1 : L = [] → s = .v (.slice none 0 0)) (h2 : L ≠ [] → s = .row j 0 L.length z ∧ m'[j]? = some ⟨true, vL cs L⟩) (h3 : k (rS m.length z L.length) (m ++ rM (vL cs L))) :
    ∃ (g2 : List Nat) (s2 : SV) (m2 : Mem), NdL g2 m2 ∧ FitM g2 m' g2 m2 ∧ (∀ o ∈ m2, o.own = true ∨ (o.own = false ∧ o.cells = [])) ∧ Le g2 s2 s ∧ k (s2.up m.length) (m ++ m2.map (SObj.up m.length)) := by
  by_cases hL : L = []
  · subst hL
    rw [h1 rfl]
    refine ⟨[], .v (.slice none 0 0), [], by simp [NdL], trivial, by simp, by simp only [Le], ?_⟩
    simpa [SV.up, rS, rM, vL_nil] using h3
  · obtain ⟨rfl, hm⟩ := h2 hL
    have hle : ∀ g, LeL g (vL cs L) (vL cs L) := fun g => by rw [vL_le]; trivial
    have hn : L.length ≠ 0 := fun e => hL (List.length_eq_zero_iff.1 e)
    have hne : vL cs L ≠ [] := fun e => by
      have := congrArg List.length e
      rw [vL_len hz, List.length_nil] at this
      exact hn (by rcases Nat.mul_eq_zero.1 this with h | h <;> omega)
    refine ⟨[j], .row 0 0 L.length z, [⟨true, vL cs L⟩], by simp [NdL, NdA], by simp [FitM, ObLe, hle, hm], by simp, by simp only [Le]; rfl, ?_⟩
    simpa [SV.up, SObj.up, vL_up, rS, rM, hn, hne] using h3
-- almshouse/ranges.clamp (1 parameters)
-- almshouse/ranges.edges (2 parameters)
theorem edges_len (l : List Ra.Rg) (b : Bool) : (Ra.edges l b).length ≤ 2 * l.length := by
  induction l with
  | nil => simp [Ra.edges]
  | cons r l ih =>
    have : Ra.edges (r :: l) b = Ra.edg b r ++ Ra.edges l b := rfl
    rw [this, List.length_append, List.length_cons]
    have : (Ra.edg b r).length ≤ 2 := by unfold Ra.edg; split <;> simp
    omega
end Rc
end Go.Proofs.Ytcejgadbpahbmaa
end
section
namespace Go.Proofs.Ytcejgadbpahbmaa
open Go.RowKit Sz
set_option maxHeartbeats 8000000
set_option maxRecDepth 20000
namespace Rc
-- almshouse/almshouselaw51.rows (1 parameters)
def c22 [Inp] : Trans := fun args m k => ∃ (s : SV) (l : List Ra.Rg), args = [s] ∧ rdG m s = some l ∧ l.length ≤ 100000 ∧ k (rS m.length 2 l.length) (m ++ rM (vL gV l))
def c23 [Inp] : Trans := fun args m k => ∃ (s1 s2 : SV) (a b : List Ra.Rg), args = [s1, s2] ∧ rdG m s1 = some a ∧ rdG m s2 = some b ∧ a.length ≤ 100000 ∧ b.length ≤ 100000 ∧ k (.v (.bool (a == b))) m
end Rc
end Go.Proofs.Ytcejgadbpahbmaa
end
section
namespace Go.Proofs.Ytcejgadbpahbmaa.Sz
open Go.RowKit Go.Sort
variable {P : Program} {base : Nat → Prop} {w0 W : World} {r : List Loc} {m : Mem}
theorem IsL_vs {us : List Value} {r : List Loc} : ∀ {xs : List Value}, SV.IsL r (xs.map SV.v) us → us = xs := by
  intro xs
  induction xs generalizing us with
  | nil => intro h; exact h
  | cons x xs ih =>
    intro h
    obtain ⟨u, t, rfl, h1, h2⟩ := h
    simp only [SV.Is] at h1
    rw [h1, ih h2]
theorem row_there [Inp] (h : St base w0 r m W) {k : Nat} {l : Loc} {zs : List Int} (hl : r[k]? = some l) (hob : m[k]? = some ⟨true, iL zs⟩) :
    ∃ c T, W.heap[l.blk]? = some (.cells c T (0, 0)) ∧ l.off + l.room ≤ c.size ∧ zs.length ≤ l.room ∧ ∀ j x, zs[j]? = some x → c[l.off + j]? = some (.int .i64 x) := by
  have hO := h.obj k l _ hl hob
  obtain ⟨c, T, fr, g1, g2, g3, g4⟩ := hO.there rfl (.inl rfl)
  have g5 := hO.fits
  simp only [iL_len] at g5 g3
  have := g4 rfl
  subst this
  rw [iL_eq] at g3
  have g6 := IsL_vs g3
  refine ⟨c, T, g1, g2, g5, fun j x hx => ?_⟩
  have hj : j < zs.length := (List.getElem?_eq_some_iff.1 hx).1
  have e : ((c.toList.drop l.off).take zs.length)[j]? = (zs.map (Value.int .i64))[j]? := by rw [g6]
  rw [List.getElem?_take_of_lt hj, List.getElem?_drop, List.getElem?_map, hx] at e
  rw [← Array.getElem?_toList]
  exact e
theorem holds_row [Inp] (h : St base w0 r m W) {k : Nat} {l : Loc} {zs : List Int} (hl : r[k]? = some l) (hob : m[k]? = some ⟨true, iL zs⟩) : Holds (Value.int .i64) W l.blk (l.off + 0) zs.toArray := by
  obtain ⟨c, T, g1, g2, g3, g4⟩ := row_there h hl hob
  intro j hj
  have hj' : j < zs.length := by simpa using hj
  have hx : zs[j]? = some zs[j] := List.getElem?_eq_getElem hj'
  refine ⟨?_, ?_⟩
  · have : zs.toArray[j]! = zs[j] := by rw [getElem!_pos _ j (by simpa using hj')]; simp
    rw [this, Nat.add_zero]
    simp only [World.cell?, g1]
    exact g4 j _ hx
  · simp only [World.frozen?, g1]
    simp
theorem blk_lt [Inp] (h : St base w0 r m W) {k : Nat} {l : Loc} {zs : List Int} (hl : r[k]? = some l) (hob : m[k]? = some ⟨true, iL zs⟩) : l.blk < W.heap.size := (h.obj k l _ hl hob).lt
theorem heap_put (W : World) (n b o : Nat) (ys : Array Int) (os : Array Obj) {j : Nat} (hj : j < W.heap.size) :
    (grow (putRow (Value.int .i64) (Sort.ahead W n) b o ys) os).heap[j]? = if b = j then W.heap[j]?.map (onCells (putCells (Value.int .i64) o ys)) else W.heap[j]? := by
  simp only [grow, putRow, mapBlock, Sort.ahead]
  rw [Array.getElem?_append_left (by simpa using hj), Array.getElem?_modify]
theorem put_row [Inp] (h : St base w0 r m W) {k : Nat} {l : Loc} {zs : List Int} (hl : r[k]? = some l) (hob : m[k]? = some ⟨true, iL zs⟩) (ys : List Int) (hlen : ys.length = zs.length) (n : Nat) (os : Array Obj) :
    St base w0 r (m.set k ⟨true, iL ys⟩) (grow (putRow (Value.int .i64) (Sort.ahead W n) l.blk (l.off + 0) ys.toArray) os) := by
  obtain ⟨c, T, g1, g2, g3, g4⟩ := row_there h hl hob
  have hO := h.obj k l _ hl hob
  have hlt := hO.lt
  have hb := hO.own rfl
  have hh := @heap_put W n l.blk (l.off + 0) ys.toArray os
  generalize hW1 : grow (putRow (Value.int .i64) (Sort.ahead W n) l.blk (l.off + 0) ys.toArray) os = W1 at hh ⊢
  have hsz : W.heap.size ≤ W1.heap.size := by rw [← hW1]; simp [grow, putRow, mapBlock, Sort.ahead]
  have hme : W1.heap[l.blk]? = some (.cells (putCells (Value.int .i64) (l.off + 0) ys.toArray c) T (0, 0)) := by
    rw [hh hlt, if_pos rfl, g1]
    rfl
  refine h.wr hl hob rfl ⟨by rw [← hW1]; rfl, by rw [← hW1]; rfl, by rw [← hW1]; rfl, hsz, fun j hj hn => ?_, fun j d T2 fr2 hd => ?_⟩ (fun j hj hn => ?_) _ ⟨fun _ _ => ?_, ?_, fun _ => hb, Nat.lt_of_lt_of_le hlt hsz, trivial⟩ rfl
  · rw [hh hj, if_neg (fun e : l.blk = j => hn (by rw [← e]; exact hb))]
  · have hj : j < W.heap.size := (Array.getElem?_eq_some_iff.1 hd).1
    by_cases e : l.blk = j
    · subst e
      rw [g1] at hd
      injection hd with hd
      injection hd with e1 e2 e3
      subst e1
      exact ⟨_, _, _, hme, by simp [putCells]⟩
    · exact ⟨d, T2, fr2, by rw [hh hj, if_neg e]; exact hd, rfl⟩
  · rw [hh hj, if_neg (fun e => hn e.symm)]
  · refine ⟨_, T, (0, 0), hme, by simp only [putCells, Array.size_mapIdx]; exact g2, ?_, fun _ => rfl⟩
    rw [iL_eq]
    have e : (((putCells (Value.int .i64) (l.off + 0) ys.toArray c).toList.drop l.off).take ((ys.map (Value.int .i64)).map SV.v).length) = ys.map (Value.int .i64) := by
      apply List.ext_getElem?
      intro j
      rw [List.getElem?_map]
      by_cases hj : j < ys.length
      · rw [List.getElem?_take_of_lt (by simpa using hj), List.getElem?_drop, Array.getElem?_toList, List.getElem?_eq_getElem hj]
        have hc : l.off + j < c.size := by omega
        simp only [putCells, Array.getElem?_mapIdx, Array.getElem?_eq_getElem hc, Option.map_some, Nat.add_zero]
        rw [if_pos ⟨by omega, by simp; omega⟩]
        have : l.off + j - l.off = j := by omega
        rw [this, getElem!_pos _ j (by simpa using hj)]
        simp
      · rw [List.getElem?_eq_none (by simp; omega), List.getElem?_eq_none (by omega)]
        rfl
    rw [e]
    exact IsL_v _
  · show (iL ys).length ≤ l.room
    rw [iL_len]
    omega
def sortT (F : List Int → List Int) : Trans := fun args m k => (∃ j zs, args = [.row j 0 zs.length 1] ∧ m[j]? = some ⟨true, iL zs⟩ ∧ zs.length ≤ 1000000 ∧ k (.tup []) (m.set j ⟨true, iL (F zs)⟩)) ∨ (∃ a c, args = [.v (.slice a 0 c)] ∧ k (.tup []) m) ∨ (args = [.emp] ∧ k (.tup []) m) ∨ (args = [.zro] ∧ k (.tup []) m)
theorem sort_native [Inp] {f : FuncId} {F : List Int → List Int} (he : Enterable P f) (hF : ∀ zs, (F zs).length = zs.length)
    (hc : ∀ (blk off cap : Nat) (zs : List Int) (w : World), Holds (Value.int .i64) w blk off zs.toArray → blk < w.heap.size → zs.length < 4611686018427387904 →
      Calls P f #[.slice (some ⟨blk, off, none⟩) zs.length cap] w fun e w' => e = .returned (.tuple #[]) ∧ ∃ n os, w' = grow (putRow (Value.int .i64) (Sort.ahead w n) blk off (F zs).toArray) os)
    (hn : ∀ (p : Option Addr) (cap : Nat) (w : World), Calls P f #[.slice p 0 cap] w fun e w' => e = .returned (.tuple #[]) ∧ w' = w) : Contract P f false (sortT F) := by
  refine ⟨he, fun args m k base w0 W r vs h hst hvs => ?_⟩
  have empty : ∀ (a : Option Addr) (c : Nat), vs = [.slice a 0 c] → k (.tup []) m → Calls P f vs.toArray W fun e W1 => ∃ s m' t u, k s m' ∧ e = .returned u ∧ St base w0 (r ++ t) m' W1 ∧ s.Is (r ++ t) u ∧ (false = true → Same r W W1) := by
    rintro a c rfl hk
    refine (hn a c W).mono ?_
    rintro e W1 ⟨rfl, rfl⟩
    exact ⟨.tup [], m, [], _, hk, rfl, by rw [List.append_nil]; exact hst, ⟨[], rfl, rfl⟩, fun h => by cases h⟩
  rcases h with ⟨j, zs, rfl, hm, hz, hk⟩ | ⟨a, c, rfl, hk⟩ | ⟨rfl, hk⟩ | ⟨rfl, hk⟩
  · obtain ⟨u, t, rfl, hu, ht⟩ := hvs
    have ht' : t = [] := ht
    subst ht'
    simp only [SV.Is] at hu
    obtain ⟨l, cap, hl, hcap, hroom, rfl⟩ := hu
    refine (hc l.blk (l.off + 0) cap zs W (holds_row hst hl hm) (blk_lt hst hl hm) (by omega)).mono ?_
    rintro e W1 ⟨rfl, n, os, rfl⟩
    exact ⟨.tup [], _, [], _, hk, rfl, by rw [List.append_nil]; exact put_row hst hl hm _ (hF zs) n os, ⟨[], rfl, rfl⟩, fun h => by cases h⟩
  · obtain ⟨u, t, rfl, hu, ht⟩ := hvs
    have ht' : t = [] := ht
    subst ht'
    simp only [SV.Is] at hu
    exact empty a c (by rw [hu]) hk
  · obtain ⟨u, t, rfl, hu, ht⟩ := hvs
    have ht' : t = [] := ht
    subst ht'
    simp only [SV.Is] at hu
    obtain ⟨a, c, hu, _⟩ := hu
    exact empty _ c (by rw [hu]) hk
  · obtain ⟨u, t, rfl, hu, ht⟩ := hvs
    have ht' : t = [] := ht
    subst ht'
    simp only [SV.Is] at hu
    obtain ⟨a, hu, _⟩ := hu
    exact empty _ 0 (by rw [hu]) hk
end Go.Proofs.Ytcejgadbpahbmaa.Sz
end
section
namespace Go.Proofs.Ytcejgadbpahbmaa.Sz
open Go.RowKit Go.Sort
variable {P : Program} {base : Nat → Prop} {w0 W : World} {r : List Loc} {m : Mem}
end Go.Proofs.Ytcejgadbpahbmaa.Sz
end
section
namespace Go.Proofs
open Go.Shelf
end Go.Proofs
end
section
namespace Go.Proofs.Ytcejgadbpahbmaa
open Go.RowKit Go.Sort Sz
set_option maxHeartbeats 4000000
set_option maxRecDepth 20000
namespace Rc
instance : Inhabited Ra.Ed := ⟨⟨0, 0, false⟩⟩
end Rc
end Go.Proofs.Ytcejgadbpahbmaa
end
section
namespace Go.Proofs.Ytcejgadbpahbmaa.Ra
def insE (x : Ed) : List Ed → List Ed
  | [] => [x]
  | y :: l => if x.at_ ≤ y.at_ then x :: y :: l else y :: insE x l
def istE : List Ed → List Ed
  | [] => []
  | x :: l => insE x (istE l)
def swp (T : Bool → Bool → Bool) (a b : List Rg) : List Rg := sw T (istE (edges a false ++ edges b true)) (edges a false ++ edges b true).length
theorem setTo_len (out : List Rg) (x : Int) : (setTo out x).length = out.length := by
  rcases List.eq_nil_or_concat out with rfl | ⟨D, r, rfl⟩
  · rfl
  · rw [List.concat_eq_append, setTo_app]; simp
theorem stepO_len (out : List Rg) (x : Int) (i : Bool) : (stepO out x i).length ≤ out.length + 1 := by
  unfold stepO
  split
  · split
    · rw [setTo_len]; omega
    · simp
  · split
    · rw [setTo_len]; omega
    · omega
theorem sw_len (T : Bool → Bool → Bool) (es : List Ed) : ∀ i, (sw T es i).length ≤ i
  | 0 => Nat.le_refl _
  | i + 1 => by
    have ih := sw_len T es i
    unfold sw
    split
    · omega
    · split
      · have := stepO_len (sw T es i) (by assumption : Ed).at_
        exact Nat.le_trans (this _) (by omega)
      · omega
theorem edg_len (b : Bool) (r : Rg) : (edg b r).length ≤ 2 := by unfold edg; split <;> simp
theorem edges_len (l : List Rg) (b : Bool) : (edges l b).length ≤ 2 * l.length := by
  induction l with
  | nil => simp [edges]
  | cons r l ih =>
    have : edges (r :: l) b = edg b r ++ edges l b := rfl
    rw [this, List.length_append, List.length_cons]
    have := edg_len b r
    omega
theorem swp_len (T : Bool → Bool → Bool) (a b : List Rg) : (swp T a b).length ≤ 2 * (a.length + b.length) := by
  have h := sw_len T (istE (edges a false ++ edges b true)) (edges a false ++ edges b true).length
  have h1 := edges_len a false
  have h2 := edges_len b true
  rw [List.length_append] at h
  unfold swp
  rw [List.length_append]
  omega
end Go.Proofs.Ytcejgadbpahbmaa.Ra
end
section
namespace Go.Proofs.Ytcejgadbpahbmaa
open Go.RowKit Sz
set_option maxHeartbeats 16000000
set_option maxRecDepth 20000
namespace Rc
-- almshouse/ranges.sweep (3 parameters)
section
variable {J : Inp} {g : FuncId} {T : Bool → Bool → Bool} {es : List Ra.Ed} {ps : List (Value × SV)} {out : List Ra.Rg} {x : Nat} {e : Env} {m : Mem}
end
end Rc
end Go.Proofs.Ytcejgadbpahbmaa
end
section
namespace Go.Proofs.Ytcejgadbpahbmaa
open Go.RowKit Sz
set_option maxHeartbeats 16000000
set_option maxRecDepth 20000
namespace Rc
end Rc
end Go.Proofs.Ytcejgadbpahbmaa
end
section
namespace Go.Proofs.Ytcejgadbpahbmaa
open Go.RowKit Sz
set_option maxHeartbeats 16000000
set_option maxRecDepth 20000
namespace Rc
-- almshouse/ranges.With (2 parameters)
def setG (l : List Ra.Rg) : List Ra.Rg := Ra.swp Ra.tOr l []
def c29 [Inp] : Trans := fun args m k => ∃ (s : SV) (l : List Ra.Rg), args = [s] ∧ rdG m s = some l ∧ l.length ≤ 10000 ∧ k (rS m.length 2 (setG l).length) (m ++ rM (vL gV (setG l)))
end Rc
end Go.Proofs.Ytcejgadbpahbmaa
end
section
namespace Go.Proofs.Ytcejgadbpahbmaa
open Go.RowKit Sz
set_option maxHeartbeats 16000000
set_option maxRecDepth 20000
namespace Rc
-- almshouse/ranges.Has$1 (1 parameters)
theorem rM_new {H : Mem} {S : List Ra.Rg} (h : S ≠ []) : (H ++ rM (vL gV S))[H.length]? = some ⟨true, vL gV S⟩ := by
  rw [List.getElem?_append_right (Nat.le_refl _), Nat.sub_self]
  exact rM_at gV_len (by omega) h
def one (n : Int) : Ra.Rg := ⟨min (Ra.clamp n) 1099511627775, min (Ra.clamp n) 1099511627775 + 1⟩
end Rc
end Go.Proofs.Ytcejgadbpahbmaa
end
section
namespace Go.Proofs.Ytcejgadbpahbmaa
open Go.RowKit Sz
set_option maxHeartbeats 16000000
set_option maxRecDepth 20000
namespace Rc
def RdE [Inp] (m : Mem) (s : SV) (L : List Ra.Rg) : Prop := ∀ t, rdG (m ++ t) s = some L
class KBox where
  q : SV → Mem → Prop
def useI (tr : Trans) (args : List SV) (m : Mem) [b : KBox] : Prop := tr args m b.q
theorem useI_of {tr : Trans} {args : List SV} {m : Mem} {K : SV → Mem → Prop} (h : tr args m K) : @useI tr args m ⟨K⟩ := h
theorem v_kq {K : SV → Mem → Prop} {s : SV} {m : Mem} : @KBox.q ⟨K⟩ s m = K s m := Eq.trans rfl rfl
section
variable [Inp] {l : List SV} {m : Mem} {K : SV → Mem → Prop} {T : Bool → Bool → Bool}
end
section
variable [Inp] {m : Mem} {s s1 s2 : SV} {L a b : List Ra.Rg} {K : SV → Mem → Prop} {T : Bool → Bool → Bool}
theorem RdE.get (h : RdE m s L) : rdG m s = some L := by have := h []; rwa [List.append_nil] at this
theorem RdE.ext (h : RdE m s L) (t : Mem) : RdE (m ++ t) s L := fun u => by rw [List.append_assoc]; exact h _
theorem RdE_v {p : Option Addr} {n c : Nat} (h : inpL p (n * 2) = some (rowV gV L)) : RdE m (.v (.slice p n c)) L := fun t => rdG_v h
theorem RdE_new : RdE (m ++ rM (vL gV L)) (rS m.length 2 L.length) L := fun t => by
  refine rdG_r fun h => ⟨true, ?_⟩
  rw [List.getElem?_append_left (by rw [List.length_append, rM_ne (vL_ne gV_len (by omega) h)]; simp)]
  exact rM_new h
omit [Inp] in
theorem at_app {i : Nat} {o : SObj} {t : Mem} (h : m[i]? = some o) : (m ++ t)[i]? = some o := by
  rw [List.getElem?_append_left (List.getElem?_eq_some_iff.1 h).1]
  exact h
end
-- almshouse/almshouselaw51.fixed (0 parameters)
def c20 [Inp] : Trans := fun args m k => args = [] ∧ k (.v (.bool true)) m
theorem v1 : setG [⟨3, 5⟩, ⟨1, 3⟩, ⟨9, 2⟩] = [⟨1, 5⟩] := by decide
theorem v2 : Ra.swp Ra.tBut [⟨1, 5⟩] [⟨2, 4⟩] = [⟨1, 2⟩, ⟨4, 5⟩] := by decide
theorem v3 : Ra.lenS (setG [⟨1, 2⟩, ⟨4, 5⟩]) = 2 := by decide
theorem v4 : Ra.isF none [⟨1, 2⟩, ⟨4, 5⟩] = true := by decide
theorem v5 : ([⟨1, 2⟩, ⟨4, 5⟩] : List Ra.Rg).any (fun r => Ra.hit r 4) = true := by decide
end Rc
end Go.Proofs.Ytcejgadbpahbmaa
end
section
namespace Go.Proofs.Ytcejgadbpahbmaa.Ra
def posN (n : Int) : List Int → Nat
  | [] => 0
  | x :: l => if x < n then posN n l + 1 else 0
def insN (n : Int) (l : List Int) : List Int := if l[posN n l]? = some n then l else l.take (posN n l) ++ n :: l.drop (posN n l)
def edN (a : List Rg) : List Int := a.foldl (fun o r => insN (clamp r.to) (insN (clamp r.fr) o)) []
def mixS (out : List Rg) (x y : Int) (inn : Bool) : List Rg := if inn = true then (if endAt out x = true then setTo out y else out ++ [⟨x, y⟩]) else out
def mixN (a : List Rg) (es : List Int) : Nat → List Rg
  | 0 => []
  | i + 1 => match es[i]?, es[i + 1]? with | some x, some y => mixS (mixN a es i) x y (cov a x) | _, _ => mixN a es i
end Go.Proofs.Ytcejgadbpahbmaa.Ra
end
section
namespace Go.Proofs.Ytcejgadbpahbmaa
open Go.RowKit Sz
set_option maxHeartbeats 16000000
set_option maxRecDepth 20000
namespace Rc
-- almshouse/almshouseref51.Clamp (1 parameters)
theorem vL_iL (l : List Int) : vL (fun n : Int => [Value.int .i64 n]) l = iL l := by
  unfold vL rowV iL
  induction l with
  | nil => rfl
  | cons x l ih => simpa using ih
theorem nil_facts {L : List Int} (h : L = []) : rM (iL L) = [] ∧ ∀ j, rS j 1 L.length = .v (.slice none 0 0) := by subst h; exact ⟨rfl, fun _ => rfl⟩
theorem ne_facts {L : List Int} (h : L ≠ []) : rM (iL L) = [⟨true, iL L⟩] ∧ ∀ j, rS j 1 L.length = .row j 0 L.length 1 := ⟨rM_ne fun e => h (List.map_eq_nil_iff.1 e), fun _ => rS_ne fun e => h (List.length_eq_zero_iff.1 e)⟩
theorem m1 : 1 ≤ maxLen := by unfold maxLen; omega
end Rc
end Go.Proofs.Ytcejgadbpahbmaa
end
section
namespace Go.Proofs.Ytcejgadbpahbmaa
open Go.RowKit Sz
set_option maxHeartbeats 16000000
set_option maxRecDepth 20000
namespace Rc
-- almshouse/almshouseref51.Mix (3 parameters)
def mixA (a : List Ra.Rg) : List Ra.Rg := Ra.mixN a (Ra.edN a) ((Ra.edN a).length - 1)
def c21 [Inp] : Trans := fun args m k => ∃ (s : SV) (a : List Ra.Rg), args = [s, .v (.slice none 0 0), .v (.int .i64 0)] ∧ rdG m s = some a ∧ a.length ≤ 1000 ∧ k (rS m.length 2 (mixA a).length) (m ++ rM (vL gV (mixA a)))
end Rc
end Go.Proofs.Ytcejgadbpahbmaa
end
section
namespace Go.Proofs.Ytcejgadbpahbmaa
open Go.RowKit Sz
set_option maxHeartbeats 16000000
set_option maxRecDepth 20000
namespace Qu
open Rc
-- almshouse/almshouselaw41.wishes (1 parameters)
def x34 : XC := (.seq (.tree (.seq ⟨some 2, none, (.ofA (.mv (.cst (.v (.slice none 0 0)))))⟩
 .done))
 (.seq (.tree (.seq ⟨some 3, none, (.ofA (.mv (.cst (.v (.slice none 0 0)))))⟩
 .done))
 (.seq (.seq (.tree (.seq ⟨some 6, none, (.ofA (.mv (.tmp 0)))⟩
 (.seq ⟨some 7, none, (.ofA (.len (.tmp 6)))⟩
 (.seq ⟨some 8, none, (.ofA (.mv (.cst (.v (.int .i64 0)))))⟩
 .done))))
 (.block 0 (.loop (.seq (.tree (.seq ⟨some 9, none, (.ofA (.bin .lss (.tmp 8) (.tmp 7)))⟩
 .done))
 (.seq (.cond (.tmp 9)
 .skip
 (.exit 0))
 (.seq (.block 1 (.seq (.tree (.seq ⟨some 10, none, (.ofA (.isl 2 (.tmp 6) (.tmp 8)))⟩
 (.seq ⟨some 11, none, (.ofA (.load (some 2) (.tmp 10)))⟩
 (.seq ⟨some 5, none, (.alloc [(.v (.int .i64 0)), (.v (.int .i64 0))])⟩
 (.seq ⟨none, none, (.store 2 (.tmp 5) (.tmp 11))⟩
 .done)))))
 (.tree (.seq ⟨some 12, none, (.ofA (.mv (.tmp 3)))⟩
 (.seq ⟨some 13, none, (.ofA (.faddr 0 (.tmp 5)))⟩
 (.seq ⟨some 14, none, (.ofA (.load none (.tmp 13)))⟩
 (.seq ⟨some 15, none, (.ofA (.faddr 1 (.tmp 5)))⟩
 (.seq ⟨some 16, none, (.ofA (.load none (.tmp 15)))⟩
 (.seq ⟨some 17, none, (.build [(.v (.int .i64 0)), (.v (.int .i64 0))] [(0, 1, (.tmp 14)), (1, 1, (.tmp 16))])⟩
 (.seq ⟨some 18, none, (.buildSl 2 1 [(.v (.int .i64 0)), (.v (.int .i64 0))] [(0, 2, (.tmp 17))])⟩
 (.seq ⟨some 19, none, (.app 2 16 (.tmp 12) (.tmp 18))⟩
 (.seq ⟨some 3, none, (.ofA (.mv (.tmp 19)))⟩
 .done))))))))))))
 (.tree (.seq ⟨some 20, none, (.ofA (.bin .add (.tmp 8) (.cst (.v (.int .i64 1)))))⟩
 (.seq ⟨some 8, none, (.ofA (.mv (.tmp 20)))⟩
 .done)))))))))
 (.seq (.tree (.seq ⟨some 21, none, (.ofA (.mv (.tmp 3)))⟩
 (.seq ⟨some 2, none, (.ofA (.mv (.tmp 21)))⟩
 .done)))
 .ret))))
def r34 : List XR := [.tmp 2]
theorem fn34 : FnX Try.prog 34 [82, 68, 97, 118] 22 x34 r34 := ⟨_, Try.func34, by kernel_rfl, by kernel_rfl, by kernel_rfl, by kernel_rfl⟩
-- almshouse/almshouseref41.Sum (3 parameters)
def x37 : XC := (.seq (.tree (.seq ⟨some 6, none, (.ofA (.mv (.cst (.v (.int .i64 0)))))⟩
 .done))
 (.seq (.tree (.seq ⟨some 7, none, (.ofA (.mv (.cst (.v (.int .i64 0)))))⟩
 .done))
 (.seq (.seq (.tree (.seq ⟨some 10, none, (.ofA (.mv (.tmp 1)))⟩
 (.seq ⟨some 11, none, (.ofA (.len (.tmp 10)))⟩
 (.seq ⟨some 12, none, (.ofA (.mv (.cst (.v (.int .i64 0)))))⟩
 .done))))
 (.block 0 (.loop (.seq (.tree (.seq ⟨some 13, none, (.ofA (.bin .lss (.tmp 12) (.tmp 11)))⟩
 .done))
 (.seq (.cond (.tmp 13)
 .skip
 (.exit 0))
 (.seq (.block 1 (.seq (.tree (.seq ⟨some 14, none, (.ofA (.isl 1 (.tmp 10) (.tmp 12)))⟩
 (.seq ⟨some 15, none, (.ofA (.load none (.tmp 14)))⟩
 (.seq ⟨some 9, none, (.ofA (.mv (.tmp 15)))⟩
 .done))))
 (.tree (.seq ⟨some 16, none, (.ofA (.mv (.tmp 7)))⟩
 (.seq ⟨some 17, none, (.ofA (.mv (.tmp 0)))⟩
 (.seq ⟨some 18, none, (.ofA (.mv (.tmp 9)))⟩
 (.seq ⟨some 19, none, (.ofA (.isl 2 (.tmp 17) (.tmp 18)))⟩
 (.seq ⟨some 20, none, (.ofA (.load (some 2) (.tmp 19)))⟩
 (.seq ⟨some 21, none, (.ofA (.mv (.tmp 2)))⟩
 (.seq ⟨some 22, none, (.call (.cst (.fn 70 [])) [(.tmp 20), (.tmp 21)])⟩
 (.seq ⟨some 23, none, (.ofA (.bin .add (.tmp 16) (.tmp 22)))⟩
 (.seq ⟨some 7, none, (.ofA (.mv (.tmp 23)))⟩
 .done))))))))))))
 (.tree (.seq ⟨some 24, none, (.ofA (.bin .add (.tmp 12) (.cst (.v (.int .i64 1)))))⟩
 (.seq ⟨some 12, none, (.ofA (.mv (.tmp 24)))⟩
 .done)))))))))
 (.seq (.tree (.seq ⟨some 25, none, (.ofA (.mv (.tmp 7)))⟩
 (.seq ⟨some 6, none, (.ofA (.mv (.tmp 25)))⟩
 .done)))
 .ret))))
def r37 : List XR := [.tmp 6]
theorem fn37 : FnX Try.prog 37 [82, 68, 97, 118] 26 x37 r37 := ⟨_, Try.func37, by kernel_rfl, by kernel_rfl, by kernel_rfl, by kernel_rfl⟩
-- almshouse/quota.numbers (1 parameters)
def x67 : XC := (.seq (.tree (.seq ⟨some 2, none, (.ofA (.mv (.cst (.v (.slice none 0 0)))))⟩
 .done))
 (.seq (.tree (.seq ⟨some 5, none, (.ofA (.mv (.tmp 0)))⟩
 (.seq ⟨some 6, none, (.ofA (.len (.tmp 5)))⟩
 (.seq ⟨some 7, none, (.mkSl 1 8 [(.v (.int .i64 0))] (.tmp 6) (.tmp 6))⟩
 (.seq ⟨some 3, none, (.ofA (.mv (.tmp 7)))⟩
 .done)))))
 (.seq (.seq (.tree (.seq ⟨some 8, none, (.ofA (.mv (.tmp 3)))⟩
 (.seq ⟨some 9, none, (.ofA (.len (.tmp 8)))⟩
 (.seq ⟨some 10, none, (.ofA (.mv (.cst (.v (.int .i64 0)))))⟩
 .done))))
 (.block 0 (.loop (.seq (.tree (.seq ⟨some 11, none, (.ofA (.bin .lss (.tmp 10) (.tmp 9)))⟩
 .done))
 (.seq (.cond (.tmp 11)
 .skip
 (.exit 0))
 (.seq (.block 1 (.seq (.tree (.seq ⟨some 12, none, (.ofA (.mv (.tmp 10)))⟩
 (.seq ⟨some 4, none, (.ofA (.mv (.tmp 12)))⟩
 .done)))
 (.tree (.seq ⟨some 13, none, (.ofA (.mv (.tmp 3)))⟩
 (.seq ⟨some 14, none, (.ofA (.mv (.tmp 4)))⟩
 (.seq ⟨some 15, none, (.ofA (.mv (.tmp 4)))⟩
 (.seq ⟨some 16, none, (.ofA (.isl 1 (.tmp 13) (.tmp 14)))⟩
 (.seq ⟨none, none, (.store 1 (.tmp 16) (.tmp 15))⟩
 .done))))))))
 (.tree (.seq ⟨some 17, none, (.ofA (.bin .add (.tmp 10) (.cst (.v (.int .i64 1)))))⟩
 (.seq ⟨some 10, none, (.ofA (.mv (.tmp 17)))⟩
 .done)))))))))
 (.seq (.tree (.seq ⟨some 18, none, (.ofA (.mv (.tmp 3)))⟩
 (.seq ⟨some 2, none, (.ofA (.mv (.tmp 18)))⟩
 .done)))
 .ret))))
def r67 : List XR := [.tmp 2]
theorem fn67 : FnX Try.prog 67 [82, 68, 97, 118] 19 x67 r67 := ⟨_, Try.func67, by kernel_rfl, by kernel_rfl, by kernel_rfl, by kernel_rfl⟩
def c34 [Inp] : Trans := fun args m k => ∃ (s : SV) (l : List Ra.Rg), args = [s] ∧ rdG m s = some l ∧ l.length ≤ 100000 ∧ k (rS m.length 2 l.length) (m ++ rM (vL gV l))
theorem c34_ok [I : Inp] : Contract Try.prog 34 true c34 := by
  refine .readF3 fn34 (G := fun J => []) (fun J => @g0 J _) _ fun args m k h => ?_
  obtain ⟨s, l, rfl, hl, hmax, hk⟩ := h
  refine ⟨by simp, fun J hJ us hus => ?_⟩
  obtain ⟨u, t1, rfl, hu1, rfl⟩ := hus
  obtain ⟨p, cc, rfl, hin⟩ := rdG_knows hl hu1
  rw [List.map_cons, List.map_nil, of_sl]
  simp (maxSteps := 2000000) -implicitDefEqProofs only [↓x34, ↓r34, s_alt, s_alt20, s_alt2t, s_alt2f, ↓s_loopi, ↓v_pq, ↓PRE, POST, CORE, Nat.reduceDiv, Nat.reduceMod, Int.reduceLT, Int.reduceLE, Int.reduceToNat, Int.reduceAdd, ↓reduceIte, Nat.reduceEqDiff, Nat.reduceAdd, Nat.reduceMul, Nat.reduceSub, Nat.reduceLeDiff, Nat.reduceLT, reduceCtorEq, if_true, eq_self, forall_const, implies_true]
  refine TXi_of (TX_count (@g0 J _) l.length (fun x => [(3, rS 0 2 x), (6, .v (.slice p l.length cc)), (7, .v (.int .i64 (l.length : Int))), (8, .v (.int .i64 (x : Int)))]) (fun x => rM (vL gV (l.take x))) (fun _ => True) trivial ?_ ?_ ?_)
  · rw [List.take_zero, rS_0, vL_nil, rM_0]
    exact (by refine ⟨[], by simp [NdL, NdA, oO_cells, oO_own, iL_nil], ?_, ?_, keep0 hJ⟩ <;> simp only [FitM, FitE, ObLe, LeL, Le, List.cons_append, List.nil_append] <;> (try (simp (maxSteps := 2000000) -implicitDefEqProofs only [s_alt, s_alt20, s_alt2t, s_alt2f, ↓s_loopi, ↓v_pq, ↓PRE, POST, CORE, Nat.reduceDiv, Nat.reduceMod, Int.reduceLT, Int.reduceLE, Int.reduceToNat, Int.reduceAdd, ↓reduceIte, Nat.reduceEqDiff, Nat.reduceAdd, Nat.reduceMul, Nat.reduceSub, Nat.reduceLeDiff, Nat.reduceLT, reduceCtorEq, if_true, eq_self, forall_const, implies_true])) <;> (try simp only [Sz.Le, Sz.LeL, List.getElem?_cons_zero, List.getElem?_cons_succ]) <;> (try simp))
  · intro x hx _
    obtain ⟨r, hr⟩ : ∃ r, l[x]? = some r := ⟨_, List.getElem?_eq_getElem hx⟩
    have hp : p.isSome = true := inpL_isSome hin (by omega)
    have f : inpL (plusA p (x * 2)) 2 = some [.int .i64 r.fr, .int .i64 r.to] := inp_item gV_len hin rfl hr
    have i0 : (0 : Int) ≤ (x : Int) := by omega
    have i1 : (x : Int) < (l.length : Int) := by omega
    have w1 : IntKind.i64.wrap ((x : Int) + 1) = (x : Int) + 1 := Sz.w_64 (by omega) (by omega)
    rw [take_snoc hr, rS_s]
    have hV : vL gV (l.take x ++ [r]) = vL gV (l.take x) ++ [.v (.int .i64 r.fr), .v (.int .i64 r.to)] := by rw [← vL_app]; rfl
    have hlt : (l.take x).length = x := by rw [List.length_take]; omega
    generalize l.take x = L at hV hlt ⊢
    cases L with
    | nil =>
      have hx0 : x = 0 := by rw [← hlt]; rfl
      rw [hV, vL_nil, List.nil_append, rM_s, show rS 0 2 x = .v (.slice none 0 0) by rw [hx0]; rfl, rM_0]
      simp (maxSteps := 2000000) -implicitDefEqProofs only [i0, i1, w1, hp, f, inp00, Option.map_some, List.map_nil, s_alt, s_alt20, s_alt2t, s_alt2f, ↓s_loopi, ↓v_pq, ↓PRE, POST, CORE, Nat.reduceDiv, Nat.reduceMod, Int.reduceLT, Int.reduceLE, Int.reduceToNat, Int.reduceAdd, ↓reduceIte, Nat.reduceEqDiff, Nat.reduceAdd, Nat.reduceMul, Nat.reduceSub, Nat.reduceLeDiff, Nat.reduceLT, reduceCtorEq, if_true, eq_self, forall_const, implies_true]
      exact ⟨by unfold maxLen; omega, (by refine ⟨[2], by simp [NdL, NdA, oO_cells, oO_own, iL_nil], ?_, ?_, keep0 hJ⟩ <;> simp only [FitM, FitE, ObLe, LeL, Le, List.cons_append, List.nil_append] <;> (try (simp (maxSteps := 2000000) -implicitDefEqProofs only [List.length_nil, hx0, Nat.zero_add, s_alt, s_alt20, s_alt2t, s_alt2f, ↓s_loopi, ↓v_pq, ↓PRE, POST, CORE, Nat.reduceDiv, Nat.reduceMod, Int.reduceLT, Int.reduceLE, Int.reduceToNat, Int.reduceAdd, ↓reduceIte, Nat.reduceEqDiff, Nat.reduceAdd, Nat.reduceMul, Nat.reduceSub, Nat.reduceLeDiff, Nat.reduceLT, reduceCtorEq, if_true, eq_self, forall_const, implies_true])) <;> (try simp only [Sz.Le, Sz.LeL, List.getElem?_cons_zero, List.getElem?_cons_succ]) <;> (try simp))⟩
    | cons e L =>
      have hel : (vL gV (e :: L)).length = x * 2 := by rw [g_len, hlt]
      have hle : ∀ g, LeL g (vL gV (e :: L) ++ [.v (.int .i64 r.fr), .v (.int .i64 r.to)]) (vL gV (e :: L) ++ [.v (.int .i64 r.fr), .v (.int .i64 r.to)]) = True := fun g => by rw [← hV]; exact vL_le
      have hne : vL gV (e :: L) ≠ [] := by simp [vL, rowV, gV]
      have hx0 : x ≠ 0 := by rw [← hlt]; simp
      rw [hV, rS_ne hx0]
      clear hV
      generalize vL gV (e :: L) = C at hel hle hne ⊢
      have h1 : rM C = [⟨true, C⟩] := if_neg hne
      have h2 : ∀ X, rM (C ++ X) = [⟨true, C ++ X⟩] := fun X => if_neg (by simp [hne])
      have h3 : C.take (x * 2) = C := List.take_of_length_le (by omega)
      have h4 : x + 1 ≤ maxLen := by unfold maxLen; omega
      have h5 : (x + 1) * 16 ≤ 140737488355328 := by omega
      rw [h1, h2]
      simp (maxSteps := 2000000) -implicitDefEqProofs only [i0, i1, w1, hp, f, inp00, Option.map_some, List.map_nil, hel, h3, h4, h5, Nat.le_refl, s_alt, s_alt20, s_alt2t, s_alt2f, ↓s_loopi, ↓v_pq, ↓PRE, POST, CORE, Nat.reduceDiv, Nat.reduceMod, Int.reduceLT, Int.reduceLE, Int.reduceToNat, Int.reduceAdd, ↓reduceIte, Nat.reduceEqDiff, Nat.reduceAdd, Nat.reduceMul, Nat.reduceSub, Nat.reduceLeDiff, Nat.reduceLT, reduceCtorEq, if_true, eq_self, forall_const, implies_true]
      exact (by refine ⟨[3], by simp [NdL, NdA, oO_cells, oO_own, iL_nil], ?_, ?_, keep0 hJ⟩ <;> simp only [FitM, FitE, ObLe, LeL, Le, List.cons_append, List.nil_append] <;> (try (simp (maxSteps := 2000000) -implicitDefEqProofs only [hle, s_alt, s_alt20, s_alt2t, s_alt2f, ↓s_loopi, ↓v_pq, ↓PRE, POST, CORE, Nat.reduceDiv, Nat.reduceMod, Int.reduceLT, Int.reduceLE, Int.reduceToNat, Int.reduceAdd, ↓reduceIte, Nat.reduceEqDiff, Nat.reduceAdd, Nat.reduceMul, Nat.reduceSub, Nat.reduceLeDiff, Nat.reduceLT, reduceCtorEq, if_true, eq_self, forall_const, implies_true])) <;> (try simp only [Sz.Le, Sz.LeL, List.getElem?_cons_zero, List.getElem?_cons_succ]) <;> (try simp))
  · intro _
    have j0 : ¬ (l.length : Int) < (l.length : Int) := by omega
    rw [List.take_length]
    simp (maxSteps := 2000000) -implicitDefEqProofs only [j0, s_alt, s_alt20, s_alt2t, s_alt2f, ↓s_loopi, ↓v_pq, ↓PRE, POST, CORE, Nat.reduceDiv, Nat.reduceMod, Int.reduceLT, Int.reduceLE, Int.reduceToNat, Int.reduceAdd, ↓reduceIte, Nat.reduceEqDiff, Nat.reduceAdd, Nat.reduceMul, Nat.reduceSub, Nat.reduceLeDiff, Nat.reduceLT, reduceCtorEq, if_true, eq_self, forall_const, implies_true]
    exact fin_row gV_len (by omega) _ _ _ 0 (fun h => by rw [h]; rfl) (fun h => ⟨rS_ne (fun e => h (List.length_eq_zero_iff.1 e)), rM_at gV_len (by omega) h⟩) hk
theorem inpI_at' [Inp] {p : Option Addr} {xs : List Int} {i : Nat} {z : Int} (h : inpL p xs.length = some (xs.map (Value.int .i64))) (hx : xs[i]? = some z) : inpL (plusA p i) 1 = some [.int .i64 z] := by
  have h' : inpL p (xs.length * 1) = some (rowV (fun z : Int => [Value.int .i64 z]) xs) := by
    rw [Nat.mul_one, h]
    congr 1
    unfold rowV
    clear h hx
    induction xs with
    | nil => rfl
    | cons x xs ih => simp only [List.map_cons, List.flatMap_cons, List.singleton_append, ih]
  have := inp_item (cs := fun z : Int => [Value.int .i64 z]) (fun _ => rfl) h' rfl hx
  rwa [Nat.mul_one] at this
def cA (l : List Ra.Rg) (n : Int) (i : Int) : Int := match l[i.toNat]? with | some r => totF r.fr r.to n | none => 0
theorem cA_bd (l : List Ra.Rg) (n i : Int) : 0 ≤ cA l n i ∧ cA l n i ≤ 74 := by
  unfold cA
  split
  · exact totF_bd _ _ _
  · omega
theorem cA_at {l : List Ra.Rg} {n i : Int} {r : Ra.Rg} (h : l[i.toNat]? = some r) : cA l n i = totF r.fr r.to n := by unfold cA; rw [h]
def sumC (l : List Ra.Rg) (n : Int) (ch : List Int) : Int := (ch.map (cA l n)).sum
theorem sumC_snoc (l : List Ra.Rg) (n : Int) (ch : List Int) (i : Int) : sumC l n (ch ++ [i]) = sumC l n ch + cA l n i := by simp [sumC]
theorem sumC_bd (l : List Ra.Rg) (n : Int) : ∀ ch, 0 ≤ sumC l n ch ∧ sumC l n ch ≤ 74 * ch.length
  | [] => by simp [sumC]
  | i :: ch => by
    have h1 := sumC_bd l n ch
    have h2 := cA_bd l n i
    have e : sumC l n (i :: ch) = cA l n i + sumC l n ch := by simp [sumC]
    rw [e, List.length_cons]
    omega
def idN (n : Nat) : List Int := (List.range n).map Int.ofNat
def numN (n x : Nat) : List Int := idN x ++ List.replicate (n - x) 0
theorem idN_len (n : Nat) : (idN n).length = n := by simp [idN]
theorem numN_len {n x : Nat} (h : x ≤ n) : (numN n x).length = n := by simp [numN, idN_len]; omega
theorem numN_0 (n : Nat) : numN n 0 = List.replicate n 0 := rfl
theorem numN_n (n : Nat) : numN n n = idN n := by simp [numN]
theorem numN_set {n x : Nat} (h : x < n) : (numN n x).set x (x : Int) = numN n (x + 1) := by
  unfold numN
  have e : List.replicate (n - x) (0 : Int) = 0 :: List.replicate (n - (x + 1)) 0 := by
    rw [← List.replicate_succ]; congr 1; omega
  rw [e, List.set_append_right _ _ (by rw [idN_len]; exact Nat.le_refl _), idN_len, Nat.sub_self, List.set_cons_zero]
  unfold idN
  rw [List.range_succ, List.map_append, List.append_assoc]
  rfl
theorem rep_iL (n : Nat) : (List.replicate n [SV.v (.int .i64 0)]).flatten = iL (List.replicate n 0) := by
  induction n with
  | zero => rfl
  | succ n ih => rw [List.replicate_succ, List.replicate_succ, List.flatten_cons, ih]; rfl
def c67 [Inp] : Trans := fun args m k => ∃ (s : SV) (l : List Ra.Rg), args = [s] ∧ rdG m s = some l ∧ l.length ≤ 100000 ∧ k (.row m.length 0 l.length 1) (m ++ [⟨true, iL (idN l.length)⟩])
theorem fin_i [Inp] {k : SV → Mem → Prop} {m : Mem} (L : List Int) (n : Nat) (m' : Mem) (j : Nat) (h2 : m'[j]? = some ⟨true, iL L⟩) (h3 : k (.row m.length 0 n 1) (m ++ [⟨true, iL L⟩])) :
    ∃ (g2 : List Nat) (s2 : SV) (m2 : Mem), NdL g2 m2 ∧ FitM g2 m' g2 m2 ∧ (∀ o ∈ m2, o.own = true ∨ (o.own = false ∧ o.cells = [])) ∧ Le g2 s2 (.row j 0 n 1) ∧ k (s2.up m.length) (m ++ m2.map (SObj.up m.length)) := by
  have hle : ∀ g, LeL g (iL L) (iL L) := fun g => by rw [iL_le]; trivial
  refine ⟨[j], .row 0 0 n 1, [⟨true, iL L⟩], by simp [NdL, NdA], by simp [FitM, ObLe, hle, h2], by simp, by simp only [Le]; rfl, ?_⟩
  have hu : upL m.length (iL L) = iL L := by rw [iL_eq]; exact upL_v _ _
  simpa [SV.up, SObj.up, hu] using h3
theorem c67_ok [I : Inp] : Contract Try.prog 67 true c67 := by
  refine .readF3 fn67 (G := fun J => []) (fun J => @g0 J _) _ fun args m k h => ?_
  obtain ⟨s, l, rfl, hl, hmax, hk⟩ := h
  refine ⟨by simp, fun J hJ us hus => ?_⟩
  obtain ⟨u, t1, rfl, hu1, rfl⟩ := hus
  obtain ⟨p, cc, rfl, hin⟩ := rdG_knows hl hu1
  rw [List.map_cons, List.map_nil, of_sl]
  have m0 : (0 : Int) ≤ (l.length : Int) := by omega
  have m2 : (8 : Int) * (l.length : Int) ≤ 281474976710656 := by omega
  have m3 : (l.length : Int) ≤ 9223372036854775807 := by omega
  generalize l.length = N at *
  have hmk : (((8 : Nat) : Int) * (N : Int) ≤ 281474976710656) := by omega
  simp (maxSteps := 2000000) -implicitDefEqProofs only [↓x67, ↓r67, m0, m2, m3, hmk, Int.le_refl, Int.toNat_natCast, rep_iL, true_and, s_alt, s_alt20, s_alt2t, s_alt2f, ↓s_loopi, ↓v_pq, ↓PRE, POST, CORE, Nat.reduceDiv, Nat.reduceMod, Int.reduceLT, Int.reduceLE, Int.reduceToNat, Int.reduceAdd, ↓reduceIte, Nat.reduceEqDiff, Nat.reduceAdd, Nat.reduceMul, Nat.reduceSub, Nat.reduceLeDiff, Nat.reduceLT, reduceCtorEq, if_true, eq_self, forall_const, implies_true]
  refine TXi_of (TX_count (@g0 J _) N (fun x => [(3, .row 0 0 N 1), (9, .v (.int .i64 (N : Int))), (10, .v (.int .i64 (x : Int)))]) (fun x => [⟨true, iL (numN N x)⟩]) (fun x => True) trivial ?_ ?_ ?_)
  · rw [numN_0]
    exact (by refine ⟨[0], by simp [NdL, NdA, oO_cells, oO_own, iL_nil], ?_, ?_, keep0 hJ⟩ <;> simp only [FitM, FitE, ObLe, LeL, Le, List.cons_append, List.nil_append] <;> (try (simp (maxSteps := 2000000) -implicitDefEqProofs only [iL_fold, iL_over, iL_all, iL_get, iL_len, iL_take, iL_drop, iL_one, iL_plain, iL_le, List.length_set, s_alt, s_alt20, s_alt2t, s_alt2f, ↓s_loopi, ↓v_pq, ↓PRE, POST, CORE, Nat.reduceDiv, Nat.reduceMod, Int.reduceLT, Int.reduceLE, Int.reduceToNat, Int.reduceAdd, ↓reduceIte, Nat.reduceEqDiff, Nat.reduceAdd, Nat.reduceMul, Nat.reduceSub, Nat.reduceLeDiff, Nat.reduceLT, reduceCtorEq, if_true, eq_self, forall_const, implies_true])) <;> (try simp only [Sz.Le, Sz.LeL, List.getElem?_cons_zero, List.getElem?_cons_succ]) <;> (try simp))
  · intro x hx _
    have i0 : (0 : Int) ≤ (x : Int) := by omega
    have i1 : (x : Int) < (N : Int) := by omega
    have w1 : IntKind.i64.wrap ((x : Int) + 1) = (x : Int) + 1 := Sz.w_64 (by omega) (by omega)
    have hl := numN_len (n := N) (x := x) (by omega)
    have hx' : x < (numN N x).length := by omega
    have hs := numN_set hx
    simp (maxSteps := 2000000) -implicitDefEqProofs only [i0, i1, w1, hl, hx, hx', hs, iL_fold, iL_over, iL_all, iL_get, iL_len, iL_take, iL_drop, iL_one, iL_plain, iL_le, List.length_set, s_alt, s_alt20, s_alt2t, s_alt2f, ↓s_loopi, ↓v_pq, ↓PRE, POST, CORE, Nat.reduceDiv, Nat.reduceMod, Int.reduceLT, Int.reduceLE, Int.reduceToNat, Int.reduceAdd, ↓reduceIte, Nat.reduceEqDiff, Nat.reduceAdd, Nat.reduceMul, Nat.reduceSub, Nat.reduceLeDiff, Nat.reduceLT, reduceCtorEq, if_true, eq_self, forall_const, implies_true]
    exact ⟨by omega, (by refine ⟨[0], by simp [NdL, NdA, oO_cells, oO_own, iL_nil], ?_, ?_, keep0 hJ⟩ <;> simp only [FitM, FitE, ObLe, LeL, Le, List.cons_append, List.nil_append] <;> (try (simp (maxSteps := 2000000) -implicitDefEqProofs only [iL_fold, iL_over, iL_all, iL_get, iL_len, iL_take, iL_drop, iL_one, iL_plain, iL_le, List.length_set, s_alt, s_alt20, s_alt2t, s_alt2f, ↓s_loopi, ↓v_pq, ↓PRE, POST, CORE, Nat.reduceDiv, Nat.reduceMod, Int.reduceLT, Int.reduceLE, Int.reduceToNat, Int.reduceAdd, ↓reduceIte, Nat.reduceEqDiff, Nat.reduceAdd, Nat.reduceMul, Nat.reduceSub, Nat.reduceLeDiff, Nat.reduceLT, reduceCtorEq, if_true, eq_self, forall_const, implies_true])) <;> (try simp only [Sz.Le, Sz.LeL, List.getElem?_cons_zero, List.getElem?_cons_succ]) <;> (try simp))⟩
  · intro _
    have j0 : ¬ (N : Int) < (N : Int) := by omega
    rw [numN_n]
    simp (maxSteps := 2000000) -implicitDefEqProofs only [j0, s_alt, s_alt20, s_alt2t, s_alt2f, ↓s_loopi, ↓v_pq, ↓PRE, POST, CORE, Nat.reduceDiv, Nat.reduceMod, Int.reduceLT, Int.reduceLE, Int.reduceToNat, Int.reduceAdd, ↓reduceIte, Nat.reduceEqDiff, Nat.reduceAdd, Nat.reduceMul, Nat.reduceSub, Nat.reduceLeDiff, Nat.reduceLT, reduceCtorEq, if_true, eq_self, forall_const, implies_true]
    exact fin_i _ _ _ 0 rfl hk
def c37 [Inp] : Trans := fun args m k => ∃ (s t : SV) (l : List Ra.Rg) (ch : List Int) (n : Int), args = [s, t, .v (.int .i64 n)] ∧ rdG m s = some l ∧ rdI m t = some ch ∧ l.length ≤ 1000 ∧ ch.length ≤ 1000 ∧ (∀ i ∈ ch, 0 ≤ i ∧ i < l.length) ∧ k (.v (.int .i64 (sumC l n ch))) m
theorem a70 [Inp] {a b n : Int} {m : Mem} {k : SV → Mem → Prop} : c70 [.agg [.v (.int .i64 a), .v (.int .i64 b)], .v (.int .i64 n)] m k = k (.v (.int .i64 (totF a b n))) m := rfl
theorem a62 [Inp] {a b n : Int} {m : Mem} {k : SV → Mem → Prop} : c62 [.agg [.v (.int .i64 a), .v (.int .i64 b)], .v (.int .i64 n)] m k = k (.v (.int .i64 (totF a b n))) m := rfl
theorem s70 [Inp] : GOk Try.prog [⟨70, true, c70⟩] := GOk.cons c70_ok (g0 _)
theorem c37_ok [I : Inp] : Contract Try.prog 37 true c37 := by
  refine .read fn37 (G := fun J => [⟨70, true, @c70 J⟩]) (fun J => @s70 J) _ fun args m k h => ?_
  obtain ⟨s, t, l, ch, n, rfl, hl, hc, hmax, hcm, hr, hk⟩ := h
  refine ⟨by simp, fun J hJ us hus => ?_⟩
  obtain ⟨u, t1, rfl, hu1, u2, t2, rfl, hu2, u3, t3, rfl, hu3, rfl⟩ := hus
  obtain rfl := hu3.1 _ rfl
  obtain ⟨p, cc, rfl, hin⟩ := rdG_knows hl hu1
  obtain ⟨q, cq, rfl, hiq⟩ := rdI_knows hc hu2
  rw [List.map_cons, List.map_cons, List.map_cons, List.map_nil, of_sl, of_sl, of_int]
  simp (maxSteps := 2000000) -implicitDefEqProofs only [↓x37, ↓r37, s_alt, s_alt20, s_alt2t, s_alt2f, ↓s_loopi, ↓v_pq, ↓PRE, POST, CORE, Nat.reduceDiv, Nat.reduceMod, Int.reduceLT, Int.reduceLE, Int.reduceToNat, Int.reduceAdd, ↓reduceIte, Nat.reduceEqDiff, Nat.reduceAdd, Nat.reduceMul, Nat.reduceSub, Nat.reduceLeDiff, Nat.reduceLT, reduceCtorEq, if_true, eq_self, forall_const, implies_true]
  refine TXi_of (TX_count (@s70 J) ch.length (fun x => [(0, .v (.slice p l.length cc)), (2, .v (.int .i64 n)), (7, .v (.int .i64 (sumC l n (ch.take x)))), (10, .v (.slice q ch.length cq)), (11, .v (.int .i64 (ch.length : Int))), (12, .v (.int .i64 (x : Int)))]) (fun x => []) (fun x => True) trivial ?_ ?_ ?_)
  · have e0 : sumC l n (ch.take 0) = 0 := rfl
    rw [e0]
    exact (by refine ⟨[], by simp [NdL, NdA, oO_cells, oO_own, iL_nil], ?_, ?_, keep0 hJ⟩ <;> simp only [FitM, FitE, ObLe, LeL, Le, List.cons_append, List.nil_append] <;> (try (simp (maxSteps := 2000000) -implicitDefEqProofs only [s_alt, s_alt20, s_alt2t, s_alt2f, ↓s_loopi, ↓v_pq, ↓PRE, POST, CORE, Nat.reduceDiv, Nat.reduceMod, Int.reduceLT, Int.reduceLE, Int.reduceToNat, Int.reduceAdd, ↓reduceIte, Nat.reduceEqDiff, Nat.reduceAdd, Nat.reduceMul, Nat.reduceSub, Nat.reduceLeDiff, Nat.reduceLT, reduceCtorEq, if_true, eq_self, forall_const, implies_true])) <;> (try simp only [Sz.Le, Sz.LeL, List.getElem?_cons_zero, List.getElem?_cons_succ]) <;> (try simp))
  · intro x hx _
    obtain ⟨i, hi⟩ : ∃ i, ch[x]? = some i := ⟨_, List.getElem?_eq_getElem hx⟩
    have hib := hr i (List.mem_of_getElem? hi)
    obtain ⟨r, hrr⟩ : ∃ r, l[i.toNat]? = some r := ⟨_, List.getElem?_eq_getElem (by omega)⟩
    have hq : q.isSome = true := inpL_isSome hiq (by omega)
    have hp : p.isSome = true := inpL_isSome hin (by omega)
    have f1 : inpL (plusA q x) 1 = some [.int .i64 i] := inpI_at' hiq hi
    have f : inpL (plusA p (i.toNat * 2)) 2 = some [.int .i64 r.fr, .int .i64 r.to] := inp_item gV_len hin rfl hrr
    have i0 : (0 : Int) ≤ (x : Int) := by omega
    have i1 : (x : Int) < (ch.length : Int) := by omega
    have j0 : 0 ≤ i := hib.1
    have j1 : i < (l.length : Int) := hib.2
    have w1 : IntKind.i64.wrap ((x : Int) + 1) = (x : Int) + 1 := Sz.w_64 (by omega) (by omega)
    have hb := sumC_bd l n (ch.take x)
    have hb2 := totF_bd r.fr r.to n
    have hb3 : (ch.take x).length ≤ 1000 := by rw [List.length_take]; omega
    have w2 : IntKind.i64.wrap (sumC l n (ch.take x) + totF r.fr r.to n) = sumC l n (ch.take x) + totF r.fr r.to n := Sz.w_64 (by omega) (by omega)
    have hs : sumC l n (ch.take (x + 1)) = sumC l n (ch.take x) + totF r.fr r.to n := by rw [take_snoc hi, sumC_snoc, cA_at hrr]
    rw [hs]
    simp (maxSteps := 2000000) -implicitDefEqProofs only [↓a70, i0, i1, j0, j1, hq, hp, f1, f, w1, w2, s_alt, s_alt20, s_alt2t, s_alt2f, ↓s_loopi, ↓v_pq, ↓PRE, POST, CORE, Nat.reduceDiv, Nat.reduceMod, Int.reduceLT, Int.reduceLE, Int.reduceToNat, Int.reduceAdd, ↓reduceIte, Nat.reduceEqDiff, Nat.reduceAdd, Nat.reduceMul, Nat.reduceSub, Nat.reduceLeDiff, Nat.reduceLT, reduceCtorEq, if_true, eq_self, forall_const, implies_true]
    exact (by refine ⟨[], by simp [NdL, NdA, oO_cells, oO_own, iL_nil], ?_, ?_, keep0 hJ⟩ <;> simp only [FitM, FitE, ObLe, LeL, Le, List.cons_append, List.nil_append] <;> (try (simp (maxSteps := 2000000) -implicitDefEqProofs only [s_alt, s_alt20, s_alt2t, s_alt2f, ↓s_loopi, ↓v_pq, ↓PRE, POST, CORE, Nat.reduceDiv, Nat.reduceMod, Int.reduceLT, Int.reduceLE, Int.reduceToNat, Int.reduceAdd, ↓reduceIte, Nat.reduceEqDiff, Nat.reduceAdd, Nat.reduceMul, Nat.reduceSub, Nat.reduceLeDiff, Nat.reduceLT, reduceCtorEq, if_true, eq_self, forall_const, implies_true])) <;> (try simp only [Sz.Le, Sz.LeL, List.getElem?_cons_zero, List.getElem?_cons_succ]) <;> (try simp))
  · intro _
    have j0 : ¬ (ch.length : Int) < (ch.length : Int) := by omega
    rw [List.take_length]
    simp (maxSteps := 2000000) -implicitDefEqProofs only [j0, s_alt, s_alt20, s_alt2t, s_alt2f, ↓s_loopi, ↓v_pq, ↓PRE, POST, CORE, Nat.reduceDiv, Nat.reduceMod, Int.reduceLT, Int.reduceLE, Int.reduceToNat, Int.reduceAdd, ↓reduceIte, Nat.reduceEqDiff, Nat.reduceAdd, Nat.reduceMul, Nat.reduceSub, Nat.reduceLeDiff, Nat.reduceLT, reduceCtorEq, if_true, eq_self, forall_const, implies_true]
    exact hk
end Qu
end Go.Proofs.Ytcejgadbpahbmaa
end
section
namespace Go.Proofs
open Go.Shelf
def Try.lays189_ren : Go.Shelf.Ren := ⟨fun | 189 => 82 | 125 => 107 | 257 => 108 | 128 => 132 | 129 => 133 | 294 => 134 | 295 => 135 | 296 => 136 | 297 => 137 | 298 => 138 | 299 => 139 | 216 => 140 | 300 => 141 | 301 => 142 | 328 => 158 | 329 => 154 | 330 => 155 | 331 => 159 | 332 => 160 | 215 => 85 | 343 => 167 | n => n, fun | 28 => 57 | 3 => 3 | 46 => 104 | 0 => 0 | 51 => 159 | 53 => 161 | 4 => 4 | 183 => 168 | 182 => 167 | 131 => 172 | 5 => 5 | 9 => 9 | 218 => 185 | 222 => 189 | 228 => 195 | 229 => 196 | n => n, fun | n => n⟩
theorem Try.lays189 : Go.Proofs.Lays.n189 Try.prog Try.lays189_ren := {
  mixed := by kernel_rfl
  f125 := Try.func107.trans (congrArg some (by kernel_rfl))
  f128 := Try.func132.trans (congrArg some (by kernel_rfl))
  f129 := Try.func133.trans (congrArg some (by kernel_rfl))
  f189 := Try.func82.trans (congrArg some (by kernel_rfl))
  f215 := Try.func85.trans (congrArg some (by kernel_rfl))
  f216 := Try.func140.trans (congrArg some (by kernel_rfl))
  f257 := Try.func108.trans (congrArg some (by kernel_rfl))
  f294 := Try.func134.trans (congrArg some (by kernel_rfl))
  f295 := Try.func135.trans (congrArg some (by kernel_rfl))
  f296 := Try.func136.trans (congrArg some (by kernel_rfl))
  f297 := Try.func137.trans (congrArg some (by kernel_rfl))
  f298 := Try.func138.trans (congrArg some (by kernel_rfl))
  f299 := Try.func139.trans (congrArg some (by kernel_rfl))
  f300 := Try.func141.trans (congrArg some (by kernel_rfl))
  f301 := Try.func142.trans (congrArg some (by kernel_rfl))
  f328 := Try.func158.trans (congrArg some (by kernel_rfl))
  f329 := Try.func154.trans (congrArg some (by kernel_rfl))
  f330 := Try.func155.trans (congrArg some (by kernel_rfl))
  f331 := Try.func159.trans (congrArg some (by kernel_rfl))
  f332 := Try.func160.trans (congrArg some (by kernel_rfl))
  f343 := Try.func167.trans (congrArg some (by kernel_rfl))
  t0 := Try.underlying0
  a0 := Try.isAgg0
  z0 := Try.sizeOf0
  v0 := Try.zeroValue0
  t3 := Try.underlying3
  a3 := Try.isAgg3
  z3 := Try.sizeOf3
  v3 := Try.zeroValue3
  t4 := Try.underlying4
  a4 := Try.isAgg4
  z4 := Try.sizeOf4
  v4 := Try.zeroValue4
  t5 := Try.underlying5
  a5 := Try.isAgg5
  z5 := Try.sizeOf5
  v5 := Try.zeroValue5
  t9 := Try.underlying9
  a9 := Try.isAgg9
  z9 := Try.sizeOf9
  v9 := Try.zeroValue9
  t28 := Try.underlying57
  a28 := Try.isAgg57
  z28 := Try.sizeOf57
  v28 := Try.zeroValue57
  t46 := Try.underlying104
  a46 := Try.isAgg104
  z46 := Try.sizeOf104
  v46 := Try.zeroValue104
  t51 := Try.underlying159
  a51 := Try.isAgg159
  z51 := Try.sizeOf159
  v51 := Try.zeroValue159
  t53 := Try.underlying161
  a53 := Try.isAgg161
  z53 := Try.sizeOf161
  v53 := Try.zeroValue161
  t131 := Try.underlying172
  a131 := Try.isAgg172
  z131 := Try.sizeOf172
  v131 := Try.zeroValue172
  t182 := Try.underlying167
  a182 := Try.isAgg167
  z182 := Try.sizeOf167
  v182 := Try.zeroValue167
  t183 := Try.underlying168
  a183 := Try.isAgg168
  z183 := Try.sizeOf168
  v183 := Try.zeroValue168
  t218 := Try.underlying185
  a218 := Try.isAgg185
  z218 := Try.sizeOf185
  v218 := Try.zeroValue185
  t222 := Try.underlying189
  a222 := Try.isAgg189
  z222 := Try.sizeOf189
  v222 := Try.zeroValue189
  t228 := Try.underlying195
  a228 := Try.isAgg195
  z228 := Try.sizeOf195
  v228 := Try.zeroValue195
  t229 := Try.underlying196
  a229 := Try.isAgg196
  z229 := Try.sizeOf196
  v229 := Try.zeroValue196 }
open Go.Sort Go.RowKit in
theorem Try.slices_Sort_int (blk off cap : Nat) (zs : List Int) (w : World) (hH : Holds (Value.int .i64) w blk off zs.toArray) (hblk : blk < w.heap.size) (hsz : zs.length < 4611686018427387904) :
    Calls Try.prog 82 #[.slice (some ⟨blk, off, none⟩) zs.length cap] w fun e w' =>
      e = .returned (.tuple #[]) ∧ ∃ n os, w' = grow (putRow (Value.int .i64) (Sort.ahead w n) blk off (zs.mergeSort fun x y => decide (x ≤ y)).toArray) os := Any.slices_Sort_int Try.lays189 blk off cap zs w hH hblk hsz
open Go.RowKit Go.Sort in
theorem Try.slices_Sort_int_none (p : Option Addr) (cap : Nat) (w : World) :
    Calls Try.prog 82 #[.slice p 0 cap] w fun e w' => e = .returned (.tuple #[]) ∧ w' = w := Any.slices_Sort_int_none Try.lays189 p cap w
end Go.Proofs
end
section
namespace Go.Proofs.Ytcejgadbpahbmaa
open Go.RowKit Sz
namespace Qu
def srt (zs : List Int) : List Int := zs.mergeSort fun x y => decide (x ≤ y)
theorem srt_len (zs : List Int) : (srt zs).length = zs.length := List.length_mergeSort zs
theorem c82_ok [Inp] : Contract Try.prog 82 false (sortT srt) :=
  sort_native ⟨_, Try.func82, by kernel_rfl, by kernel_rfl⟩ srt_len (fun blk off cap zs w h1 h2 h3 => Go.Proofs.Try.slices_Sort_int blk off cap zs w h1 h2 h3) fun p cap w => Go.Proofs.Any.slices_Sort_int_none Go.Proofs.Try.lays189 p cap w
end Qu
end Go.Proofs.Ytcejgadbpahbmaa
end
section
namespace Go.Proofs.Ytcejgadbpahbmaa
open Go.RowKit Sz
set_option maxHeartbeats 16000000
set_option maxRecDepth 20000
namespace Qu
open Rc
-- almshouse/quota.grant (4 parameters)
def x66 : XC := (.seq (.tree (.seq ⟨some 8, none, (.ofA (.mv (.cst (.v (.slice none 0 0)))))⟩
 .done))
 (.seq (.tree (.seq ⟨some 14, none, (.ofA (.mv (.tmp 2)))⟩
 (.seq ⟨some 15, none, (.ofA (.mx false (.tmp 14) [(.cst (.v (.int .i64 64)))]))⟩
 (.seq ⟨some 9, none, (.ofA (.mv (.tmp 15)))⟩
 .done))))
 (.seq (.tree (.seq ⟨some 10, none, (.ofA (.mv (.cst (.v (.slice none 0 0)))))⟩
 .done))
 (.seq (.seq (.tree (.seq ⟨some 16, none, (.ofA (.mv (.tmp 1)))⟩
 (.seq ⟨some 17, none, (.ofA (.len (.tmp 16)))⟩
 (.seq ⟨some 18, none, (.ofA (.mv (.cst (.v (.int .i64 0)))))⟩
 .done))))
 (.block 0 (.loop (.seq (.tree (.seq ⟨some 19, none, (.ofA (.bin .lss (.tmp 18) (.tmp 17)))⟩
 .done))
 (.seq (.cond (.tmp 19)
 .skip
 (.exit 0))
 (.seq (.block 1 (.seq (.tree (.seq ⟨some 20, none, (.ofA (.isl 1 (.tmp 16) (.tmp 18)))⟩
 (.seq ⟨some 21, none, (.ofA (.load none (.tmp 20)))⟩
 (.seq ⟨some 12, none, (.ofA (.mv (.tmp 21)))⟩
 .done))))
 (.seq (.tree (.seq ⟨some 22, none, (.ofA (.mv (.tmp 0)))⟩
 (.seq ⟨some 23, none, (.ofA (.mv (.tmp 12)))⟩
 (.seq ⟨some 24, none, (.ofA (.isl 2 (.tmp 22) (.tmp 23)))⟩
 (.seq ⟨some 25, none, (.ofA (.load (some 2) (.tmp 24)))⟩
 (.seq ⟨some 26, none, (.ofA (.mv (.tmp 3)))⟩
 (.seq ⟨some 27, none, (.call (.cst (.fn 62 [])) [(.tmp 25), (.tmp 26)])⟩
 (.seq ⟨some 13, none, (.ofA (.mv (.tmp 27)))⟩
 .done))))))))
 (.seq (.tree (.seq ⟨some 28, none, (.ofA (.mv (.tmp 13)))⟩
 (.seq ⟨some 29, none, (.ofA (.bin .gtr (.tmp 28) (.cst (.v (.int .i64 0)))))⟩
 (.seq ⟨some 30, none, (.ofA (.mv (.tmp 29)))⟩
 (.seq ⟨some 31, some (30, true), (.ofA (.mv (.tmp 13)))⟩
 (.seq ⟨some 32, some (30, true), (.ofA (.mv (.tmp 9)))⟩
 (.seq ⟨some 33, some (30, true), (.ofA (.bin .leq (.tmp 31) (.tmp 32)))⟩
 (.seq ⟨some 34, none, (.ofA (.pick (.tmp 30) (.tmp 33) (.cst (.v (.bool false)))))⟩
 .done))))))))
 (.cond (.tmp 34)
 (.seq (.tree (.seq ⟨some 35, none, (.ofA (.mv (.tmp 9)))⟩
 (.seq ⟨some 36, none, (.ofA (.mv (.tmp 13)))⟩
 (.seq ⟨some 37, none, (.ofA (.bin .sub (.tmp 35) (.tmp 36)))⟩
 (.seq ⟨some 9, none, (.ofA (.mv (.tmp 37)))⟩
 .done)))))
 (.tree (.seq ⟨some 38, none, (.ofA (.mv (.tmp 10)))⟩
 (.seq ⟨some 39, none, (.ofA (.mv (.tmp 12)))⟩
 (.seq ⟨some 40, none, (.buildSl 1 1 [(.v (.int .i64 0))] [(0, 1, (.tmp 39))])⟩
 (.seq ⟨some 41, none, (.app 1 8 (.tmp 38) (.tmp 40))⟩
 (.seq ⟨some 10, none, (.ofA (.mv (.tmp 41)))⟩
 .done)))))))
 .skip)))))
 (.tree (.seq ⟨some 42, none, (.ofA (.bin .add (.tmp 18) (.cst (.v (.int .i64 1)))))⟩
 (.seq ⟨some 18, none, (.ofA (.mv (.tmp 42)))⟩
 .done)))))))))
 (.seq (.tree (.seq ⟨some 43, none, (.ofA (.mv (.tmp 10)))⟩
 (.seq ⟨some 44, none, (.call (.cst (.fn 82 [])) [(.tmp 43)])⟩
 .done)))
 (.seq (.tree (.seq ⟨some 45, none, (.ofA (.mv (.tmp 10)))⟩
 (.seq ⟨some 8, none, (.ofA (.mv (.tmp 45)))⟩
 .done)))
 .ret))))))
def r66 : List XR := [.tmp 8]
theorem fn66 : FnX Try.prog 66 [82, 68, 97, 118] 46 x66 r66 := ⟨_, Try.func66, by kernel_rfl, by kernel_rfl, by kernel_rfl, by kernel_rfl⟩
-- almshouse/quota.First (3 parameters)
def x35 : XC := (.seq (.tree (.seq ⟨some 6, none, (.ofA (.mv (.cst (.v (.slice none 0 0)))))⟩
 .done))
 (.seq (.tree (.seq ⟨some 7, none, (.ofA (.mv (.tmp 0)))⟩
 (.seq ⟨some 8, none, (.ofA (.mv (.tmp 0)))⟩
 (.seq ⟨some 9, none, (.call (.cst (.fn 67 [])) [(.tmp 8)])⟩
 (.seq ⟨some 10, none, (.ofA (.mv (.tmp 1)))⟩
 (.seq ⟨some 11, none, (.ofA (.mv (.tmp 2)))⟩
 (.seq ⟨some 12, none, (.call (.cst (.fn 66 [])) [(.tmp 7), (.tmp 9), (.tmp 10), (.tmp 11)])⟩
 (.seq ⟨some 6, none, (.ofA (.mv (.tmp 12)))⟩
 .done))))))))
 .ret))
def r35 : List XR := [.tmp 6]
theorem fn35 : FnX Try.prog 35 [82, 68, 97, 118] 13 x35 r35 := ⟨_, Try.func35, by kernel_rfl, by kernel_rfl, by kernel_rfl, by kernel_rfl⟩
def grS (c : Int → Int) (st : Int × List Int) (i : Int) : Int × List Int := if 0 < c i ∧ c i ≤ st.1 then (st.1 - c i, st.2 ++ [i]) else st
def grF (c : Int → Int) (order : List Int) (left : Int) : Int × List Int := order.foldl (grS c) (left, [])
theorem grF_snoc (c : Int → Int) {order : List Int} {x : Nat} {i : Int} (h : order[x]? = some i) (left : Int) : grF c (order.take (x + 1)) left = grS c (grF c (order.take x) left) i := by
  unfold grF
  rw [take_snoc h, List.foldl_append]; rfl
theorem grF_len (c : Int → Int) (left : Int) : ∀ order : List Int, (grF c order left).2.length ≤ order.length := by
  have key : ∀ (order : List Int) (st : Int × List Int), (order.foldl (grS c) st).2.length ≤ st.2.length + order.length := by
    intro order
    induction order with
    | nil => intro st; simp
    | cons i order ih =>
      intro st
      rw [List.foldl_cons, List.length_cons]
      have := ih (grS c st i)
      have h2 : (grS c st i).2.length ≤ st.2.length + 1 := by unfold grS; split <;> simp
      omega
  intro order
  have := key order (left, [])
  simpa [grF] using this
theorem grF_le (c : Int → Int) (left : Int) (order : List Int) : (grF c order left).1 ≤ left := by
  have key : ∀ (order : List Int) (st : Int × List Int), (order.foldl (grS c) st).1 ≤ st.1 := by
    intro order
    induction order with
    | nil => intro st; simp
    | cons i order ih =>
      intro st
      rw [List.foldl_cons]
      have := ih (grS c st i)
      have h2 : (grS c st i).1 ≤ st.1 := by unfold grS; split <;> simp <;> omega
      omega
  exact key order (left, [])
def room (b : Int) : Int := if 64 < b then 64 else b
def grantF (l : List Ra.Rg) (order : List Int) (b n : Int) : List Int := srt (grF (cA l n) order (room b)).2
def c66 [Inp] : Trans := fun args m k => ∃ (s t : SV) (l : List Ra.Rg) (ch : List Int) (b n : Int), args = [s, t, .v (.int .i64 b), .v (.int .i64 n)] ∧ rdG m s = some l ∧ rdI m t = some ch ∧ l.length ≤ 1000 ∧ ch.length ≤ 1000 ∧ (∀ i ∈ ch, 0 ≤ i ∧ i < l.length) ∧ k (rS m.length 1 (grantF l ch b n).length) (m ++ rM (iL (grantF l ch b n)))
def G66 [Inp] : List CEntry := [⟨62, true, c62⟩, ⟨82, false, sortT srt⟩]
theorem s66 [Inp] : GOk Try.prog G66 := GOk.cons c62_ok (GOk.cons c82_ok (g0 _))
theorem c66_ok [I : Inp] : Contract Try.prog 66 true c66 := by
  refine .readF3 fn66 (G := fun J => @G66 J) (fun J => @s66 J) _ fun args m k h => ?_
  obtain ⟨s, t, l, ch, b, n, rfl, hl, hc, hmax, hcm, hr, hk⟩ := h
  refine ⟨by simp, fun J hJ us hus => ?_⟩
  obtain ⟨u, t1, rfl, hu1, u2, t2, rfl, hu2, u3, t3, rfl, hu3, u4, t4, rfl, hu4, rfl⟩ := hus
  obtain rfl := hu3.1 _ rfl
  obtain rfl := hu4.1 _ rfl
  obtain ⟨p, cc, rfl, hin⟩ := rdG_knows hl hu1
  obtain ⟨q, cq, rfl, hiq⟩ := rdI_knows hc hu2
  rw [List.map_cons, List.map_cons, List.map_cons, List.map_cons, List.map_nil, of_sl, of_sl, of_int, of_int]
  have hroom : (if (64 : Int) < b then (64 : Int) else b) = room b := rfl
  simp (maxSteps := 2000000) -implicitDefEqProofs only [↓x66, ↓r66, ↓G66, hroom, s_alt, s_alt20, s_alt2t, s_alt2f, ↓s_loopi, ↓v_pq, ↓PRE, POST, CORE, Nat.reduceDiv, Nat.reduceMod, Int.reduceLT, Int.reduceLE, Int.reduceToNat, Int.reduceAdd, ↓reduceIte, Nat.reduceEqDiff, Nat.reduceAdd, Nat.reduceMul, Nat.reduceSub, Nat.reduceLeDiff, Nat.reduceLT, reduceCtorEq, if_true, eq_self, forall_const, implies_true]
  have hr64 : room b ≤ 64 := by unfold room; split <;> omega
  unfold grantF at hk
  generalize room b = R at hr64 hk ⊢
  refine TXi_of (TX_count (@s66 J) ch.length (fun x => [(0, .v (.slice p l.length cc)), (3, .v (.int .i64 n)), (9, .v (.int .i64 (grF (cA l n) (ch.take x) R).1)), (10, rS 0 1 (grF (cA l n) (ch.take x) R).2.length), (16, .v (.slice q ch.length cq)), (17, .v (.int .i64 (ch.length : Int))), (18, .v (.int .i64 (x : Int)))]) (fun x => rM (iL (grF (cA l n) (ch.take x) R).2)) (fun x => True) trivial ?_ ?_ ?_)
  · have e0 : grF (cA l n) (ch.take 0) R = (R, []) := rfl
    rw [e0]
    simp only
    rw [List.length_nil, rS_0, iL_nil, rM_0]
    exact (by refine ⟨[], by simp [NdL, NdA, oO_cells, oO_own, iL_nil], ?_, ?_, keep0 hJ⟩ <;> simp only [FitM, FitE, ObLe, LeL, Le, List.cons_append, List.nil_append] <;> (try (simp (maxSteps := 2000000) -implicitDefEqProofs only [s_alt, s_alt20, s_alt2t, s_alt2f, ↓s_loopi, ↓v_pq, ↓PRE, POST, CORE, Nat.reduceDiv, Nat.reduceMod, Int.reduceLT, Int.reduceLE, Int.reduceToNat, Int.reduceAdd, ↓reduceIte, Nat.reduceEqDiff, Nat.reduceAdd, Nat.reduceMul, Nat.reduceSub, Nat.reduceLeDiff, Nat.reduceLT, reduceCtorEq, if_true, eq_self, forall_const, implies_true])) <;> (try simp only [Sz.Le, Sz.LeL, List.getElem?_cons_zero, List.getElem?_cons_succ]) <;> (try simp))
  · intro x hx _
    obtain ⟨i, hi⟩ : ∃ i, ch[x]? = some i := ⟨_, List.getElem?_eq_getElem hx⟩
    have hib := hr i (List.mem_of_getElem? hi)
    obtain ⟨r, hrr⟩ : ∃ r, l[i.toNat]? = some r := ⟨_, List.getElem?_eq_getElem (by omega)⟩
    have hq : q.isSome = true := inpL_isSome hiq (by omega)
    have hp : p.isSome = true := inpL_isSome hin (by omega)
    have f1 : inpL (plusA q x) 1 = some [.int .i64 i] := inpI_at' hiq hi
    have f : inpL (plusA p (i.toNat * 2)) 2 = some [.int .i64 r.fr, .int .i64 r.to] := inp_item gV_len hin rfl hrr
    have i0 : (0 : Int) ≤ (x : Int) := by omega
    have i1 : (x : Int) < (ch.length : Int) := by omega
    have j0 : 0 ≤ i := hib.1
    have j1 : i < (l.length : Int) := hib.2
    have w1 : IntKind.i64.wrap ((x : Int) + 1) = (x : Int) + 1 := Sz.w_64 (by omega) (by omega)
    have hb2 := totF_bd r.fr r.to n
    rw [grF_snoc _ hi]
    unfold grS
    rw [cA_at hrr]
    have hlen := grF_len (cA l n) R (ch.take x)
    rw [List.length_take] at hlen
    have hle := grF_le (cA l n) R (ch.take x)
    generalize grF (cA l n) (ch.take x) R = st at hlen hle ⊢
    obtain ⟨lf, out⟩ := st
    simp only at hlen hle ⊢
    generalize hcv : totF r.fr r.to n = cv at hb2 ⊢
    by_cases h1 : 0 < cv
    · by_cases h2 : cv ≤ lf
      · have w2 : IntKind.i64.wrap (lf - cv) = lf - cv := Sz.w_64 (by omega) (by omega)
        rw [if_pos ⟨h1, h2⟩]
        obtain ⟨e6, e7⟩ := ne_facts (L := out ++ [i]) (by simp)
        have hl1 : (out ++ [i]).length = out.length + 1 := by simp
        simp only
        rw [e6, e7, hl1]
        by_cases ho : out = []
        · subst ho
          rw [List.length_nil, rS_0, iL_nil, rM_0, List.nil_append]
          have e8 : iL [i] = [.v (.int .i64 i)] := rfl
          rw [e8]
          simp (maxSteps := 2000000) -implicitDefEqProofs only [↓G66, ↓a62, i0, i1, j0, j1, hq, hp, f1, f, w1, w2, hcv, gt_iff_lt, h1, h2, inp00, Option.map_some, List.map_nil, s_alt, s_alt20, s_alt2t, s_alt2f, ↓s_loopi, ↓v_pq, ↓PRE, POST, CORE, Nat.reduceDiv, Nat.reduceMod, Int.reduceLT, Int.reduceLE, Int.reduceToNat, Int.reduceAdd, ↓reduceIte, Nat.reduceEqDiff, Nat.reduceAdd, Nat.reduceMul, Nat.reduceSub, Nat.reduceLeDiff, Nat.reduceLT, reduceCtorEq, if_true, eq_self, forall_const, implies_true]
          exact ⟨by unfold maxLen; omega, (by refine ⟨[1], by simp [NdL, NdA, oO_cells, oO_own, iL_nil], ?_, ?_, keep0 hJ⟩ <;> simp only [FitM, FitE, ObLe, LeL, Le, List.cons_append, List.nil_append] <;> (try (simp (maxSteps := 2000000) -implicitDefEqProofs only [s_alt, s_alt20, s_alt2t, s_alt2f, ↓s_loopi, ↓v_pq, ↓PRE, POST, CORE, Nat.reduceDiv, Nat.reduceMod, Int.reduceLT, Int.reduceLE, Int.reduceToNat, Int.reduceAdd, ↓reduceIte, Nat.reduceEqDiff, Nat.reduceAdd, Nat.reduceMul, Nat.reduceSub, Nat.reduceLeDiff, Nat.reduceLT, reduceCtorEq, if_true, eq_self, forall_const, implies_true])) <;> (try simp only [Sz.Le, Sz.LeL, List.getElem?_cons_zero, List.getElem?_cons_succ]) <;> (try simp))⟩
        · obtain ⟨e8, e9⟩ := ne_facts ho
          have h5 : out.length + 1 ≤ maxLen := by unfold maxLen; omega
          have h6 : (out.length + 1) * 8 ≤ 140737488355328 := by omega
          rw [e8, e9]
          simp (maxSteps := 2000000) -implicitDefEqProofs only [↓G66, ↓a62, i0, i1, j0, j1, hq, hp, f1, f, w1, w2, hcv, gt_iff_lt, h1, h2, iL_fold, iL_over, iL_all, iL_get, iL_len, iL_take, iL_drop, iL_one, iL_plain, iL_le, List.length_set, Nat.mul_one, h5, h6, iL_snoc, List.take_length, s_alt, s_alt20, s_alt2t, s_alt2f, ↓s_loopi, ↓v_pq, ↓PRE, POST, CORE, Nat.reduceDiv, Nat.reduceMod, Int.reduceLT, Int.reduceLE, Int.reduceToNat, Int.reduceAdd, ↓reduceIte, Nat.reduceEqDiff, Nat.reduceAdd, Nat.reduceMul, Nat.reduceSub, Nat.reduceLeDiff, Nat.reduceLT, reduceCtorEq, if_true, eq_self, forall_const, implies_true]
          exact (by refine ⟨[2], by simp [NdL, NdA, oO_cells, oO_own, iL_nil], ?_, ?_, keep0 hJ⟩ <;> simp only [FitM, FitE, ObLe, LeL, Le, List.cons_append, List.nil_append] <;> (try (simp (maxSteps := 2000000) -implicitDefEqProofs only [iL_fold, iL_over, iL_all, iL_get, iL_len, iL_take, iL_drop, iL_one, iL_plain, iL_le, List.length_set, s_alt, s_alt20, s_alt2t, s_alt2f, ↓s_loopi, ↓v_pq, ↓PRE, POST, CORE, Nat.reduceDiv, Nat.reduceMod, Int.reduceLT, Int.reduceLE, Int.reduceToNat, Int.reduceAdd, ↓reduceIte, Nat.reduceEqDiff, Nat.reduceAdd, Nat.reduceMul, Nat.reduceSub, Nat.reduceLeDiff, Nat.reduceLT, reduceCtorEq, if_true, eq_self, forall_const, implies_true])) <;> (try simp only [Sz.Le, Sz.LeL, List.getElem?_cons_zero, List.getElem?_cons_succ]) <;> (try simp))
      · rw [if_neg (fun h => h2 h.2)]
        simp only
        by_cases ho : out = []
        · obtain ⟨e8, e9⟩ := nil_facts ho
          rw [e8, e9]
          simp (maxSteps := 2000000) -implicitDefEqProofs only [↓G66, ↓a62, i0, i1, j0, j1, hq, hp, f1, f, w1, hcv, gt_iff_lt, h1, h2, s_alt, s_alt20, s_alt2t, s_alt2f, ↓s_loopi, ↓v_pq, ↓PRE, POST, CORE, Nat.reduceDiv, Nat.reduceMod, Int.reduceLT, Int.reduceLE, Int.reduceToNat, Int.reduceAdd, ↓reduceIte, Nat.reduceEqDiff, Nat.reduceAdd, Nat.reduceMul, Nat.reduceSub, Nat.reduceLeDiff, Nat.reduceLT, reduceCtorEq, if_true, eq_self, forall_const, implies_true]
          exact (by refine ⟨[], by simp [NdL, NdA, oO_cells, oO_own, iL_nil], ?_, ?_, keep0 hJ⟩ <;> simp only [FitM, FitE, ObLe, LeL, Le, List.cons_append, List.nil_append] <;> (try (simp (maxSteps := 2000000) -implicitDefEqProofs only [iL_fold, iL_over, iL_all, iL_get, iL_len, iL_take, iL_drop, iL_one, iL_plain, iL_le, List.length_set, s_alt, s_alt20, s_alt2t, s_alt2f, ↓s_loopi, ↓v_pq, ↓PRE, POST, CORE, Nat.reduceDiv, Nat.reduceMod, Int.reduceLT, Int.reduceLE, Int.reduceToNat, Int.reduceAdd, ↓reduceIte, Nat.reduceEqDiff, Nat.reduceAdd, Nat.reduceMul, Nat.reduceSub, Nat.reduceLeDiff, Nat.reduceLT, reduceCtorEq, if_true, eq_self, forall_const, implies_true])) <;> (try simp only [Sz.Le, Sz.LeL, List.getElem?_cons_zero, List.getElem?_cons_succ]) <;> (try simp))
        · obtain ⟨e8, e9⟩ := ne_facts ho
          rw [e8, e9]
          simp (maxSteps := 2000000) -implicitDefEqProofs only [↓G66, ↓a62, i0, i1, j0, j1, hq, hp, f1, f, w1, hcv, gt_iff_lt, h1, h2, s_alt, s_alt20, s_alt2t, s_alt2f, ↓s_loopi, ↓v_pq, ↓PRE, POST, CORE, Nat.reduceDiv, Nat.reduceMod, Int.reduceLT, Int.reduceLE, Int.reduceToNat, Int.reduceAdd, ↓reduceIte, Nat.reduceEqDiff, Nat.reduceAdd, Nat.reduceMul, Nat.reduceSub, Nat.reduceLeDiff, Nat.reduceLT, reduceCtorEq, if_true, eq_self, forall_const, implies_true]
          exact (by refine ⟨[0], by simp [NdL, NdA, oO_cells, oO_own, iL_nil], ?_, ?_, keep0 hJ⟩ <;> simp only [FitM, FitE, ObLe, LeL, Le, List.cons_append, List.nil_append] <;> (try (simp (maxSteps := 2000000) -implicitDefEqProofs only [iL_fold, iL_over, iL_all, iL_get, iL_len, iL_take, iL_drop, iL_one, iL_plain, iL_le, List.length_set, s_alt, s_alt20, s_alt2t, s_alt2f, ↓s_loopi, ↓v_pq, ↓PRE, POST, CORE, Nat.reduceDiv, Nat.reduceMod, Int.reduceLT, Int.reduceLE, Int.reduceToNat, Int.reduceAdd, ↓reduceIte, Nat.reduceEqDiff, Nat.reduceAdd, Nat.reduceMul, Nat.reduceSub, Nat.reduceLeDiff, Nat.reduceLT, reduceCtorEq, if_true, eq_self, forall_const, implies_true])) <;> (try simp only [Sz.Le, Sz.LeL, List.getElem?_cons_zero, List.getElem?_cons_succ]) <;> (try simp))
    · rw [if_neg (fun h => h1 h.1)]
      simp only
      by_cases ho : out = []
      · obtain ⟨e8, e9⟩ := nil_facts ho
        rw [e8, e9]
        simp (maxSteps := 2000000) -implicitDefEqProofs only [↓G66, ↓a62, i0, i1, j0, j1, hq, hp, f1, f, w1, hcv, gt_iff_lt, h1, s_alt, s_alt20, s_alt2t, s_alt2f, ↓s_loopi, ↓v_pq, ↓PRE, POST, CORE, Nat.reduceDiv, Nat.reduceMod, Int.reduceLT, Int.reduceLE, Int.reduceToNat, Int.reduceAdd, ↓reduceIte, Nat.reduceEqDiff, Nat.reduceAdd, Nat.reduceMul, Nat.reduceSub, Nat.reduceLeDiff, Nat.reduceLT, reduceCtorEq, if_true, eq_self, forall_const, implies_true]
        exact (by refine ⟨[], by simp [NdL, NdA, oO_cells, oO_own, iL_nil], ?_, ?_, keep0 hJ⟩ <;> simp only [FitM, FitE, ObLe, LeL, Le, List.cons_append, List.nil_append] <;> (try (simp (maxSteps := 2000000) -implicitDefEqProofs only [iL_fold, iL_over, iL_all, iL_get, iL_len, iL_take, iL_drop, iL_one, iL_plain, iL_le, List.length_set, s_alt, s_alt20, s_alt2t, s_alt2f, ↓s_loopi, ↓v_pq, ↓PRE, POST, CORE, Nat.reduceDiv, Nat.reduceMod, Int.reduceLT, Int.reduceLE, Int.reduceToNat, Int.reduceAdd, ↓reduceIte, Nat.reduceEqDiff, Nat.reduceAdd, Nat.reduceMul, Nat.reduceSub, Nat.reduceLeDiff, Nat.reduceLT, reduceCtorEq, if_true, eq_self, forall_const, implies_true])) <;> (try simp only [Sz.Le, Sz.LeL, List.getElem?_cons_zero, List.getElem?_cons_succ]) <;> (try simp))
      · obtain ⟨e8, e9⟩ := ne_facts ho
        rw [e8, e9]
        simp (maxSteps := 2000000) -implicitDefEqProofs only [↓G66, ↓a62, i0, i1, j0, j1, hq, hp, f1, f, w1, hcv, gt_iff_lt, h1, s_alt, s_alt20, s_alt2t, s_alt2f, ↓s_loopi, ↓v_pq, ↓PRE, POST, CORE, Nat.reduceDiv, Nat.reduceMod, Int.reduceLT, Int.reduceLE, Int.reduceToNat, Int.reduceAdd, ↓reduceIte, Nat.reduceEqDiff, Nat.reduceAdd, Nat.reduceMul, Nat.reduceSub, Nat.reduceLeDiff, Nat.reduceLT, reduceCtorEq, if_true, eq_self, forall_const, implies_true]
        exact (by refine ⟨[0], by simp [NdL, NdA, oO_cells, oO_own, iL_nil], ?_, ?_, keep0 hJ⟩ <;> simp only [FitM, FitE, ObLe, LeL, Le, List.cons_append, List.nil_append] <;> (try (simp (maxSteps := 2000000) -implicitDefEqProofs only [iL_fold, iL_over, iL_all, iL_get, iL_len, iL_take, iL_drop, iL_one, iL_plain, iL_le, List.length_set, s_alt, s_alt20, s_alt2t, s_alt2f, ↓s_loopi, ↓v_pq, ↓PRE, POST, CORE, Nat.reduceDiv, Nat.reduceMod, Int.reduceLT, Int.reduceLE, Int.reduceToNat, Int.reduceAdd, ↓reduceIte, Nat.reduceEqDiff, Nat.reduceAdd, Nat.reduceMul, Nat.reduceSub, Nat.reduceLeDiff, Nat.reduceLT, reduceCtorEq, if_true, eq_self, forall_const, implies_true])) <;> (try simp only [Sz.Le, Sz.LeL, List.getElem?_cons_zero, List.getElem?_cons_succ]) <;> (try simp))
  · intro _
    have j0 : ¬ (ch.length : Int) < (ch.length : Int) := by omega
    rw [List.take_length]
    have hlen := grF_len (cA l n) R ch
    generalize (grF (cA l n) ch R).2 = Z at hk hlen ⊢
    simp (maxSteps := 2000000) -implicitDefEqProofs only [↓G66, j0, s_alt, s_alt20, s_alt2t, s_alt2f, ↓s_loopi, ↓v_pq, ↓PRE, POST, CORE, Nat.reduceDiv, Nat.reduceMod, Int.reduceLT, Int.reduceLE, Int.reduceToNat, Int.reduceAdd, ↓reduceIte, Nat.reduceEqDiff, Nat.reduceAdd, Nat.reduceMul, Nat.reduceSub, Nat.reduceLeDiff, Nat.reduceLT, reduceCtorEq, if_true, eq_self, forall_const, implies_true]
    by_cases hZ : Z = []
    · obtain ⟨e8, e9⟩ := nil_facts hZ
      rw [e8, e9]
      refine .inr (.inl ⟨none, 0, rfl, ?_⟩)
      simp (maxSteps := 2000000) -implicitDefEqProofs only [s_alt, s_alt20, s_alt2t, s_alt2f, ↓s_loopi, ↓v_pq, ↓PRE, POST, CORE, Nat.reduceDiv, Nat.reduceMod, Int.reduceLT, Int.reduceLE, Int.reduceToNat, Int.reduceAdd, ↓reduceIte, Nat.reduceEqDiff, Nat.reduceAdd, Nat.reduceMul, Nat.reduceSub, Nat.reduceLeDiff, Nat.reduceLT, reduceCtorEq, if_true, eq_self, forall_const, implies_true]
      subst hZ
      have es : srt [] = [] := List.mergeSort_nil
      rw [es, ← vL_iL] at hk
      exact fin_row (cs := fun n : Int => [Value.int .i64 n]) (z := 1) (fun _ => rfl) (by omega) [] _ _ 0 (fun _ => rfl) (fun h => (h rfl).elim) hk
    · obtain ⟨e8, e9⟩ := ne_facts hZ
      rw [e8, e9]
      refine .inl ⟨0, Z, rfl, rfl, by omega, ?_⟩
      have hs := srt_len Z
      have hZ2 : srt Z ≠ [] := fun e => hZ (List.length_eq_zero_iff.1 (by rw [← hs, e]; rfl))
      obtain ⟨e6, e7⟩ := ne_facts hZ2
      rw [e6, e7, hs] at hk
      simp (maxSteps := 2000000) -implicitDefEqProofs only [s_alt, s_alt20, s_alt2t, s_alt2f, ↓s_loopi, ↓v_pq, ↓PRE, POST, CORE, Nat.reduceDiv, Nat.reduceMod, Int.reduceLT, Int.reduceLE, Int.reduceToNat, Int.reduceAdd, ↓reduceIte, Nat.reduceEqDiff, Nat.reduceAdd, Nat.reduceMul, Nat.reduceSub, Nat.reduceLeDiff, Nat.reduceLT, reduceCtorEq, if_true, eq_self, forall_const, implies_true]
      exact fin_i _ _ _ 0 rfl hk
def c35 [Inp] : Trans := fun args m k => ∃ (s : SV) (l : List Ra.Rg) (b n : Int), args = [s, .v (.int .i64 b), .v (.int .i64 n)] ∧ rdG m s = some l ∧ l.length ≤ 1000 ∧ k (rS m.length 1 (grantF l (idN l.length) b n).length) (m ++ rM (iL (grantF l (idN l.length) b n)))
def G35 [Inp] : List CEntry := [⟨66, true, c66⟩, ⟨67, true, c67⟩]
theorem s35 [Inp] : GOk Try.prog G35 := GOk.cons c66_ok (GOk.cons c67_ok (g0 _))
theorem idN_in (n : Nat) : ∀ i ∈ idN n, 0 ≤ i ∧ i < (n : Int) := fun i hi => by
  obtain ⟨j, hj, rfl⟩ := List.mem_map.1 hi
  have := List.mem_range.1 hj
  simp only [Int.ofNat_eq_natCast]
  omega
theorem rdI_r [Inp] {m : Mem} {j : Nat} {xs : List Int} {o : Bool} (h : m[j]? = some ⟨o, iL xs⟩) : rdI m (.row j 0 xs.length 1) = some xs := by
  unfold rdI
  rw [sl_row, h]
  simp only [slK]
  rw [Nat.mul_one, Nat.zero_add, iL_len, if_pos (Nat.le_refl _), List.drop_zero, List.take_of_length_le (by rw [iL_len]; exact Nat.le_refl _)]
  simp only [Option.bind_some, decI_iL]
theorem c35_ok [I : Inp] : Contract Try.prog 35 true c35 := by
  refine .readF3 fn35 (G := fun J => @G35 J) (fun J => @s35 J) _ fun args m k h => ?_
  obtain ⟨s, l, b, n, rfl, hl, hmax, hk⟩ := h
  refine ⟨by simp, fun J hJ us hus => ?_⟩
  obtain ⟨u, t1, rfl, hu1, u2, t2, rfl, hu2, u3, t3, rfl, hu3, rfl⟩ := hus
  obtain rfl := hu2.1 _ rfl
  obtain rfl := hu3.1 _ rfl
  obtain ⟨p, cc, rfl, hin⟩ := rdG_knows hl hu1
  rw [List.map_cons, List.map_cons, List.map_cons, List.map_nil, of_sl, of_int, of_int]
  simp (maxSteps := 2000000) -implicitDefEqProofs only [↓x35, ↓r35, ↓G35, ↓c66, ↓c67, s_alt, s_alt20, s_alt2t, s_alt2f, ↓s_loopi, ↓v_pq, ↓PRE, POST, CORE, Nat.reduceDiv, Nat.reduceMod, Int.reduceLT, Int.reduceLE, Int.reduceToNat, Int.reduceAdd, ↓reduceIte, Nat.reduceEqDiff, Nat.reduceAdd, Nat.reduceMul, Nat.reduceSub, Nat.reduceLeDiff, Nat.reduceLT, reduceCtorEq, if_true, eq_self, forall_const, implies_true]
  refine ⟨_, l, rfl, rdG_v hin, by omega, ?_⟩
  have hil := idN_len l.length
  refine ⟨_, _, l, idN l.length, b, n, rfl, rdG_v hin, ?_, hmax, by omega, idN_in _, ?_⟩
  · have := @rdI_r J [⟨true, iL (idN l.length)⟩] 0 (idN l.length) true rfl
    rwa [hil] at this
  by_cases hZ : grantF l (idN l.length) b n = []
  · obtain ⟨e8, e9⟩ := nil_facts hZ
    rw [e8, e9] at hk ⊢
    rw [List.append_nil] at hk
    refine ⟨[], .v (.slice none 0 0), [], by simp [NdL], trivial, by simp, by simp only [Le], ?_⟩
    simpa [SV.up] using hk
  · obtain ⟨e8, e9⟩ := ne_facts hZ
    rw [e8, e9] at hk ⊢
    exact fin_i _ _ _ 1 rfl hk
end Qu
end Go.Proofs.Ytcejgadbpahbmaa
end
section
namespace Go.Proofs.Ytcejgadbpahbmaa
open Go.RowKit Sz
set_option maxHeartbeats 16000000
set_option maxRecDepth 20000
namespace Qu
open Rc
theorem keep3 [I : Inp] {a : List Nat} (h : I.keep = 3) : KeepOk (0 :: 1 :: 2 :: a) := fun k hk => by
  rw [h] at hk
  obtain rfl | rfl | rfl : k = 0 ∨ k = 1 ∨ k = 2 := by omega
  · rfl
  · rfl
  · rfl
-- cmp.isNaN[int] (1 parameters)
def x85 : XC := (.seq (.tree (.seq ⟨some 2, none, (.ofA (.mv (.cst (.v (.bool false)))))⟩
 .done))
 (.seq (.tree (.seq ⟨some 3, none, (.ofA (.mv (.tmp 0)))⟩
 (.seq ⟨some 4, none, (.ofA (.mv (.tmp 0)))⟩
 (.seq ⟨some 5, none, (.ofA (.bin .neq (.tmp 3) (.tmp 4)))⟩
 (.seq ⟨some 2, none, (.ofA (.mv (.tmp 5)))⟩
 .done)))))
 .ret))
def r85 : List XR := [.tmp 2]
theorem fn85 : FnX Try.prog 85 [82, 68, 97, 118] 6 x85 r85 := ⟨_, Try.func85, by kernel_rfl, by kernel_rfl, by kernel_rfl, by kernel_rfl⟩
-- cmp.Compare[int] (2 parameters)
def x50 : XC := (.seq (.tree (.seq ⟨some 4, none, (.ofA (.mv (.cst (.v (.int .i64 0)))))⟩
 .done))
 (.seq (.tree (.seq ⟨some 7, none, (.ofA (.mv (.tmp 0)))⟩
 (.seq ⟨some 8, none, (.call (.cst (.fn 85 [])) [(.tmp 7)])⟩
 (.seq ⟨some 5, none, (.ofA (.mv (.tmp 8)))⟩
 .done))))
 (.seq (.tree (.seq ⟨some 9, none, (.ofA (.mv (.tmp 1)))⟩
 (.seq ⟨some 10, none, (.call (.cst (.fn 85 [])) [(.tmp 9)])⟩
 (.seq ⟨some 6, none, (.ofA (.mv (.tmp 10)))⟩
 .done))))
 (.seq (.seq (.tree (.seq ⟨some 11, none, (.ofA (.mv (.tmp 5)))⟩
 .done))
 (.cond (.tmp 11)
 (.seq (.seq (.tree (.seq ⟨some 12, none, (.ofA (.mv (.tmp 6)))⟩
 .done))
 (.cond (.tmp 12)
 (.seq (.tree (.seq ⟨some 4, none, (.ofA (.mv (.cst (.v (.int .i64 0)))))⟩
 .done))
 .ret)
 .skip))
 (.seq (.tree (.seq ⟨some 4, none, (.ofA (.mv (.cst (.v (.int .i64 (-1))))))⟩
 .done))
 .ret))
 .skip))
 (.seq (.seq (.tree (.seq ⟨some 13, none, (.ofA (.mv (.tmp 6)))⟩
 .done))
 (.cond (.tmp 13)
 (.seq (.tree (.seq ⟨some 4, none, (.ofA (.mv (.cst (.v (.int .i64 1)))))⟩
 .done))
 .ret)
 .skip))
 (.seq (.seq (.tree (.seq ⟨some 14, none, (.ofA (.mv (.tmp 0)))⟩
 (.seq ⟨some 15, none, (.ofA (.mv (.tmp 1)))⟩
 (.seq ⟨some 16, none, (.ofA (.bin .lss (.tmp 14) (.tmp 15)))⟩
 .done))))
 (.cond (.tmp 16)
 (.seq (.tree (.seq ⟨some 4, none, (.ofA (.mv (.cst (.v (.int .i64 (-1))))))⟩
 .done))
 .ret)
 .skip))
 (.seq (.seq (.tree (.seq ⟨some 17, none, (.ofA (.mv (.tmp 0)))⟩
 (.seq ⟨some 18, none, (.ofA (.mv (.tmp 1)))⟩
 (.seq ⟨some 19, none, (.ofA (.bin .gtr (.tmp 17) (.tmp 18)))⟩
 .done))))
 (.cond (.tmp 19)
 (.seq (.tree (.seq ⟨some 4, none, (.ofA (.mv (.cst (.v (.int .i64 1)))))⟩
 .done))
 .ret)
 .skip))
 (.seq (.tree (.seq ⟨some 4, none, (.ofA (.mv (.cst (.v (.int .i64 0)))))⟩
 .done))
 .ret))))))))
def r50 : List XR := [.tmp 4]
theorem fn50 : FnX Try.prog 50 [82, 68, 97, 118] 20 x50 r50 := ⟨_, Try.func50, by kernel_rfl, by kernel_rfl, by kernel_rfl, by kernel_rfl⟩
-- almshouse/quota.Most$1 (2 parameters)
def x69 : XC := (.seq (.tree (.seq ⟨some 6, none, (.ofA (.mv (.cst (.v (.int .i64 0)))))⟩
 .done))
 (.seq (.tree (.take ⟨some 7, none, (.ofA (.load none (.tmp 2)))⟩
 (.take ⟨some 8, none, (.ofA (.mv (.tmp 0)))⟩
 (.take ⟨some 9, none, (.ofA (.isl 2 (.tmp 7) (.tmp 8)))⟩
 (.take ⟨some 10, none, (.ofA (.load (some 2) (.tmp 9)))⟩
 (.take ⟨some 11, none, (.ofA (.load none (.tmp 3)))⟩
 (.take ⟨some 13, none, (.ofA (.load none (.tmp 2)))⟩
 (.take ⟨some 14, none, (.ofA (.mv (.tmp 1)))⟩
 (.take ⟨some 15, none, (.ofA (.isl 2 (.tmp 13) (.tmp 14)))⟩
 (.take ⟨some 16, none, (.ofA (.load (some 2) (.tmp 15)))⟩
 (.take ⟨some 17, none, (.ofA (.load none (.tmp 3)))⟩
 (.act true [(⟨some 12, none, (.call (.cst (.fn 62 [])) [(.tmp 10), (.tmp 11)])⟩,
 (.act true [(⟨some 18, none, (.call (.cst (.fn 62 [])) [(.tmp 16), (.tmp 17)])⟩,
 (.act true [(⟨some 19, none, (.call (.cst (.fn 50 [])) [(.tmp 12), (.tmp 18)])⟩,
 (.take ⟨some 6, none, (.ofA (.mv (.tmp 19)))⟩
 .done))]))]))]))))))))))))
 .ret))
def r69 : List XR := [.tmp 6]
theorem fn69 : FnX Try.prog 69 [82, 68, 97, 118] 20 x69 r69 := ⟨_, Try.func69, by kernel_rfl, by kernel_rfl, by kernel_rfl, by kernel_rfl⟩
-- slices.insertionSortCmpFunc[int] (4 parameters)
def x118 : XC := (.seq (.tree (.seq ⟨some 10, none, (.ofA (.mv (.tmp 1)))⟩
 (.seq ⟨some 11, none, (.ofA (.bin .add (.tmp 10) (.cst (.v (.int .i64 1)))))⟩
 (.seq ⟨some 8, none, (.ofA (.mv (.tmp 11)))⟩
 .done))))
 (.block 0 (.loop (.seq (.seq (.tree (.seq ⟨some 12, none, (.ofA (.mv (.tmp 8)))⟩
 (.seq ⟨some 13, none, (.ofA (.mv (.tmp 2)))⟩
 (.seq ⟨some 14, none, (.ofA (.bin .lss (.tmp 12) (.tmp 13)))⟩
 .done))))
 (.cond (.tmp 14)
 .skip
 (.exit 0)))
 (.seq (.block 1 (.seq (.tree (.seq ⟨some 17, none, (.ofA (.mv (.tmp 8)))⟩
 (.seq ⟨some 9, none, (.ofA (.mv (.tmp 17)))⟩
 .done)))
 (.block 2 (.loop (.seq (.seq (.tree (.take ⟨some 18, none, (.ofA (.mv (.tmp 9)))⟩
 (.take ⟨some 19, none, (.ofA (.mv (.tmp 1)))⟩
 (.take ⟨some 20, none, (.ofA (.bin .gtr (.tmp 18) (.tmp 19)))⟩
 (.take ⟨some 21, none, (.ofA (.mv (.tmp 20)))⟩
 (.take ⟨some 22, some (21, true), (.ofA (.mv (.tmp 3)))⟩
 (.take ⟨some 23, some (21, true), (.ofA (.mv (.tmp 0)))⟩
 (.take ⟨some 24, some (21, true), (.ofA (.mv (.tmp 9)))⟩
 (.take ⟨some 25, some (21, true), (.ofA (.isl 1 (.tmp 23) (.tmp 24)))⟩
 (.take ⟨some 26, some (21, true), (.ofA (.load none (.tmp 25)))⟩
 (.take ⟨some 27, some (21, true), (.ofA (.mv (.tmp 0)))⟩
 (.take ⟨some 28, some (21, true), (.ofA (.mv (.tmp 9)))⟩
 (.take ⟨some 29, some (21, true), (.ofA (.bin .sub (.tmp 28) (.cst (.v (.int .i64 1)))))⟩
 (.take ⟨some 30, some (21, true), (.ofA (.isl 1 (.tmp 27) (.tmp 29)))⟩
 (.take ⟨some 31, some (21, true), (.ofA (.load none (.tmp 30)))⟩
 (.alt [false] [(⟨some 32, some (21, true), (.call (.tmp 22) [(.tmp 26), (.tmp 31)])⟩,
 (.take ⟨some 33, some (21, true), (.ofA (.bin .lss (.tmp 32) (.cst (.v (.int .i64 0)))))⟩
 (.take ⟨some 34, none, (.ofA (.pick (.tmp 21) (.tmp 33) (.cst (.v (.bool false)))))⟩
 .done)))]))))))))))))))))
 (.cond (.tmp 34)
 .skip
 (.exit 2)))
 (.seq (.block 3 (.tree (.take ⟨some 37, none, (.ofA (.mv (.tmp 0)))⟩
 (.take ⟨some 38, none, (.ofA (.mv (.tmp 9)))⟩
 (.take ⟨some 39, none, (.ofA (.mv (.tmp 0)))⟩
 (.take ⟨some 40, none, (.ofA (.mv (.tmp 9)))⟩
 (.take ⟨some 41, none, (.ofA (.bin .sub (.tmp 40) (.cst (.v (.int .i64 1)))))⟩
 (.take ⟨some 42, none, (.ofA (.mv (.tmp 0)))⟩
 (.take ⟨some 43, none, (.ofA (.mv (.tmp 9)))⟩
 (.take ⟨some 44, none, (.ofA (.bin .sub (.tmp 43) (.cst (.v (.int .i64 1)))))⟩
 (.take ⟨some 45, none, (.ofA (.isl 1 (.tmp 42) (.tmp 44)))⟩
 (.take ⟨some 46, none, (.ofA (.load none (.tmp 45)))⟩
 (.take ⟨some 47, none, (.ofA (.mv (.tmp 0)))⟩
 (.take ⟨some 48, none, (.ofA (.mv (.tmp 9)))⟩
 (.take ⟨some 49, none, (.ofA (.isl 1 (.tmp 47) (.tmp 48)))⟩
 (.take ⟨some 50, none, (.ofA (.load none (.tmp 49)))⟩
 (.take ⟨some 51, none, (.ofA (.isl 1 (.tmp 37) (.tmp 38)))⟩
 (.alt [false] [(⟨none, none, (.store 1 (.tmp 51) (.tmp 46))⟩,
 (.take ⟨some 52, none, (.ofA (.isl 1 (.tmp 39) (.tmp 41)))⟩
 (.alt [false] [(⟨none, none, (.store 1 (.tmp 52) (.tmp 50))⟩,
 .done)])))]))))))))))))))))))
 (.tree (.seq ⟨some 35, none, (.ofA (.mv (.tmp 9)))⟩
 (.seq ⟨some 36, none, (.ofA (.bin .sub (.tmp 35) (.cst (.v (.int .i64 1)))))⟩
 (.seq ⟨some 9, none, (.ofA (.mv (.tmp 36)))⟩
 .done))))))))))
 (.tree (.seq ⟨some 15, none, (.ofA (.mv (.tmp 8)))⟩
 (.seq ⟨some 16, none, (.ofA (.bin .add (.tmp 15) (.cst (.v (.int .i64 1)))))⟩
 (.seq ⟨some 8, none, (.ofA (.mv (.tmp 16)))⟩
 .done)))))))))
def r118 : List XR := []
theorem fn118 : FnX Try.prog 118 [82, 68, 97, 118] 53 x118 r118 := ⟨_, Try.func118, by kernel_rfl, by kernel_rfl, by kernel_rfl, by kernel_rfl⟩
-- slices.stableCmpFunc[int] (3 parameters)
def x97 : XC := (.seq (.tree (.seq ⟨some 6, none, (.ofA (.mv (.cst (.v (.int .i64 20)))))⟩
 .done))
 (.seq (.tree (.seq ⟨some 10, none, (.ofA (.mv (.tmp 6)))⟩
 (.seq ⟨some 7, none, (.ofA (.mv (.cst (.v (.int .i64 0)))))⟩
 (.seq ⟨some 8, none, (.ofA (.mv (.tmp 10)))⟩
 .done))))
 (.seq (.block 0 (.loop (.seq (.seq (.tree (.seq ⟨some 11, none, (.ofA (.mv (.tmp 8)))⟩
 (.seq ⟨some 12, none, (.ofA (.mv (.tmp 1)))⟩
 (.seq ⟨some 13, none, (.ofA (.bin .leq (.tmp 11) (.tmp 12)))⟩
 .done))))
 (.cond (.tmp 13)
 .skip
 (.exit 0)))
 (.block 1 (.seq (.tree (.seq ⟨some 14, none, (.ofA (.mv (.tmp 0)))⟩
 (.seq ⟨some 15, none, (.ofA (.mv (.tmp 7)))⟩
 (.seq ⟨some 16, none, (.ofA (.mv (.tmp 8)))⟩
 (.seq ⟨some 17, none, (.ofA (.mv (.tmp 2)))⟩
 (.seq ⟨some 18, none, (.call (.cst (.fn 118 [])) [(.tmp 14), (.tmp 15), (.tmp 16), (.tmp 17)])⟩
 .done))))))
 (.seq (.tree (.seq ⟨some 19, none, (.ofA (.mv (.tmp 8)))⟩
 (.seq ⟨some 7, none, (.ofA (.mv (.tmp 19)))⟩
 .done)))
 (.tree (.seq ⟨some 20, none, (.ofA (.mv (.tmp 8)))⟩
 (.seq ⟨some 21, none, (.ofA (.mv (.tmp 6)))⟩
 (.seq ⟨some 22, none, (.ofA (.bin .add (.tmp 20) (.tmp 21)))⟩
 (.seq ⟨some 8, none, (.ofA (.mv (.tmp 22)))⟩
 .done)))))))))))
 (.seq (.tree (.seq ⟨some 23, none, (.ofA (.mv (.tmp 0)))⟩
 (.seq ⟨some 24, none, (.ofA (.mv (.tmp 7)))⟩
 (.seq ⟨some 25, none, (.ofA (.mv (.tmp 1)))⟩
 (.seq ⟨some 26, none, (.ofA (.mv (.tmp 2)))⟩
 (.seq ⟨some 27, none, (.call (.cst (.fn 118 [])) [(.tmp 23), (.tmp 24), (.tmp 25), (.tmp 26)])⟩
 .done))))))
 (.block 2 (.loop (.seq (.seq (.tree (.seq ⟨some 28, none, (.ofA (.mv (.tmp 6)))⟩
 (.seq ⟨some 29, none, (.ofA (.mv (.tmp 1)))⟩
 (.seq ⟨some 30, none, (.ofA (.bin .lss (.tmp 28) (.tmp 29)))⟩
 .done))))
 (.cond (.tmp 30)
 .skip
 (.exit 2)))
 (.block 3 (.seq (.tree (.seq ⟨some 31, none, (.ofA (.mv (.tmp 6)))⟩
 (.seq ⟨some 32, none, (.ofA (.bin .mul (.cst (.v (.int .i64 2))) (.tmp 31)))⟩
 (.seq ⟨some 7, none, (.ofA (.mv (.cst (.v (.int .i64 0)))))⟩
 (.seq ⟨some 8, none, (.ofA (.mv (.tmp 32)))⟩
 .done)))))
 (.seq (.block 4 (.loop (.seq (.seq (.tree (.seq ⟨some 33, none, (.ofA (.mv (.tmp 8)))⟩
 (.seq ⟨some 34, none, (.ofA (.mv (.tmp 1)))⟩
 (.seq ⟨some 35, none, (.ofA (.bin .leq (.tmp 33) (.tmp 34)))⟩
 .done))))
 (.cond (.tmp 35)
 .skip
 (.exit 4)))
 (.block 5 (.seq (.tree (.seq ⟨some 36, none, (.ofA (.mv (.tmp 0)))⟩
 (.seq ⟨some 37, none, (.ofA (.mv (.tmp 7)))⟩
 (.seq ⟨some 38, none, (.ofA (.mv (.tmp 7)))⟩
 (.seq ⟨some 39, none, (.ofA (.mv (.tmp 6)))⟩
 (.seq ⟨some 40, none, (.ofA (.bin .add (.tmp 38) (.tmp 39)))⟩
 (.seq ⟨some 41, none, (.ofA (.mv (.tmp 8)))⟩
 (.seq ⟨some 42, none, (.ofA (.mv (.tmp 2)))⟩
 (.seq ⟨some 43, none, (.call (.cst (.fn 119 [])) [(.tmp 36), (.tmp 37), (.tmp 40), (.tmp 41), (.tmp 42)])⟩
 .done)))))))))
 (.seq (.tree (.seq ⟨some 44, none, (.ofA (.mv (.tmp 8)))⟩
 (.seq ⟨some 7, none, (.ofA (.mv (.tmp 44)))⟩
 .done)))
 (.tree (.seq ⟨some 45, none, (.ofA (.mv (.tmp 8)))⟩
 (.seq ⟨some 46, none, (.ofA (.mv (.tmp 6)))⟩
 (.seq ⟨some 47, none, (.ofA (.bin .mul (.cst (.v (.int .i64 2))) (.tmp 46)))⟩
 (.seq ⟨some 48, none, (.ofA (.bin .add (.tmp 45) (.tmp 47)))⟩
 (.seq ⟨some 8, none, (.ofA (.mv (.tmp 48)))⟩
 .done))))))))))))
 (.seq (.seq (.tree (.seq ⟨some 49, none, (.ofA (.mv (.tmp 7)))⟩
 (.seq ⟨some 50, none, (.ofA (.mv (.tmp 6)))⟩
 (.seq ⟨some 51, none, (.ofA (.bin .add (.tmp 49) (.tmp 50)))⟩
 (.seq ⟨some 9, none, (.ofA (.mv (.tmp 51)))⟩
 .done)))))
 (.seq (.tree (.seq ⟨some 52, none, (.ofA (.mv (.tmp 9)))⟩
 (.seq ⟨some 53, none, (.ofA (.mv (.tmp 1)))⟩
 (.seq ⟨some 54, none, (.ofA (.bin .lss (.tmp 52) (.tmp 53)))⟩
 .done))))
 (.cond (.tmp 54)
 (.tree (.seq ⟨some 55, none, (.ofA (.mv (.tmp 0)))⟩
 (.seq ⟨some 56, none, (.ofA (.mv (.tmp 7)))⟩
 (.seq ⟨some 57, none, (.ofA (.mv (.tmp 9)))⟩
 (.seq ⟨some 58, none, (.ofA (.mv (.tmp 1)))⟩
 (.seq ⟨some 59, none, (.ofA (.mv (.tmp 2)))⟩
 (.seq ⟨some 60, none, (.call (.cst (.fn 119 [])) [(.tmp 55), (.tmp 56), (.tmp 57), (.tmp 58), (.tmp 59)])⟩
 .done)))))))
 .skip)))
 (.tree (.seq ⟨some 61, none, (.ofA (.mv (.tmp 6)))⟩
 (.seq ⟨some 62, none, (.ofA (.bin .mul (.tmp 61) (.cst (.v (.int .i64 2)))))⟩
 (.seq ⟨some 6, none, (.ofA (.mv (.tmp 62)))⟩
 .done)))))))))))))))
def r97 : List XR := []
theorem fn97 : FnX Try.prog 97 [82, 68, 97, 118] 63 x97 r97 := ⟨_, Try.func97, by kernel_rfl, by kernel_rfl, by kernel_rfl, by kernel_rfl⟩
-- slices.SortStableFunc[[]int,int] (2 parameters)
def x68 : XC := (.tree (.seq ⟨some 4, none, (.ofA (.mv (.tmp 0)))⟩
 (.seq ⟨some 5, none, (.ofA (.mv (.tmp 0)))⟩
 (.seq ⟨some 6, none, (.ofA (.len (.tmp 5)))⟩
 (.seq ⟨some 7, none, (.ofA (.mv (.tmp 1)))⟩
 (.seq ⟨some 8, none, (.call (.cst (.fn 97 [])) [(.tmp 4), (.tmp 6), (.tmp 7)])⟩
 .done))))))
def r68 : List XR := []
theorem fn68 : FnX Try.prog 68 [82, 68, 97, 118] 9 x68 r68 := ⟨_, Try.func68, by kernel_rfl, by kernel_rfl, by kernel_rfl, by kernel_rfl⟩
-- almshouse/quota.Most (3 parameters)
def x36 : XC := (.seq (.tree (.seq ⟨some 3, none, (.box (.tmp 0))⟩
 (.seq ⟨some 5, none, (.box (.tmp 2))⟩
 (.seq ⟨some 6, none, (.ofA (.mv (.cst (.v (.slice none 0 0)))))⟩
 .done))))
 (.seq (.tree (.seq ⟨some 8, none, (.ofA (.load none (.tmp 3)))⟩
 (.seq ⟨some 9, none, (.call (.cst (.fn 67 [])) [(.tmp 8)])⟩
 (.seq ⟨some 7, none, (.ofA (.mv (.tmp 9)))⟩
 .done))))
 (.seq (.tree (.seq ⟨some 10, none, (.ofA (.mv (.tmp 7)))⟩
 (.seq ⟨some 11, none, (.ofA (.mkfn 69 [(.tmp 3), (.tmp 5)]))⟩
 (.seq ⟨some 12, none, (.call (.cst (.fn 68 [])) [(.tmp 10), (.tmp 11)])⟩
 .done))))
 (.seq (.tree (.seq ⟨some 13, none, (.ofA (.load none (.tmp 3)))⟩
 (.seq ⟨some 14, none, (.ofA (.mv (.tmp 7)))⟩
 (.seq ⟨some 15, none, (.ofA (.mv (.tmp 1)))⟩
 (.seq ⟨some 16, none, (.ofA (.load none (.tmp 5)))⟩
 (.seq ⟨some 17, none, (.call (.cst (.fn 66 [])) [(.tmp 13), (.tmp 14), (.tmp 15), (.tmp 16)])⟩
 (.seq ⟨some 6, none, (.ofA (.mv (.tmp 17)))⟩
 .done)))))))
 .ret))))
def r36 : List XR := [.tmp 6]
theorem fn36 : FnX Try.prog 36 [82, 68, 97, 118] 18 x36 r36 := ⟨_, Try.func36, by kernel_rfl, by kernel_rfl, by kernel_rfl, by kernel_rfl⟩
def cmpF (x y : Int) : Int := if x < y then -1 else if y < x then 1 else 0
theorem cmpF_lt (x y : Int) : cmpF x y < 0 ↔ x < y := by
  unfold cmpF
  split
  · omega
  · split <;> omega
def c85 [Inp] : Trans := fun args m k => match args with
  | [.v (.int .i64 a)] => k (.v (.bool false)) m
  | _ => False
theorem a85 [Inp] {a : Int} {m : Mem} {k : SV → Mem → Prop} : c85 [.v (.int .i64 a)] m k = k (.v (.bool false)) m := rfl
theorem c85_ok [Inp] : Contract Try.prog 85 true c85 := by
  refine .plainArgs fn85 (g0 _) _ fun args m k h => ?_
  unfold c85 at h
  split at h
  · refine ⟨rfl, by simp, ?_⟩
    simp (maxSteps := 2000000) -implicitDefEqProofs only [↓x85, ↓r85, bne_self_eq_false, s_alt, s_alt20, s_alt2t, s_alt2f, ↓s_loopi, ↓v_pq, ↓PRE, POST, CORE, Nat.reduceDiv, Nat.reduceMod, Int.reduceLT, Int.reduceLE, Int.reduceToNat, Int.reduceAdd, ↓reduceIte, Nat.reduceEqDiff, Nat.reduceAdd, Nat.reduceMul, Nat.reduceSub, Nat.reduceLeDiff, Nat.reduceLT, reduceCtorEq, if_true, eq_self, forall_const, implies_true]
    exact h
  · exact h.elim
def c50 [Inp] : Trans := fun args m k => match args with
  | [.v (.int .i64 a), .v (.int .i64 b)] => k (.v (.int .i64 (cmpF a b))) m
  | _ => False
theorem a50 [Inp] {a b : Int} {m : Mem} {k : SV → Mem → Prop} : c50 [.v (.int .i64 a), .v (.int .i64 b)] m k = k (.v (.int .i64 (cmpF a b))) m := rfl
theorem c50_ok [Inp] : Contract Try.prog 50 true c50 := by
  refine .plainArgs fn50 (G := [⟨85, true, c85⟩]) (GOk.cons c85_ok (g0 _)) _ fun args m k h => ?_
  unfold c50 at h
  split at h
  · rename_i a b
    refine ⟨rfl, by simp, ?_⟩
    unfold cmpF at h
    by_cases h1 : a < b
    · rw [if_pos h1] at h
      simp (maxSteps := 2000000) -implicitDefEqProofs only [↓x50, ↓r50, ↓a85, h1, s_alt, s_alt20, s_alt2t, s_alt2f, ↓s_loopi, ↓v_pq, ↓PRE, POST, CORE, Nat.reduceDiv, Nat.reduceMod, Int.reduceLT, Int.reduceLE, Int.reduceToNat, Int.reduceAdd, ↓reduceIte, Nat.reduceEqDiff, Nat.reduceAdd, Nat.reduceMul, Nat.reduceSub, Nat.reduceLeDiff, Nat.reduceLT, reduceCtorEq, if_true, eq_self, forall_const, implies_true]
      exact h
    · rw [if_neg h1] at h
      by_cases h2 : b < a
      · rw [if_pos h2] at h
        simp (maxSteps := 2000000) -implicitDefEqProofs only [↓x50, ↓r50, ↓a85, h1, gt_iff_lt, h2, s_alt, s_alt20, s_alt2t, s_alt2f, ↓s_loopi, ↓v_pq, ↓PRE, POST, CORE, Nat.reduceDiv, Nat.reduceMod, Int.reduceLT, Int.reduceLE, Int.reduceToNat, Int.reduceAdd, ↓reduceIte, Nat.reduceEqDiff, Nat.reduceAdd, Nat.reduceMul, Nat.reduceSub, Nat.reduceLeDiff, Nat.reduceLT, reduceCtorEq, if_true, eq_self, forall_const, implies_true]
        exact h
      · rw [if_neg h2] at h
        simp (maxSteps := 2000000) -implicitDefEqProofs only [↓x50, ↓r50, ↓a85, h1, gt_iff_lt, h2, s_alt, s_alt20, s_alt2t, s_alt2f, ↓s_loopi, ↓v_pq, ↓PRE, POST, CORE, Nat.reduceDiv, Nat.reduceMod, Int.reduceLT, Int.reduceLE, Int.reduceToNat, Int.reduceAdd, ↓reduceIte, Nat.reduceEqDiff, Nat.reduceAdd, Nat.reduceMul, Nat.reduceSub, Nat.reduceLeDiff, Nat.reduceLT, reduceCtorEq, if_true, eq_self, forall_const, implies_true]
        exact h
  · exact h.elim
def c69 [Inp] : Trans := fun args m k => ∃ (p : Option Addr) (c : Nat) (l : List Ra.Rg) (n a b : Int) (o1 o2 : Bool) (i j : Nat), args = [.v (.int .i64 a), .v (.int .i64 b), .ptr i 0, .ptr j 0] ∧ i ≠ j ∧ m[i]? = some ⟨o1, [.v (.slice p l.length c)]⟩ ∧ m[j]? = some ⟨o2, [.v (.int .i64 n)]⟩ ∧ inpL p (l.length * 2) = some (rowV gV l) ∧ (0 ≤ a ∧ a < l.length) ∧ (0 ≤ b ∧ b < l.length) ∧ k (.v (.int .i64 (cmpF (cA l n a) (cA l n b)))) m
def G69 [Inp] : List CEntry := [⟨62, true, c62⟩, ⟨50, true, c50⟩]
theorem s69 [Inp] : GOk Try.prog G69 := GOk.cons c62_ok (GOk.cons c50_ok (g0 _))
theorem c69_ok [I : Inp] : Contract Try.prog 69 true c69 := by
  refine .plain0 fn69 (G := fun J => @G69 J) (fun J => @s69 J) _ fun args m k h => ?_
  obtain ⟨p, c, l, n, a, b, o1, o2, i, j, rfl, hij, hi, hj, hin, ha, hb, hk⟩ := h
  refine ⟨[i, j], [⟨false, [.v (.slice p l.length c)]⟩, ⟨false, [.v (.int .i64 n)]⟩], [.v (.int .i64 a), .v (.int .i64 b), .ptr 0 0, .ptr 1 0], by simp [hij], by simp [FitM, hi, hj, ObLe, LeL, Le], by simp, by simp [LeL, Le], by simp, fun J hJ hI => ?_⟩
  replace hin := hI _ _ _ hin
  obtain ⟨ra, hra⟩ : ∃ r, l[a.toNat]? = some r := ⟨_, List.getElem?_eq_getElem (by omega)⟩
  obtain ⟨rb, hrb⟩ : ∃ r, l[b.toNat]? = some r := ⟨_, List.getElem?_eq_getElem (by omega)⟩
  have hp : p.isSome = true := inpL_isSome hin (by omega)
  have f1 : inpL (plusA p (a.toNat * 2)) 2 = some [.int .i64 ra.fr, .int .i64 ra.to] := inp_item gV_len hin rfl hra
  have f2 : inpL (plusA p (b.toNat * 2)) 2 = some [.int .i64 rb.fr, .int .i64 rb.to] := inp_item gV_len hin rfl hrb
  rw [cA_at hra, cA_at hrb] at hk
  simp (maxSteps := 2000000) -implicitDefEqProofs only [↓x69, ↓r69, ↓G69, ↓a62, ↓a50, hp, f1, f2, ha.1, ha.2, hb.1, hb.2, s_alt, s_alt20, s_alt2t, s_alt2f, ↓s_loopi, ↓v_pq, ↓PRE, POST, CORE, Nat.reduceDiv, Nat.reduceMod, Int.reduceLT, Int.reduceLE, Int.reduceToNat, Int.reduceAdd, ↓reduceIte, Nat.reduceEqDiff, Nat.reduceAdd, Nat.reduceMul, Nat.reduceSub, Nat.reduceLeDiff, Nat.reduceLT, reduceCtorEq, if_true, eq_self, forall_const, implies_true]
  exact hk
def swp (L : List Int) (j : Nat) : List Int := (L.set (j + 1) (L.getD j 0)).set j (L.getD (j + 1) 0)
def bub (c : Int → Int) : Nat → List Int → List Int
  | 0, L => L
  | j + 1, L => if c (L.getD (j + 1) 0) < c (L.getD j 0) then bub c j (swp L j) else L
def isI (c : Int → Int) (L : List Int) : Nat → List Int
  | 0 => L
  | i + 1 => bub c (i + 1) (isI c L i)
def isN (c : Int → Int) (L : List Int) : List Int := isI c L (L.length - 1)
theorem swp_len (L : List Int) (j : Nat) : (swp L j).length = L.length := by simp [swp]
theorem bub_len (c : Int → Int) : ∀ (j : Nat) (L : List Int), (bub c j L).length = L.length
  | 0, L => rfl
  | j + 1, L => by
    unfold bub
    split
    · rw [bub_len c j, swp_len]
    · rfl
theorem isI_len (c : Int → Int) (L : List Int) : ∀ i, (isI c L i).length = L.length
  | 0 => rfl
  | i + 1 => by rw [isI, bub_len, isI_len c L i]
def inR (l : List Ra.Rg) (L : List Int) : Prop := ∀ i ∈ L, 0 ≤ i ∧ i < l.length
theorem getD_mem {L : List Int} {i : Nat} (h : i < L.length) : L.getD i 0 ∈ L := by
  rw [List.getD_eq_getElem?_getD, List.getElem?_eq_getElem h]
  exact List.getElem_mem h
theorem swp_in {l : List Ra.Rg} {L : List Int} {j : Nat} (hj : j + 1 < L.length) (h : inR l L) : inR l (swp L j) := fun i hi => by
  unfold swp at hi
  rcases List.mem_or_eq_of_mem_set hi with hi | rfl
  · rcases List.mem_or_eq_of_mem_set hi with hi | rfl
    · exact h i hi
    · exact h _ (getD_mem (by omega))
  · exact h _ (getD_mem hj)
theorem bub_in {l : List Ra.Rg} (c : Int → Int) : ∀ (j : Nat) {L : List Int}, j < L.length → inR l L → inR l (bub c j L)
  | 0, L, _, h => h
  | j + 1, L, hj, h => by
    unfold bub
    split
    · exact bub_in c j (by rw [swp_len]; omega) (swp_in hj h)
    · exact h
theorem isI_in {l : List Ra.Rg} (c : Int → Int) {L : List Int} (h : inR l L) : ∀ i, i ≤ L.length - 1 → inR l (isI c L i)
  | 0, _ => h
  | i + 1, hi => bub_in c (i + 1) (by rw [isI_len]; omega) (isI_in c h i (by omega))
def mem3 (o1 o2 : Bool) (p : Option Addr) (n c : Nat) (pg : Int) (L : List Int) : Mem := [⟨o1, [.v (.slice p n c)]⟩, ⟨o2, [.v (.int .i64 pg)]⟩, ⟨true, iL L⟩]
def c118 [Inp] : Trans := fun args m k => ∃ (p : Option Addr) (c : Nat) (l : List Ra.Rg) (n : Int) (o1 o2 : Bool) (L : List Int), args = [.row 2 0 L.length 1, .v (.int .i64 0), .v (.int .i64 L.length), .fn 69 [.ptr 0 0, .ptr 1 0]] ∧ m = mem3 o1 o2 p l.length c n L ∧ inpL p (l.length * 2) = some (rowV gV l) ∧ L.length ≤ 1000 ∧ inR l L ∧ k (.tup []) (mem3 o1 o2 p l.length c n (isN (cA l n) L))
def G118 [Inp] : List CEntry := [⟨69, true, c69⟩]
theorem i69 [Inp] {l : List SV} {m : Mem} {K : SV → Mem → Prop} : c69 l m K = @useI c69 l m ⟨K⟩ := Eq.trans rfl rfl
theorem s118 [Inp] : GOk Try.prog G118 := GOk.cons c69_ok (g0 _)
theorem c118_ok [I : Inp] : Contract Try.prog 118 false c118 := by
  refine .full fn118 (G := fun J => @G118 J) (fun J => @s118 J) _ fun args m k h => ?_
  obtain ⟨p, c, l, n, o1, o2, L, rfl, rfl, hin, hmax, hr, hk⟩ := h
  refine ⟨by simp, fun J hJ hat => ?_⟩
  replace hJ : J.keep = 3 := hJ
  replace hin : @inpL J p (l.length * 2) = some (rowV gV l) := by rw [← hin]; unfold inpL; rw [hat]
  unfold mem3 at hk ⊢
  have w0 : IntKind.i64.wrap ((0 : Int) + 1) = 1 := rfl
  have w00 : IntKind.i64.wrap 1 = 1 := rfl
  simp (maxSteps := 2000000) -implicitDefEqProofs only [↓x118, ↓r118, w0, s_alt, s_alt20, s_alt2t, s_alt2f, ↓s_loopi, ↓v_pq, ↓PRE, POST, CORE, Nat.reduceDiv, Nat.reduceMod, Int.reduceLT, Int.reduceLE, Int.reduceToNat, Int.reduceAdd, ↓reduceIte, Nat.reduceEqDiff, Nat.reduceAdd, Nat.reduceMul, Nat.reduceSub, Nat.reduceLeDiff, Nat.reduceLT, reduceCtorEq, if_true, eq_self, forall_const, implies_true]
  refine TXi_of (TX_count (@s118 J) (L.length - 1) (fun x => [(0, .row 2 0 L.length 1), (1, .v (.int .i64 0)), (2, .v (.int .i64 (L.length : Int))), (3, .fn 69 [.ptr 0 0, .ptr 1 0]), (8, .v (.int .i64 ((x : Int) + 1)))]) (fun x => [⟨o1, [.v (.slice p l.length c)]⟩, ⟨o2, [.v (.int .i64 n)]⟩, ⟨true, iL (isI (cA l n) L x)⟩]) (fun x => True) trivial ?_ ?_ ?_)
  · exact ⟨[0, 1, 2], by simp [NdL, NdA, oO_cells, oO_own, iL_nil], by simp only [FitM, ObLe, LeL, Le, List.cons_append, List.nil_append] <;> (try (simp (maxSteps := 2000000) -implicitDefEqProofs only [w00, isI, iL_fold, iL_over, iL_all, iL_get, iL_len, iL_take, iL_drop, iL_one, iL_plain, iL_le, List.length_set, s_alt, s_alt20, s_alt2t, s_alt2f, ↓s_loopi, ↓v_pq, ↓PRE, POST, CORE, Nat.reduceDiv, Nat.reduceMod, Int.reduceLT, Int.reduceLE, Int.reduceToNat, Int.reduceAdd, ↓reduceIte, Nat.reduceEqDiff, Nat.reduceAdd, Nat.reduceMul, Nat.reduceSub, Nat.reduceLeDiff, Nat.reduceLT, reduceCtorEq, if_true, eq_self, forall_const, implies_true])) <;> (try simp), by simp only [FitE, Le, LeL, List.cons_append, List.nil_append] <;> (try (simp (maxSteps := 2000000) -implicitDefEqProofs only [w00, isI, iL_fold, iL_over, iL_all, iL_get, iL_len, iL_take, iL_drop, iL_one, iL_plain, iL_le, List.length_set, s_alt, s_alt20, s_alt2t, s_alt2f, ↓s_loopi, ↓v_pq, ↓PRE, POST, CORE, Nat.reduceDiv, Nat.reduceMod, Int.reduceLT, Int.reduceLE, Int.reduceToNat, Int.reduceAdd, ↓reduceIte, Nat.reduceEqDiff, Nat.reduceAdd, Nat.reduceMul, Nat.reduceSub, Nat.reduceLeDiff, Nat.reduceLT, reduceCtorEq, if_true, eq_self, forall_const, implies_true])) <;> (try simp only [Sz.Le, Sz.LeL, List.getElem?_cons_zero, List.getElem?_cons_succ]) <;> (try simp), keep3 hJ⟩
  · intro x hx _
    have hIl := isI_len (cA l n) L x
    have hIr := isI_in (cA l n) hr x (by omega)
    have hnx : isI (cA l n) L (x + 1) = bub (cA l n) (x + 1) (isI (cA l n) L x) := rfl
    rw [hnx]
    generalize isI (cA l n) L x = L0 at hIl hIr ⊢
    have i1 : (x : Int) + 1 < (L.length : Int) := by omega
    simp (maxSteps := 2000000) -implicitDefEqProofs only [i1, s_alt, s_alt20, s_alt2t, s_alt2f, ↓s_loopi, ↓v_pq, ↓PRE, POST, CORE, Nat.reduceDiv, Nat.reduceMod, Int.reduceLT, Int.reduceLE, Int.reduceToNat, Int.reduceAdd, ↓reduceIte, Nat.reduceEqDiff, Nat.reduceAdd, Nat.reduceMul, Nat.reduceSub, Nat.reduceLeDiff, Nat.reduceLT, reduceCtorEq, if_true, eq_self, forall_const, implies_true]
    refine TXi_of (TX_loop (@s118 J) (X := { q : Nat × List Int // q.1 ≤ x + 1 ∧ q.2.length = L.length ∧ inR l q.2 ∧ bub (cA l n) q.1 q.2 = bub (cA l n) (x + 1) L0 }) (fun q => [(0, .row 2 0 L.length 1), (1, .v (.int .i64 0)), (2, .v (.int .i64 (L.length : Int))), (3, .fn 69 [.ptr 0 0, .ptr 1 0]), (8, .v (.int .i64 ((x : Int) + 1))), (9, .v (.int .i64 (q.1.1 : Int)))]) (fun q => [⟨o1, [.v (.slice p l.length c)]⟩, ⟨o2, [.v (.int .i64 n)]⟩, ⟨true, iL q.1.2⟩]) (fun q => q.1.1) ⟨(x + 1, L0), Nat.le_refl _, hIl, hIr, rfl⟩ ?_ ?_)
    · exact ⟨[0, 1, 2], by simp [NdL, NdA, oO_cells, oO_own, iL_nil], by simp only [FitM, ObLe, LeL, Le, List.cons_append, List.nil_append] <;> (try (simp (maxSteps := 2000000) -implicitDefEqProofs only [Int.natCast_add, Int.cast_ofNat_Int, iL_fold, iL_over, iL_all, iL_get, iL_len, iL_take, iL_drop, iL_one, iL_plain, iL_le, List.length_set, s_alt, s_alt20, s_alt2t, s_alt2f, ↓s_loopi, ↓v_pq, ↓PRE, POST, CORE, Nat.reduceDiv, Nat.reduceMod, Int.reduceLT, Int.reduceLE, Int.reduceToNat, Int.reduceAdd, ↓reduceIte, Nat.reduceEqDiff, Nat.reduceAdd, Nat.reduceMul, Nat.reduceSub, Nat.reduceLeDiff, Nat.reduceLT, reduceCtorEq, if_true, eq_self, forall_const, implies_true])) <;> (try simp), by simp only [FitE, Le, LeL, List.cons_append, List.nil_append] <;> (try (simp (maxSteps := 2000000) -implicitDefEqProofs only [Int.natCast_add, Int.cast_ofNat_Int, iL_fold, iL_over, iL_all, iL_get, iL_len, iL_take, iL_drop, iL_one, iL_plain, iL_le, List.length_set, s_alt, s_alt20, s_alt2t, s_alt2f, ↓s_loopi, ↓v_pq, ↓PRE, POST, CORE, Nat.reduceDiv, Nat.reduceMod, Int.reduceLT, Int.reduceLE, Int.reduceToNat, Int.reduceAdd, ↓reduceIte, Nat.reduceEqDiff, Nat.reduceAdd, Nat.reduceMul, Nat.reduceSub, Nat.reduceLeDiff, Nat.reduceLT, reduceCtorEq, if_true, eq_self, forall_const, implies_true])) <;> (try simp only [Sz.Le, Sz.LeL, List.getElem?_cons_zero, List.getElem?_cons_succ]) <;> (try simp), keep3 hJ⟩
    · rintro ⟨⟨j, Z⟩, hj, hZl, hZr, hZ⟩
      simp only at hj hZl hZr hZ ⊢
      have w2 : IntKind.i64.wrap ((x : Int) + 1 + 1) = (x : Int) + 2 := by
        rw [show (x : Int) + 1 + 1 = (x : Int) + 2 by omega]
        exact Sz.w_64 (by omega) (by omega)
      have e2 : ((x + 1 : Nat) : Int) + 1 = (x : Int) + 2 := by omega
      cases j with
      | zero =>
        have h0 : ¬ (0 : Int) < 0 := by omega
        rw [show Z = bub (cA l n) (x + 1) L0 from hZ]
        simp (maxSteps := 2000000) -implicitDefEqProofs only [gt_iff_lt, Int.natCast_zero, h0, w2, ↓G118, ↓i69, s_alt, s_alt20, s_alt2t, s_alt2f, ↓s_loopi, ↓v_pq, ↓PRE, POST, CORE, Nat.reduceDiv, Nat.reduceMod, Int.reduceLT, Int.reduceLE, Int.reduceToNat, Int.reduceAdd, ↓reduceIte, Nat.reduceEqDiff, Nat.reduceAdd, Nat.reduceMul, Nat.reduceSub, Nat.reduceLeDiff, Nat.reduceLT, reduceCtorEq, if_true, eq_self, forall_const, implies_true]
        exact ⟨[0, 1, 2], by simp [NdL, NdA, oO_cells, oO_own, iL_nil], by simp only [FitM, ObLe, LeL, Le, List.cons_append, List.nil_append] <;> (try (simp (maxSteps := 2000000) -implicitDefEqProofs only [e2, w2, iL_fold, iL_over, iL_all, iL_get, iL_len, iL_take, iL_drop, iL_one, iL_plain, iL_le, List.length_set, s_alt, s_alt20, s_alt2t, s_alt2f, ↓s_loopi, ↓v_pq, ↓PRE, POST, CORE, Nat.reduceDiv, Nat.reduceMod, Int.reduceLT, Int.reduceLE, Int.reduceToNat, Int.reduceAdd, ↓reduceIte, Nat.reduceEqDiff, Nat.reduceAdd, Nat.reduceMul, Nat.reduceSub, Nat.reduceLeDiff, Nat.reduceLT, reduceCtorEq, if_true, eq_self, forall_const, implies_true])) <;> (try simp), by simp only [FitE, Le, LeL, List.cons_append, List.nil_append] <;> (try (simp (maxSteps := 2000000) -implicitDefEqProofs only [e2, w2, iL_fold, iL_over, iL_all, iL_get, iL_len, iL_take, iL_drop, iL_one, iL_plain, iL_le, List.length_set, s_alt, s_alt20, s_alt2t, s_alt2f, ↓s_loopi, ↓v_pq, ↓PRE, POST, CORE, Nat.reduceDiv, Nat.reduceMod, Int.reduceLT, Int.reduceLE, Int.reduceToNat, Int.reduceAdd, ↓reduceIte, Nat.reduceEqDiff, Nat.reduceAdd, Nat.reduceMul, Nat.reduceSub, Nat.reduceLeDiff, Nat.reduceLT, reduceCtorEq, if_true, eq_self, forall_const, implies_true])) <;> (try simp only [Sz.Le, Sz.LeL, List.getElem?_cons_zero, List.getElem?_cons_succ]) <;> (try simp), keep3 hJ⟩
      | succ j =>
        have j0 : (0 : Int) < ((j + 1 : Nat) : Int) := by omega
        have j1 : (0 : Int) ≤ ((j + 1 : Nat) : Int) := by omega
        have j2 : ((j + 1 : Nat) : Int) < (L.length : Int) := by omega
        have w3 : IntKind.i64.wrap (((j + 1 : Nat) : Int) - 1) = (j : Int) := by
          rw [show ((j + 1 : Nat) : Int) - 1 = (j : Int) by omega]
          exact Sz.w_64 (by omega) (by omega)
        have j3 : (0 : Int) ≤ (j : Int) := by omega
        have j4 : (j : Int) < (L.length : Int) := by omega
        have hc1 : (iL Z)[j + 1]? = some (.v (.int .i64 (Z.getD (j + 1) 0))) := iL_get (by omega)
        have hc0 : (iL Z)[j]? = some (.v (.int .i64 (Z.getD j 0))) := iL_get (by omega)
        have e1 : ((j + 1 : Nat) : Int).toNat = j + 1 := rfl
        simp (maxSteps := 2000000) -implicitDefEqProofs only [gt_iff_lt, j0, j1, j2, j3, j4, w3, hc1, hc0, Int.toNat_natCast, ↓G118, ↓i69, s_alt, s_alt20, s_alt2t, s_alt2f, ↓s_loopi, ↓v_pq, ↓PRE, POST, CORE, Nat.reduceDiv, Nat.reduceMod, Int.reduceLT, Int.reduceLE, Int.reduceToNat, Int.reduceAdd, ↓reduceIte, Nat.reduceEqDiff, Nat.reduceAdd, Nat.reduceMul, Nat.reduceSub, Nat.reduceLeDiff, Nat.reduceLT, reduceCtorEq, if_true, eq_self, forall_const, implies_true]
        refine useI_of ⟨p, c, l, n, _, _, o1, o2, 0, 1, rfl, by decide, rfl, rfl, hin, hZr _ (getD_mem (by omega)), hZr _ (getD_mem (by omega)), ?_⟩
        by_cases hlt : cA l n (Z.getD (j + 1) 0) < cA l n (Z.getD j 0)
        · have hb := (cmpF_lt _ _).2 hlt
          have hs : (Z.set (j + 1) (Z.getD j 0)).set j (Z.getD (j + 1) 0) = swp Z j := rfl
          have hbb : bub (cA l n) j (swp Z j) = bub (cA l n) (x + 1) L0 := by rw [← hZ, bub, if_pos hlt]
          have k1 : j + 1 < Z.length := by omega
          have k2 : j < Z.length := by omega
          generalize Z.getD (j + 1) 0 = u at *
          generalize Z.getD j 0 = v at *
          simp (maxSteps := 2000000) -implicitDefEqProofs only [↓v_kq, hb, gt_iff_lt, j0, j1, j2, j3, j4, w3, hc1, hc0, Int.toNat_natCast, ↓G118, ↓i69, k1, k2, hs, iL_fold, iL_over, iL_all, iL_get, iL_len, iL_take, iL_drop, iL_one, iL_plain, iL_le, List.length_set, s_alt, s_alt20, s_alt2t, s_alt2f, ↓s_loopi, ↓v_pq, ↓PRE, POST, CORE, Nat.reduceDiv, Nat.reduceMod, Int.reduceLT, Int.reduceLE, Int.reduceToNat, Int.reduceAdd, ↓reduceIte, Nat.reduceEqDiff, Nat.reduceAdd, Nat.reduceMul, Nat.reduceSub, Nat.reduceLeDiff, Nat.reduceLT, reduceCtorEq, if_true, eq_self, forall_const, implies_true]
          exact ⟨by omega, by omega, ⟨(j, swp Z j), by omega, by rw [swp_len]; exact hZl, swp_in (by omega) hZr, hbb⟩, by simp only; omega, ⟨[0, 1, 2], by simp [NdL, NdA, oO_cells, oO_own, iL_nil], by simp only [FitM, ObLe, LeL, Le, List.cons_append, List.nil_append] <;> (try (simp (maxSteps := 2000000) -implicitDefEqProofs only [iL_fold, iL_over, iL_all, iL_get, iL_len, iL_take, iL_drop, iL_one, iL_plain, iL_le, List.length_set, s_alt, s_alt20, s_alt2t, s_alt2f, ↓s_loopi, ↓v_pq, ↓PRE, POST, CORE, Nat.reduceDiv, Nat.reduceMod, Int.reduceLT, Int.reduceLE, Int.reduceToNat, Int.reduceAdd, ↓reduceIte, Nat.reduceEqDiff, Nat.reduceAdd, Nat.reduceMul, Nat.reduceSub, Nat.reduceLeDiff, Nat.reduceLT, reduceCtorEq, if_true, eq_self, forall_const, implies_true])) <;> (try simp), by simp only [FitE, Le, LeL, List.cons_append, List.nil_append] <;> (try (simp (maxSteps := 2000000) -implicitDefEqProofs only [iL_fold, iL_over, iL_all, iL_get, iL_len, iL_take, iL_drop, iL_one, iL_plain, iL_le, List.length_set, s_alt, s_alt20, s_alt2t, s_alt2f, ↓s_loopi, ↓v_pq, ↓PRE, POST, CORE, Nat.reduceDiv, Nat.reduceMod, Int.reduceLT, Int.reduceLE, Int.reduceToNat, Int.reduceAdd, ↓reduceIte, Nat.reduceEqDiff, Nat.reduceAdd, Nat.reduceMul, Nat.reduceSub, Nat.reduceLeDiff, Nat.reduceLT, reduceCtorEq, if_true, eq_self, forall_const, implies_true])) <;> (try simp only [Sz.Le, Sz.LeL, List.getElem?_cons_zero, List.getElem?_cons_succ]) <;> (try simp), keep3 hJ⟩⟩
        · have hb : ¬ cmpF (cA l n (Z.getD (j + 1) 0)) (cA l n (Z.getD j 0)) < 0 := fun h => hlt ((cmpF_lt _ _).1 h)
          have hbb : Z = bub (cA l n) (x + 1) L0 := by rw [← hZ, bub, if_neg hlt]
          simp (maxSteps := 2000000) -implicitDefEqProofs only [↓v_kq, hb, w2, s_alt, s_alt20, s_alt2t, s_alt2f, ↓s_loopi, ↓v_pq, ↓PRE, POST, CORE, Nat.reduceDiv, Nat.reduceMod, Int.reduceLT, Int.reduceLE, Int.reduceToNat, Int.reduceAdd, ↓reduceIte, Nat.reduceEqDiff, Nat.reduceAdd, Nat.reduceMul, Nat.reduceSub, Nat.reduceLeDiff, Nat.reduceLT, reduceCtorEq, if_true, eq_self, forall_const, implies_true]
          rw [← hbb]
          exact ⟨[0, 1, 2], by simp [NdL, NdA, oO_cells, oO_own, iL_nil], by simp only [FitM, ObLe, LeL, Le, List.cons_append, List.nil_append] <;> (try (simp (maxSteps := 2000000) -implicitDefEqProofs only [e2, w2, iL_fold, iL_over, iL_all, iL_get, iL_len, iL_take, iL_drop, iL_one, iL_plain, iL_le, List.length_set, s_alt, s_alt20, s_alt2t, s_alt2f, ↓s_loopi, ↓v_pq, ↓PRE, POST, CORE, Nat.reduceDiv, Nat.reduceMod, Int.reduceLT, Int.reduceLE, Int.reduceToNat, Int.reduceAdd, ↓reduceIte, Nat.reduceEqDiff, Nat.reduceAdd, Nat.reduceMul, Nat.reduceSub, Nat.reduceLeDiff, Nat.reduceLT, reduceCtorEq, if_true, eq_self, forall_const, implies_true])) <;> (try simp), by simp only [FitE, Le, LeL, List.cons_append, List.nil_append] <;> (try (simp (maxSteps := 2000000) -implicitDefEqProofs only [e2, w2, iL_fold, iL_over, iL_all, iL_get, iL_len, iL_take, iL_drop, iL_one, iL_plain, iL_le, List.length_set, s_alt, s_alt20, s_alt2t, s_alt2f, ↓s_loopi, ↓v_pq, ↓PRE, POST, CORE, Nat.reduceDiv, Nat.reduceMod, Int.reduceLT, Int.reduceLE, Int.reduceToNat, Int.reduceAdd, ↓reduceIte, Nat.reduceEqDiff, Nat.reduceAdd, Nat.reduceMul, Nat.reduceSub, Nat.reduceLeDiff, Nat.reduceLT, reduceCtorEq, if_true, eq_self, forall_const, implies_true])) <;> (try simp only [Sz.Le, Sz.LeL, List.getElem?_cons_zero, List.getElem?_cons_succ]) <;> (try simp), keep3 hJ⟩
  · intro _
    have i1 : ¬ ((L.length - 1 : Nat) : Int) + 1 < (L.length : Int) := by omega
    simp (maxSteps := 2000000) -implicitDefEqProofs only [i1, s_alt, s_alt20, s_alt2t, s_alt2f, ↓s_loopi, ↓v_pq, ↓PRE, POST, CORE, Nat.reduceDiv, Nat.reduceMod, Int.reduceLT, Int.reduceLE, Int.reduceToNat, Int.reduceAdd, ↓reduceIte, Nat.reduceEqDiff, Nat.reduceAdd, Nat.reduceMul, Nat.reduceSub, Nat.reduceLeDiff, Nat.reduceLT, reduceCtorEq, if_true, eq_self, forall_const, implies_true]
    exact hk
def c97 [Inp] : Trans := fun args m k => ∃ (p : Option Addr) (c : Nat) (l : List Ra.Rg) (n : Int) (o1 o2 : Bool) (L : List Int), args = [.row 2 0 L.length 1, .v (.int .i64 L.length), .fn 69 [.ptr 0 0, .ptr 1 0]] ∧ m = mem3 o1 o2 p l.length c n L ∧ inpL p (l.length * 2) = some (rowV gV l) ∧ L.length < 20 ∧ inR l L ∧ k (.tup []) (mem3 o1 o2 p l.length c n (isN (cA l n) L))
theorem s97 [Inp] : GOk Try.prog [⟨118, false, c118⟩] := GOk.cons c118_ok (g0 _)
theorem c97_ok [I : Inp] : Contract Try.prog 97 false c97 := by
  refine .full fn97 (G := fun J => [⟨118, false, @c118 J⟩]) (fun J => @s97 J) _ fun args m k h => ?_
  obtain ⟨p, c, l, n, o1, o2, L, rfl, rfl, hin, hmax, hr, hk⟩ := h
  refine ⟨by simp, fun J hJ hat => ?_⟩
  replace hJ : J.keep = 3 := hJ
  replace hin : @inpL J p (l.length * 2) = some (rowV gV l) := by rw [← hin]; unfold inpL; rw [hat]
  unfold mem3 at hk ⊢
  have n1 : ¬ (20 : Int) ≤ (L.length : Int) := by omega
  have n2 : ¬ (20 : Int) < (L.length : Int) := by omega
  simp (maxSteps := 2000000) -implicitDefEqProofs only [↓x97, ↓r97, s_alt, s_alt20, s_alt2t, s_alt2f, ↓s_loopi, ↓v_pq, ↓PRE, POST, CORE, Nat.reduceDiv, Nat.reduceMod, Int.reduceLT, Int.reduceLE, Int.reduceToNat, Int.reduceAdd, ↓reduceIte, Nat.reduceEqDiff, Nat.reduceAdd, Nat.reduceMul, Nat.reduceSub, Nat.reduceLeDiff, Nat.reduceLT, reduceCtorEq, if_true, eq_self, forall_const, implies_true]
  refine TXi_of (TX_count (@s97 J) 0 (fun x => [(0, .row 2 0 L.length 1), (1, .v (.int .i64 (L.length : Int))), (2, .fn 69 [.ptr 0 0, .ptr 1 0]), (6, .v (.int .i64 20)), (7, .v (.int .i64 0)), (8, .v (.int .i64 20))]) (fun x => [⟨o1, [.v (.slice p l.length c)]⟩, ⟨o2, [.v (.int .i64 n)]⟩, ⟨true, iL L⟩]) (fun x => True) trivial ?_ ?_ ?_)
  · exact ⟨[0, 1, 2], by simp [NdL, NdA, oO_cells, oO_own, iL_nil], by simp only [FitM, ObLe, LeL, Le, List.cons_append, List.nil_append] <;> (try (simp (maxSteps := 2000000) -implicitDefEqProofs only [iL_fold, iL_over, iL_all, iL_get, iL_len, iL_take, iL_drop, iL_one, iL_plain, iL_le, List.length_set, s_alt, s_alt20, s_alt2t, s_alt2f, ↓s_loopi, ↓v_pq, ↓PRE, POST, CORE, Nat.reduceDiv, Nat.reduceMod, Int.reduceLT, Int.reduceLE, Int.reduceToNat, Int.reduceAdd, ↓reduceIte, Nat.reduceEqDiff, Nat.reduceAdd, Nat.reduceMul, Nat.reduceSub, Nat.reduceLeDiff, Nat.reduceLT, reduceCtorEq, if_true, eq_self, forall_const, implies_true])) <;> (try simp), by simp only [FitE, Le, LeL, List.cons_append, List.nil_append] <;> (try (simp (maxSteps := 2000000) -implicitDefEqProofs only [iL_fold, iL_over, iL_all, iL_get, iL_len, iL_take, iL_drop, iL_one, iL_plain, iL_le, List.length_set, s_alt, s_alt20, s_alt2t, s_alt2f, ↓s_loopi, ↓v_pq, ↓PRE, POST, CORE, Nat.reduceDiv, Nat.reduceMod, Int.reduceLT, Int.reduceLE, Int.reduceToNat, Int.reduceAdd, ↓reduceIte, Nat.reduceEqDiff, Nat.reduceAdd, Nat.reduceMul, Nat.reduceSub, Nat.reduceLeDiff, Nat.reduceLT, reduceCtorEq, if_true, eq_self, forall_const, implies_true])) <;> (try simp only [Sz.Le, Sz.LeL, List.getElem?_cons_zero, List.getElem?_cons_succ]) <;> (try simp), keep3 hJ⟩
  · intro x hx; omega
  · intro _
    simp (maxSteps := 2000000) -implicitDefEqProofs only [n1, ↓c118, s_alt, s_alt20, s_alt2t, s_alt2f, ↓s_loopi, ↓v_pq, ↓PRE, POST, CORE, Nat.reduceDiv, Nat.reduceMod, Int.reduceLT, Int.reduceLE, Int.reduceToNat, Int.reduceAdd, ↓reduceIte, Nat.reduceEqDiff, Nat.reduceAdd, Nat.reduceMul, Nat.reduceSub, Nat.reduceLeDiff, Nat.reduceLT, reduceCtorEq, if_true, eq_self, forall_const, implies_true]
    refine ⟨p, c, l, n, o1, o2, L, rfl, rfl, hin, by omega, hr, ?_⟩
    unfold mem3
    refine TXi_of (TX_count (@s97 J) 0 (fun x => [(1, .v (.int .i64 (L.length : Int))), (6, .v (.int .i64 20))]) (fun x => [⟨o1, [.v (.slice p l.length c)]⟩, ⟨o2, [.v (.int .i64 n)]⟩, ⟨true, iL (isN (cA l n) L)⟩]) (fun x => True) trivial ?_ ?_ ?_)
    · exact ⟨[0, 1, 2], by simp [NdL, NdA, oO_cells, oO_own, iL_nil], by simp only [FitM, ObLe, LeL, Le, List.cons_append, List.nil_append] <;> (try (simp (maxSteps := 2000000) -implicitDefEqProofs only [iL_fold, iL_over, iL_all, iL_get, iL_len, iL_take, iL_drop, iL_one, iL_plain, iL_le, List.length_set, s_alt, s_alt20, s_alt2t, s_alt2f, ↓s_loopi, ↓v_pq, ↓PRE, POST, CORE, Nat.reduceDiv, Nat.reduceMod, Int.reduceLT, Int.reduceLE, Int.reduceToNat, Int.reduceAdd, ↓reduceIte, Nat.reduceEqDiff, Nat.reduceAdd, Nat.reduceMul, Nat.reduceSub, Nat.reduceLeDiff, Nat.reduceLT, reduceCtorEq, if_true, eq_self, forall_const, implies_true])) <;> (try simp), by simp only [FitE, Le, LeL, List.cons_append, List.nil_append] <;> (try (simp (maxSteps := 2000000) -implicitDefEqProofs only [iL_fold, iL_over, iL_all, iL_get, iL_len, iL_take, iL_drop, iL_one, iL_plain, iL_le, List.length_set, s_alt, s_alt20, s_alt2t, s_alt2f, ↓s_loopi, ↓v_pq, ↓PRE, POST, CORE, Nat.reduceDiv, Nat.reduceMod, Int.reduceLT, Int.reduceLE, Int.reduceToNat, Int.reduceAdd, ↓reduceIte, Nat.reduceEqDiff, Nat.reduceAdd, Nat.reduceMul, Nat.reduceSub, Nat.reduceLeDiff, Nat.reduceLT, reduceCtorEq, if_true, eq_self, forall_const, implies_true])) <;> (try simp only [Sz.Le, Sz.LeL, List.getElem?_cons_zero, List.getElem?_cons_succ]) <;> (try simp), keep3 hJ⟩
    · intro x hx; omega
    · intro _
      simp (maxSteps := 2000000) -implicitDefEqProofs only [n2, s_alt, s_alt20, s_alt2t, s_alt2f, ↓s_loopi, ↓v_pq, ↓PRE, POST, CORE, Nat.reduceDiv, Nat.reduceMod, Int.reduceLT, Int.reduceLE, Int.reduceToNat, Int.reduceAdd, ↓reduceIte, Nat.reduceEqDiff, Nat.reduceAdd, Nat.reduceMul, Nat.reduceSub, Nat.reduceLeDiff, Nat.reduceLT, reduceCtorEq, if_true, eq_self, forall_const, implies_true]
      exact hk
def c68 [Inp] : Trans := fun args m k => ∃ (p : Option Addr) (c : Nat) (l : List Ra.Rg) (n : Int) (o1 o2 : Bool) (L : List Int), args = [.row 2 0 L.length 1, .fn 69 [.ptr 0 0, .ptr 1 0]] ∧ m = mem3 o1 o2 p l.length c n L ∧ inpL p (l.length * 2) = some (rowV gV l) ∧ L.length < 20 ∧ inR l L ∧ k (.tup []) (mem3 o1 o2 p l.length c n (isN (cA l n) L))
theorem s97' [Inp] : GOk Try.prog [⟨97, false, c97⟩] := GOk.cons c97_ok (g0 _)
theorem c68_ok [I : Inp] : Contract Try.prog 68 false c68 := by
  refine .full fn68 (G := fun J => [⟨97, false, @c97 J⟩]) (fun J => @s97' J) _ fun args m k h => ?_
  obtain ⟨p, c, l, n, o1, o2, L, rfl, rfl, hin, hmax, hr, hk⟩ := h
  refine ⟨by simp, fun J hJ hat => ?_⟩
  replace hin : @inpL J p (l.length * 2) = some (rowV gV l) := by rw [← hin]; unfold inpL; rw [hat]
  simp (maxSteps := 2000000) -implicitDefEqProofs only [↓x68, ↓r68, ↓c97, s_alt, s_alt20, s_alt2t, s_alt2f, ↓s_loopi, ↓v_pq, ↓PRE, POST, CORE, Nat.reduceDiv, Nat.reduceMod, Int.reduceLT, Int.reduceLE, Int.reduceToNat, Int.reduceAdd, ↓reduceIte, Nat.reduceEqDiff, Nat.reduceAdd, Nat.reduceMul, Nat.reduceSub, Nat.reduceLeDiff, Nat.reduceLT, reduceCtorEq, if_true, eq_self, forall_const, implies_true]
  exact ⟨p, c, l, n, o1, o2, L, rfl, rfl, hin, hmax, hr, hk⟩
def mostF (l : List Ra.Rg) (b n : Int) : List Int := grantF l (isN (cA l n) (idN l.length)) b n
def c36 [Inp] : Trans := fun args m k => ∃ (s : SV) (l : List Ra.Rg) (b n : Int), args = [s, .v (.int .i64 b), .v (.int .i64 n)] ∧ rdG m s = some l ∧ l.length < 20 ∧ k (rS m.length 1 (mostF l b n).length) (m ++ rM (iL (mostF l b n)))
def G36 [Inp] : List CEntry := [⟨66, true, c66⟩, ⟨67, true, c67⟩, ⟨68, false, c68⟩]
theorem s36 [Inp] : GOk Try.prog G36 := GOk.cons c66_ok (GOk.cons c67_ok (GOk.cons c68_ok (g0 _)))
theorem c36_ok [I : Inp] : Contract Try.prog 36 true c36 := by
  refine .readF3 fn36 (G := fun J => @G36 J) (fun J => @s36 J) _ fun args m k h => ?_
  obtain ⟨s, l, b, n, rfl, hl, hmax, hk⟩ := h
  refine ⟨by simp, fun J hJ us hus => ?_⟩
  obtain ⟨u, t1, rfl, hu1, u2, t2, rfl, hu2, u3, t3, rfl, hu3, rfl⟩ := hus
  obtain rfl := hu2.1 _ rfl
  obtain rfl := hu3.1 _ rfl
  obtain ⟨p, cc, rfl, hin⟩ := rdG_knows hl hu1
  rw [List.map_cons, List.map_cons, List.map_cons, List.map_nil, of_sl, of_int, of_int]
  have hil := idN_len l.length
  simp (maxSteps := 2000000) -implicitDefEqProofs only [↓x36, ↓r36, ↓G36, ↓c66, ↓c67, ↓c68, s_alt, s_alt20, s_alt2t, s_alt2f, ↓s_loopi, ↓v_pq, ↓PRE, POST, CORE, Nat.reduceDiv, Nat.reduceMod, Int.reduceLT, Int.reduceLE, Int.reduceToNat, Int.reduceAdd, ↓reduceIte, Nat.reduceEqDiff, Nat.reduceAdd, Nat.reduceMul, Nat.reduceSub, Nat.reduceLeDiff, Nat.reduceLT, reduceCtorEq, if_true, eq_self, forall_const, implies_true]
  refine ⟨_, l, rfl, rdG_v hin, by omega, ?_⟩
  have hisl : (isN (cA l n) (idN l.length)).length = l.length := by unfold isN; rw [isI_len, hil]
  have hisr : inR l (isN (cA l n) (idN l.length)) := isI_in _ (idN_in _) _ (Nat.le_refl _)
  refine ⟨p, cc, l, n, true, true, idN l.length, by rw [hil], rfl, hin, by omega, idN_in _, ?_⟩
  unfold mem3
  unfold mostF at hk
  generalize isN (cA l n) (idN l.length) = O at hisl hisr hk ⊢
  simp (maxSteps := 2000000) -implicitDefEqProofs only [s_alt, s_alt20, s_alt2t, s_alt2f, ↓s_loopi, ↓v_pq, ↓PRE, POST, CORE, Nat.reduceDiv, Nat.reduceMod, Int.reduceLT, Int.reduceLE, Int.reduceToNat, Int.reduceAdd, ↓reduceIte, Nat.reduceEqDiff, Nat.reduceAdd, Nat.reduceMul, Nat.reduceSub, Nat.reduceLeDiff, Nat.reduceLT, reduceCtorEq, if_true, eq_self, forall_const, implies_true]
  refine ⟨_, _, l, O, b, n, rfl, rdG_v hin, ?_, by omega, by omega, hisr, ?_⟩
  · rw [← hisl]
    exact rdI_r rfl
  by_cases hZ : grantF l O b n = []
  · obtain ⟨e8, e9⟩ := nil_facts hZ
    rw [e8, e9] at hk ⊢
    rw [List.append_nil] at hk
    refine ⟨[], .v (.slice none 0 0), [], by simp [NdL], trivial, by simp, by simp only [Le], ?_⟩
    simpa [SV.up] using hk
  · obtain ⟨e8, e9⟩ := ne_facts hZ
    rw [e8, e9] at hk ⊢
    exact fin_i _ _ _ 3 rfl hk
end Qu
end Go.Proofs.Ytcejgadbpahbmaa
end
