/- Layer 46 (tally): tallies; by symbolic walks. -/
import Derived.Test.YtppndeoiifkkkaaTaA
namespace Go.Proofs.Ytppndeoiifkkkaa
open Go.RowKit Sz
set_option linter.unusedVariables false
set_option linter.unusedSimpArgs false
set_option maxHeartbeats 4000000
set_option maxRecDepth 20000
-- almshouse/tally.one (1 parameters)
def x110 : XC := (.seq (.tree (.seq ⟨some 1, none, (.box (.tmp 0))⟩
  (.seq ⟨some 2, none, (.alloc [(.v (.int .i64 0)), (.v (.int .i64 0)), (.v (.int .i64 0)), (.v (.int .i64 0)), (.v (.int .i64 0)), (.v (.int .i64 0)), (.v (.int .i64 0)), (.v (.int .i64 0)), (.v (.int .i64 0)), (.v (.int .i64 0)), (.v (.int .i64 0)), (.v (.int .i64 0)), (.v (.int .i64 0)), (.v (.int .i64 0)), (.v (.int .i64 0)), (.v (.int .i64 0)), (.v (.int .i64 0)), (.v (.int .i64 0)), (.v (.int .i64 0)), (.v (.int .i64 0))])⟩
  .done)))
 (.seq (.tree (.seq ⟨some 4, none, (.ofA (.faddr 2 (.tmp 1)))⟩
  (.seq ⟨some 5, none, (.ofA (.load none (.tmp 4)))⟩
  (.seq ⟨some 6, none, (.ofA (.lens (.tmp 5)))⟩
  (.seq ⟨some 7, none, (.ofA (.faddr 0 (.tmp 1)))⟩
  (.seq ⟨some 8, none, (.ofA (.load none (.tmp 7)))⟩
  (.seq ⟨some 9, none, (.ofA (.faddr 0 (.tmp 1)))⟩
  (.seq ⟨some 10, none, (.ofA (.load none (.tmp 9)))⟩
  (.seq ⟨some 11, none, (.build [(.v (.int .i64 0)), (.v (.int .i64 0)), (.v (.int .i64 0)), (.v (.int .i64 0)), (.v (.int .i64 0)), (.v (.int .i64 0)), (.v (.int .i64 0)), (.v (.int .i64 0)), (.v (.int .i64 0)), (.v (.int .i64 0)), (.v (.int .i64 0)), (.v (.int .i64 0)), (.v (.int .i64 0)), (.v (.int .i64 0)), (.v (.int .i64 0)), (.v (.int .i64 0)), (.v (.int .i64 0)), (.v (.int .i64 0)), (.v (.int .i64 0)), (.v (.int .i64 0))] [(16, 1, (.tmp 6)), (17, 1, (.tmp 8)), (18, 1, (.tmp 10))])⟩
  (.seq ⟨some 3, none, (.alloc [(.v (.int .i64 0)), (.v (.int .i64 0)), (.v (.int .i64 0)), (.v (.int .i64 0)), (.v (.int .i64 0)), (.v (.int .i64 0)), (.v (.int .i64 0)), (.v (.int .i64 0)), (.v (.int .i64 0)), (.v (.int .i64 0)), (.v (.int .i64 0)), (.v (.int .i64 0)), (.v (.int .i64 0)), (.v (.int .i64 0)), (.v (.int .i64 0)), (.v (.int .i64 0)), (.v (.int .i64 0)), (.v (.int .i64 0)), (.v (.int .i64 0)), (.v (.int .i64 0))])⟩
  (.seq ⟨none, none, (.store 20 (.tmp 3) (.tmp 11))⟩
  .done)))))))))))
 (.seq (.seq (.tree (.seq ⟨some 12, none, (.ofA (.faddr 1 (.tmp 1)))⟩
  (.seq ⟨some 13, none, (.ofA (.load none (.tmp 12)))⟩
  (.seq ⟨some 14, none, (.ofA (.bin .geq (.tmp 13) (.cst (.v (.int .i64 0)))))⟩
  (.seq ⟨some 15, none, (.ofA (.mv (.tmp 14)))⟩
  (.seq ⟨some 16, some (15, true), (.ofA (.faddr 1 (.tmp 1)))⟩
  (.seq ⟨some 17, some (15, true), (.ofA (.load none (.tmp 16)))⟩
  (.seq ⟨some 18, some (15, true), (.ofA (.bin .lss (.tmp 17) (.cst (.v (.int .i64 16)))))⟩
  (.seq ⟨some 19, none, (.ofA (.pick (.tmp 15) (.tmp 18) (.cst (.v (.bool false)))))⟩
  .done)))))))))
 (.cond (.tmp 19)
 (.tree (.seq ⟨some 20, none, (.ofA (.faddr 1 (.tmp 1)))⟩
  (.seq ⟨some 21, none, (.ofA (.load none (.tmp 20)))⟩
  (.seq ⟨some 22, none, (.ofA (.faddr 0 (.tmp 3)))⟩
  (.seq ⟨some 23, none, (.ofA (.iarr 16 1 (.tmp 22) (.tmp 21)))⟩
  (.seq ⟨some 24, none, (.ofA (.load none (.tmp 23)))⟩
  (.seq ⟨some 25, none, (.ofA (.bin .add (.tmp 24) (.cst (.v (.int .i64 1)))))⟩
  (.seq ⟨some 26, none, (.ofA (.faddr 0 (.tmp 3)))⟩
  (.seq ⟨some 27, none, (.ofA (.iarr 16 1 (.tmp 26) (.tmp 21)))⟩
  (.seq ⟨none, none, (.store 1 (.tmp 27) (.tmp 25))⟩
  .done))))))))))
 .skip))
 (.seq (.tree (.seq ⟨some 28, none, (.ofA (.load (some 20) (.tmp 3)))⟩
  (.seq ⟨none, none, (.store 20 (.tmp 2) (.tmp 28))⟩
  .done)))
 .ret))))
def r110 : List XR := [.cell 2 (some 20)]
theorem fn110 : FnX Try.prog 110 [] 29 x110 r110 := ⟨_, Try.func110, by kernel_rfl, by kernel_rfl, by kernel_rfl, by kernel_rfl⟩
-- almshouse/tally.Add (2 parameters)
def x59 : XC := (.seq (.tree (.seq ⟨some 2, none, (.box (.tmp 0))⟩
  (.seq ⟨some 3, none, (.box (.tmp 1))⟩
  (.seq ⟨some 4, none, (.alloc [(.v (.int .i64 0)), (.v (.int .i64 0)), (.v (.int .i64 0)), (.v (.int .i64 0)), (.v (.int .i64 0)), (.v (.int .i64 0)), (.v (.int .i64 0)), (.v (.int .i64 0)), (.v (.int .i64 0)), (.v (.int .i64 0)), (.v (.int .i64 0)), (.v (.int .i64 0)), (.v (.int .i64 0)), (.v (.int .i64 0)), (.v (.int .i64 0)), (.v (.int .i64 0)), (.v (.int .i64 0)), (.v (.int .i64 0)), (.v (.int .i64 0)), (.v (.int .i64 0))])⟩
  .done))))
 (.seq (.seq (.tree (.seq ⟨some 7, none, (.ofA (.faddr 0 (.tmp 3)))⟩
  (.seq ⟨some 8, none, (.ofA (.load (some 16) (.tmp 7)))⟩
  (.seq ⟨some 9, none, (.ofA (.mv (.cst (.v (.int .i64 0)))))⟩
  .done))))
 (.block 0 (.loop (.seq (.tree (.seq ⟨some 10, none, (.ofA (.bin .lss (.tmp 9) (.cst (.v (.int .i64 16)))))⟩
  .done))
 (.seq (.cond (.tmp 10)
 .skip
 (.exit 0))
 (.seq (.block 1 (.seq (.tree (.seq ⟨some 11, none, (.ofA (.mv (.tmp 9)))⟩
  (.seq ⟨some 12, none, (.ofA (.idx 16 1 false (.tmp 8) (.tmp 9)))⟩
  (.seq ⟨some 5, none, (.ofA (.mv (.tmp 11)))⟩
  (.seq ⟨some 6, none, (.ofA (.mv (.tmp 12)))⟩
  .done)))))
 (.tree (.seq ⟨some 13, none, (.ofA (.mv (.tmp 5)))⟩
  (.seq ⟨some 14, none, (.ofA (.faddr 0 (.tmp 2)))⟩
  (.seq ⟨some 15, none, (.ofA (.iarr 16 1 (.tmp 14) (.tmp 13)))⟩
  (.seq ⟨some 16, none, (.ofA (.load none (.tmp 15)))⟩
  (.seq ⟨some 17, none, (.ofA (.mv (.tmp 6)))⟩
  (.seq ⟨some 18, none, (.ofA (.bin .add (.tmp 16) (.tmp 17)))⟩
  (.seq ⟨some 19, none, (.ofA (.faddr 0 (.tmp 2)))⟩
  (.seq ⟨some 20, none, (.ofA (.iarr 16 1 (.tmp 19) (.tmp 13)))⟩
  (.seq ⟨none, none, (.store 1 (.tmp 20) (.tmp 18))⟩
  .done))))))))))))
 (.tree (.seq ⟨some 21, none, (.ofA (.bin .add (.tmp 9) (.cst (.v (.int .i64 1)))))⟩
  (.seq ⟨some 9, none, (.ofA (.mv (.tmp 21)))⟩
  .done)))))))))
 (.seq (.tree (.seq ⟨some 22, none, (.ofA (.faddr 16 (.tmp 2)))⟩
  (.seq ⟨some 23, none, (.ofA (.load none (.tmp 22)))⟩
  (.seq ⟨some 24, none, (.ofA (.faddr 16 (.tmp 3)))⟩
  (.seq ⟨some 25, none, (.ofA (.load none (.tmp 24)))⟩
  (.seq ⟨some 26, none, (.ofA (.bin .add (.tmp 23) (.tmp 25)))⟩
  (.seq ⟨some 27, none, (.ofA (.faddr 16 (.tmp 2)))⟩
  (.seq ⟨none, none, (.store 1 (.tmp 27) (.tmp 26))⟩
  .done))))))))
 (.seq (.tree (.seq ⟨some 28, none, (.ofA (.faddr 19 (.tmp 2)))⟩
  (.seq ⟨some 29, none, (.ofA (.load none (.tmp 28)))⟩
  (.seq ⟨some 30, none, (.ofA (.faddr 19 (.tmp 3)))⟩
  (.seq ⟨some 31, none, (.ofA (.load none (.tmp 30)))⟩
  (.seq ⟨some 32, none, (.ofA (.mx true (.tmp 29) [(.tmp 31)]))⟩
  (.seq ⟨some 33, none, (.ofA (.faddr 19 (.tmp 2)))⟩
  (.seq ⟨none, none, (.store 1 (.tmp 33) (.tmp 32))⟩
  .done))))))))
 (.seq (.block 2 (.seq (.tree (.seq ⟨some 35, none, (.ofA (.faddr 17 (.tmp 2)))⟩
  (.seq ⟨some 36, none, (.ofA (.load none (.tmp 35)))⟩
  (.seq ⟨some 37, none, (.ofA (.bin .eql (.tmp 36) (.cst (.v (.int .i64 (-1))))))⟩
  (.seq ⟨some 34, none, (.ofA (.mv (.tmp 37)))⟩
  .done)))))
 (.cond (.tmp 34)
 (.tree (.take ⟨some 38, none, (.ofA (.faddr 17 (.tmp 3)))⟩
  (.take ⟨some 40, none, (.ofA (.faddr 18 (.tmp 3)))⟩
  (.act false [(⟨some 39, none, (.ofA (.load none (.tmp 38)))⟩,
 (.take ⟨some 42, none, (.ofA (.faddr 17 (.tmp 2)))⟩
  (.act false [(⟨some 41, none, (.ofA (.load none (.tmp 40)))⟩,
 (.act false [(⟨none, none, (.store 1 (.tmp 42) (.tmp 39))⟩,
 (.take ⟨some 43, none, (.ofA (.faddr 18 (.tmp 2)))⟩
  (.act false [(⟨none, none, (.store 1 (.tmp 43) (.tmp 41))⟩,
 .done)])))])), (⟨none, none, (.store 1 (.tmp 42) (.tmp 39))⟩,
 (.act false [(⟨some 41, none, (.ofA (.load none (.tmp 40)))⟩,
 (.take ⟨some 43, none, (.ofA (.faddr 18 (.tmp 2)))⟩
  (.act false [(⟨none, none, (.store 1 (.tmp 43) (.tmp 41))⟩,
 .done)])))]))]))), (⟨some 41, none, (.ofA (.load none (.tmp 40)))⟩,
 (.act false [(⟨some 39, none, (.ofA (.load none (.tmp 38)))⟩,
 (.take ⟨some 42, none, (.ofA (.faddr 17 (.tmp 2)))⟩
  (.act false [(⟨none, none, (.store 1 (.tmp 42) (.tmp 39))⟩,
 (.take ⟨some 43, none, (.ofA (.faddr 18 (.tmp 2)))⟩
  (.act false [(⟨none, none, (.store 1 (.tmp 43) (.tmp 41))⟩,
 .done)])))])))]))]))))
 (.seq (.tree (.seq ⟨some 45, none, (.ofA (.faddr 17 (.tmp 3)))⟩
  (.seq ⟨some 46, none, (.ofA (.load none (.tmp 45)))⟩
  (.seq ⟨some 47, none, (.ofA (.bin .neq (.tmp 46) (.cst (.v (.int .i64 (-1))))))⟩
  (.seq ⟨some 44, none, (.ofA (.mv (.tmp 47)))⟩
  .done)))))
 (.cond (.tmp 44)
 (.seq (.tree (.seq ⟨some 48, none, (.ofA (.faddr 19 (.tmp 2)))⟩
  (.seq ⟨some 49, none, (.ofA (.load none (.tmp 48)))⟩
  (.seq ⟨some 50, none, (.ofA (.faddr 17 (.tmp 3)))⟩
  (.seq ⟨some 51, none, (.ofA (.load none (.tmp 50)))⟩
  (.seq ⟨some 52, none, (.ofA (.faddr 18 (.tmp 2)))⟩
  (.seq ⟨some 53, none, (.ofA (.load none (.tmp 52)))⟩
  (.seq ⟨some 54, none, (.ofA (.bin .sub (.tmp 51) (.tmp 53)))⟩
  (.seq ⟨some 55, none, (.ofA (.mx true (.tmp 49) [(.tmp 54)]))⟩
  (.seq ⟨some 56, none, (.ofA (.faddr 19 (.tmp 2)))⟩
  (.seq ⟨none, none, (.store 1 (.tmp 56) (.tmp 55))⟩
  .done)))))))))))
 (.tree (.seq ⟨some 57, none, (.ofA (.faddr 18 (.tmp 3)))⟩
  (.seq ⟨some 58, none, (.ofA (.load none (.tmp 57)))⟩
  (.seq ⟨some 59, none, (.ofA (.faddr 18 (.tmp 2)))⟩
  (.seq ⟨none, none, (.store 1 (.tmp 59) (.tmp 58))⟩
  .done))))))
 .skip)))))
 (.seq (.tree (.seq ⟨some 60, none, (.ofA (.load (some 20) (.tmp 2)))⟩
  (.seq ⟨none, none, (.store 20 (.tmp 4) (.tmp 60))⟩
  .done)))
 .ret))))))
def r59 : List XR := [.cell 4 (some 20)]
theorem fn59 : FnX Try.prog 59 [] 61 x59 r59 := ⟨_, Try.func59, by kernel_rfl, by kernel_rfl, by kernel_rfl, by kernel_rfl⟩

def zF (d : Dn) : List Int := [0, 0, 0, 0, 0, 0, 0, 0, 0, 0, 0, 0, 0, 0, 0, 0, (d.data.size : Int), d.slot, d.slot, 0]
def oneF (d : Dn) : List Int := if 0 ≤ d.st ∧ d.st < 16 then (zF d).set d.st.toNat 1 else zF d
theorem zF_len (d : Dn) : (zF d).length = 20 := rfl
theorem oneF_len (d : Dn) : (oneF d).length = 20 := by unfold oneF; split <;> simp [zF_len]
theorem zF_iL (d : Dn) : [SV.v (.int .i64 0), .v (.int .i64 0), .v (.int .i64 0), .v (.int .i64 0), .v (.int .i64 0), .v (.int .i64 0), .v (.int .i64 0), .v (.int .i64 0), .v (.int .i64 0), .v (.int .i64 0), .v (.int .i64 0), .v (.int .i64 0), .v (.int .i64 0), .v (.int .i64 0), .v (.int .i64 0), .v (.int .i64 0), .v (.int .i64 (d.data.size : Int)), .v (.int .i64 d.slot), .v (.int .i64 d.slot), .v (.int .i64 0)] = iL (zF d) := rfl
theorem zF_get (d : Dn) {n : Nat} (h : n < 16) : (zF d).getD n 0 = 0 := by
  have : ∀ n, n < 16 → (zF d).getD n 0 = 0 := by
    intro n hn
    rcases (by omega : n = 0 ∨ n = 1 ∨ n = 2 ∨ n = 3 ∨ n = 4 ∨ n = 5 ∨ n = 6 ∨ n = 7 ∨ n = 8 ∨ n = 9 ∨ n = 10 ∨ n = 11 ∨ n = 12 ∨ n = 13 ∨ n = 14 ∨ n = 15) with rfl | rfl | rfl | rfl | rfl | rfl | rfl | rfl | rfl | rfl | rfl | rfl | rfl | rfl | rfl | rfl <;> rfl
  exact this n h
theorem take_all {xs : List Int} {n : Nat} (h : xs.length = n) : xs.take n = xs := List.take_of_length_le (by omega)
def decN : List SV → Option Dn
  | [.v (.int .i64 a), .v (.int .i64 b), .v (.string c)] => some ⟨a, b, c⟩
  | _ => none
def c110 [Inp] : Trans := fun args m k => match args with
  | [.agg [.v (.int .i64 a), .v (.int .i64 b), .v (.string c)]] => k (.agg (iL (oneF ⟨a, b, c⟩))) m
  | _ => False
theorem c110_ok [Inp] : Contract Try.prog 110 true c110 := by
  refine .read fn110 (G := fun _ => []) (fun J => @g0 J _) _ fun args m k h => ?_
  unfold c110 at h
  split at h
  · rename_i a b c
    refine ⟨by simp, fun J hJ us hus => ?_⟩
    obtain ⟨u, t, rfl, hkn, rfl⟩ := hus
    obtain rfl := hkn.2.1 [.int .i64 a, .int .i64 b, .string c] rfl
    obtain ⟨d, hd⟩ : ∃ d : Dn, d = ⟨a, b, c⟩ := ⟨_, rfl⟩
    have ha : a = d.slot := by rw [hd]
    have hb : b = d.st := by rw [hd]
    have hc : c = d.data := by rw [hd]
    rw [← hd] at h
    subst ha hb hc
    have hz := zF_iL d
    have hl := zF_len d
    have ho := take_all hl
    by_cases h1 : 0 ≤ d.st ∧ d.st < 16
    · obtain ⟨h1, h2⟩ := h1
      have h3 : d.st.toNat < 20 := by omega
      have h5 : d.st.toNat ≤ 19 := by omega
      have h4 := zF_get d (show d.st.toNat < 16 by omega)
      have hr : oneF d = (zF d).set d.st.toNat 1 := if_pos ⟨h1, h2⟩
      have ho2 : ((zF d).set d.st.toNat 1).take 20 = (zF d).set d.st.toNat 1 := take_all (by simp [hl])
      simp (maxSteps := 2000000) -implicitDefEqProofs only [↓x110, ↓r110, hz, Sz.iL_fold, Sz.iL_over, Sz.iL_all, Sz.iL_get, Sz.iL_len, Sz.iL_take, Sz.iL_drop, Sz.iL_one, Sz.iL_plain, Sz.iL_le, List.length_set, hl, h1, h2, h3, h4, h5, ho, ho2, Sz.w_64, ↓Sz.s_loopi, ↓Sz.v_pq, ↓Sz.PRE, Sz.POST, Sz.of_int, Sz.of_bool, Sz.of_str, Sz.of_sl, Sz.of_p, Sz.of_agg, Int.cast_ofNat_Int, Nat.mul_one, Nat.reduceDiv, Nat.reduceMod, Int.reduceLT, Int.reduceLE, Int.reduceToNat, Int.reduceAdd, decide_true, decide_false, ↓reduceIte, List.map_cons, List.map_nil, List.length_cons, List.length_nil, List.cons_append, List.nil_append, List.getElem?_cons_zero, List.getElem?_cons_succ, List.getElem?_nil, List.take_succ_cons, List.take_zero, List.drop_succ_cons, List.drop_zero, List.all_cons, List.all_nil, List.set_cons_zero, List.set_cons_succ, List.append_nil, Option.map_some, Option.map_none, cond_true, cond_false, Bool.true_eq_false, Bool.false_eq_true, Bool.not_true, Bool.not_false, Nat.reduceEqDiff, Nat.reduceAdd, Nat.reduceMul, Nat.reduceSub, Nat.reduceLeDiff, Nat.reduceLT, true_and, and_true, reduceCtorEq, Nat.zero_add, Nat.add_zero, Nat.zero_mul, Nat.le_refl, Int.toNat_natCast, Bool.and_self, Bool.true_and, Bool.and_true, if_true, eq_self, forall_const, and_self, implies_true]
      rw [hr] at h
      exact h
    · have hr : oneF d = zF d := if_neg h1
      rw [hr] at h
      by_cases h2 : 0 ≤ d.st
      · have h3 : ¬ d.st < 16 := fun h => h1 ⟨h2, h⟩
        simp (maxSteps := 2000000) -implicitDefEqProofs only [↓x110, ↓r110, hz, Sz.iL_fold, Sz.iL_over, Sz.iL_all, Sz.iL_get, Sz.iL_len, Sz.iL_take, Sz.iL_drop, Sz.iL_one, Sz.iL_plain, Sz.iL_le, List.length_set, hl, h2, h3, ho, ↓Sz.s_loopi, ↓Sz.v_pq, ↓Sz.PRE, Sz.POST, Sz.of_int, Sz.of_bool, Sz.of_str, Sz.of_sl, Sz.of_p, Sz.of_agg, Int.cast_ofNat_Int, Nat.mul_one, Nat.reduceDiv, Nat.reduceMod, Int.reduceLT, Int.reduceLE, Int.reduceToNat, Int.reduceAdd, decide_true, decide_false, ↓reduceIte, List.map_cons, List.map_nil, List.length_cons, List.length_nil, List.cons_append, List.nil_append, List.getElem?_cons_zero, List.getElem?_cons_succ, List.getElem?_nil, List.take_succ_cons, List.take_zero, List.drop_succ_cons, List.drop_zero, List.all_cons, List.all_nil, List.set_cons_zero, List.set_cons_succ, List.append_nil, Option.map_some, Option.map_none, cond_true, cond_false, Bool.true_eq_false, Bool.false_eq_true, Bool.not_true, Bool.not_false, Nat.reduceEqDiff, Nat.reduceAdd, Nat.reduceMul, Nat.reduceSub, Nat.reduceLeDiff, Nat.reduceLT, true_and, and_true, reduceCtorEq, Nat.zero_add, Nat.add_zero, Nat.zero_mul, Nat.le_refl, Int.toNat_natCast, Bool.and_self, Bool.true_and, Bool.and_true, if_true, eq_self, forall_const, and_self, implies_true]
        exact h
      · simp (maxSteps := 2000000) -implicitDefEqProofs only [↓x110, ↓r110, hz, Sz.iL_fold, Sz.iL_over, Sz.iL_all, Sz.iL_get, Sz.iL_len, Sz.iL_take, Sz.iL_drop, Sz.iL_one, Sz.iL_plain, Sz.iL_le, List.length_set, hl, h2, ho, ↓Sz.s_loopi, ↓Sz.v_pq, ↓Sz.PRE, Sz.POST, Sz.of_int, Sz.of_bool, Sz.of_str, Sz.of_sl, Sz.of_p, Sz.of_agg, Int.cast_ofNat_Int, Nat.mul_one, Nat.reduceDiv, Nat.reduceMod, Int.reduceLT, Int.reduceLE, Int.reduceToNat, Int.reduceAdd, decide_true, decide_false, ↓reduceIte, List.map_cons, List.map_nil, List.length_cons, List.length_nil, List.cons_append, List.nil_append, List.getElem?_cons_zero, List.getElem?_cons_succ, List.getElem?_nil, List.take_succ_cons, List.take_zero, List.drop_succ_cons, List.drop_zero, List.all_cons, List.all_nil, List.set_cons_zero, List.set_cons_succ, List.append_nil, Option.map_some, Option.map_none, cond_true, cond_false, Bool.true_eq_false, Bool.false_eq_true, Bool.not_true, Bool.not_false, Nat.reduceEqDiff, Nat.reduceAdd, Nat.reduceMul, Nat.reduceSub, Nat.reduceLeDiff, Nat.reduceLT, true_and, and_true, reduceCtorEq, Nat.zero_add, Nat.add_zero, Nat.zero_mul, Nat.le_refl, Int.toNat_natCast, Bool.and_self, Bool.true_and, Bool.and_true, if_true, eq_self, forall_const, and_self, implies_true]
        exact h
  · exact h.elim
def addS (xs ys : List Int) : Nat → List Int
  | 0 => xs
  | n + 1 => (addS xs ys n).set n (IntKind.i64.wrap ((addS xs ys n).getD n 0 + ys.getD n 0))
theorem addS_len (xs ys : List Int) : ∀ n, (addS xs ys n).length = xs.length
  | 0 => rfl
  | n + 1 => by simp [addS, addS_len xs ys n]
def mx (p q : Int) : Int := if p < q then q else p
theorem mx_fold (p q : Int) : (if p < q then q else p) = mx p q := rfl
def addT (a ys : List Int) : List Int :=
  let a2 := a.set 16 (IntKind.i64.wrap (a.getD 16 0 + ys.getD 16 0))
  let a3 := a2.set 19 (mx (a2.getD 19 0) (ys.getD 19 0))
  if (a3.getD 17 0 == -1) = true then (a3.set 17 (ys.getD 17 0)).set 18 (ys.getD 18 0)
  else if (ys.getD 17 0 != -1) = true then (a3.set 19 (mx (a3.getD 19 0) (IntKind.i64.wrap (ys.getD 17 0 - a3.getD 18 0)))).set 18 (ys.getD 18 0) else a3
def addF (xs ys : List Int) : List Int := addT (addS xs ys 16) ys
theorem addT_len (a ys : List Int) : (addT a ys).length = a.length := by
  unfold addT
  simp only
  split
  · simp
  · split <;> simp
theorem addF_len (xs ys : List Int) : (addF xs ys).length = xs.length := by unfold addF; rw [addT_len, addS_len]
def c59 [Inp] : Trans := fun args m k => match args with
  | [.agg a, .agg b] => optK (decI a) fun xs => optK (decI b) fun ys => xs.length = 20 ∧ ys.length = 20 ∧ k (.agg (iL (addF xs ys))) m
  | _ => False
theorem agg_iL {I J : Inp} {m : Mem} {xs : List Int} {u : Value} (h : Knows I J m (.agg (iL xs)) u) : u = .agg (xs.map (Value.int .i64)).toArray := h.2.1 _ (by rw [iL_eq])
theorem c59_ok [Inp] : Contract Try.prog 59 true c59 := by
  refine .read fn59 (G := fun _ => []) (fun J => @g0 J _) _ fun args m k h => ?_
  unfold c59 at h
  split at h
  · rename_i a b
    obtain ⟨xs, h1, h⟩ := optK_inv h
    obtain ⟨ys, h2, h⟩ := optK_inv h
    obtain ⟨lx, ly, hk⟩ := h
    obtain rfl := decI_inv h1
    obtain rfl := decI_inv h2
    clear h1 h2
    refine ⟨by simp, fun J hJ us hus => ?_⟩
    obtain ⟨u, t, rfl, hkn, u2, t2, rfl, hkn2, rfl⟩ := hus
    obtain rfl := agg_iL hkn
    obtain rfl := agg_iL hkn2
    have tx := take_all lx
    have ty := take_all ly
    simp (maxSteps := 2000000) -implicitDefEqProofs only [↓x59, ↓r59, Sz.iL_fold, Sz.iL_over, Sz.iL_all, Sz.iL_get, Sz.iL_len, Sz.iL_take, Sz.iL_drop, Sz.iL_one, Sz.iL_plain, Sz.iL_le, List.length_set, lx, ly, ↓Sz.s_loopi, ↓Sz.v_pq, ↓Sz.PRE, Sz.POST, Sz.of_int, Sz.of_bool, Sz.of_str, Sz.of_sl, Sz.of_p, Sz.of_agg, Int.cast_ofNat_Int, Nat.mul_one, Nat.reduceDiv, Nat.reduceMod, Int.reduceLT, Int.reduceLE, Int.reduceToNat, Int.reduceAdd, decide_true, decide_false, ↓reduceIte, List.map_cons, List.map_nil, List.length_cons, List.length_nil, List.cons_append, List.nil_append, List.getElem?_cons_zero, List.getElem?_cons_succ, List.getElem?_nil, List.take_succ_cons, List.take_zero, List.drop_succ_cons, List.drop_zero, List.all_cons, List.all_nil, List.set_cons_zero, List.set_cons_succ, List.append_nil, Option.map_some, Option.map_none, cond_true, cond_false, Bool.true_eq_false, Bool.false_eq_true, Bool.not_true, Bool.not_false, Nat.reduceEqDiff, Nat.reduceAdd, Nat.reduceMul, Nat.reduceSub, Nat.reduceLeDiff, Nat.reduceLT, true_and, and_true, reduceCtorEq, Nat.zero_add, Nat.add_zero, Nat.zero_mul, Nat.le_refl, Int.toNat_natCast, Bool.and_self, Bool.true_and, Bool.and_true, if_true, eq_self, forall_const, and_self, implies_true]
    refine TXi_of (TX_count (g0 _) 16 (fun x => [(2, .ptr 0 0), (3, .ptr 1 0), (4, .ptr 2 0), (8, .agg (iL (ys.take 16))), (9, .v (.int .i64 (x : Int)))]) (fun x => [⟨true, iL (addS xs ys x)⟩, ⟨true, iL ys⟩, ⟨true, [SV.v (.int .i64 0), .v (.int .i64 0), .v (.int .i64 0), .v (.int .i64 0), .v (.int .i64 0), .v (.int .i64 0), .v (.int .i64 0), .v (.int .i64 0), .v (.int .i64 0), .v (.int .i64 0), .v (.int .i64 0), .v (.int .i64 0), .v (.int .i64 0), .v (.int .i64 0), .v (.int .i64 0), .v (.int .i64 0), .v (.int .i64 0), .v (.int .i64 0), .v (.int .i64 0), .v (.int .i64 0)]⟩]) (fun x => True) trivial ?_ ?_ ?_)
    · exact ⟨[0, 1, 2], by simp, by simp only [FitM, ObLe, LeL, Le, List.cons_append, List.nil_append] <;> (try (simp (maxSteps := 2000000) -implicitDefEqProofs only [addS, Sz.iL_fold, Sz.iL_over, Sz.iL_all, Sz.iL_get, Sz.iL_len, Sz.iL_take, Sz.iL_drop, Sz.iL_one, Sz.iL_plain, Sz.iL_le, List.length_set, ↓Sz.s_loopi, ↓Sz.v_pq, ↓Sz.PRE, Sz.POST, Sz.of_int, Sz.of_bool, Sz.of_str, Sz.of_sl, Sz.of_p, Sz.of_agg, Int.cast_ofNat_Int, Nat.mul_one, Nat.reduceDiv, Nat.reduceMod, Int.reduceLT, Int.reduceLE, Int.reduceToNat, Int.reduceAdd, decide_true, decide_false, ↓reduceIte, List.map_cons, List.map_nil, List.length_cons, List.length_nil, List.cons_append, List.nil_append, List.getElem?_cons_zero, List.getElem?_cons_succ, List.getElem?_nil, List.take_succ_cons, List.take_zero, List.drop_succ_cons, List.drop_zero, List.all_cons, List.all_nil, List.set_cons_zero, List.set_cons_succ, List.append_nil, Option.map_some, Option.map_none, cond_true, cond_false, Bool.true_eq_false, Bool.false_eq_true, Bool.not_true, Bool.not_false, Nat.reduceEqDiff, Nat.reduceAdd, Nat.reduceMul, Nat.reduceSub, Nat.reduceLeDiff, Nat.reduceLT, true_and, and_true, reduceCtorEq, Nat.zero_add, Nat.add_zero, Nat.zero_mul, Nat.le_refl, Int.toNat_natCast, Bool.and_self, Bool.true_and, Bool.and_true, if_true, eq_self, forall_const, and_self, implies_true])) <;> (try simp), by simp only [FitE, Le, LeL, List.cons_append, List.nil_append] <;> (try (simp (maxSteps := 2000000) -implicitDefEqProofs only [addS, Sz.iL_fold, Sz.iL_over, Sz.iL_all, Sz.iL_get, Sz.iL_len, Sz.iL_take, Sz.iL_drop, Sz.iL_one, Sz.iL_plain, Sz.iL_le, List.length_set, ↓Sz.s_loopi, ↓Sz.v_pq, ↓Sz.PRE, Sz.POST, Sz.of_int, Sz.of_bool, Sz.of_str, Sz.of_sl, Sz.of_p, Sz.of_agg, Int.cast_ofNat_Int, Nat.mul_one, Nat.reduceDiv, Nat.reduceMod, Int.reduceLT, Int.reduceLE, Int.reduceToNat, Int.reduceAdd, decide_true, decide_false, ↓reduceIte, List.map_cons, List.map_nil, List.length_cons, List.length_nil, List.cons_append, List.nil_append, List.getElem?_cons_zero, List.getElem?_cons_succ, List.getElem?_nil, List.take_succ_cons, List.take_zero, List.drop_succ_cons, List.drop_zero, List.all_cons, List.all_nil, List.set_cons_zero, List.set_cons_succ, List.append_nil, Option.map_some, Option.map_none, cond_true, cond_false, Bool.true_eq_false, Bool.false_eq_true, Bool.not_true, Bool.not_false, Nat.reduceEqDiff, Nat.reduceAdd, Nat.reduceMul, Nat.reduceSub, Nat.reduceLeDiff, Nat.reduceLT, true_and, and_true, reduceCtorEq, Nat.zero_add, Nat.add_zero, Nat.zero_mul, Nat.le_refl, Int.toNat_natCast, Bool.and_self, Bool.true_and, Bool.and_true, if_true, eq_self, forall_const, and_self, implies_true])) <;> (try simp), keep0 hJ⟩
    · intro x hx _
      have la : (addS xs ys x).length = 20 := by rw [addS_len, lx]
      have i0 : (0 : Int) ≤ (x : Int) := by omega
      have i1 : (x : Int) < 16 := by omega
      have i2 : x < 20 := by omega
      have i3 : x ≤ 19 := by omega
      have i4 : (ys.take 16).length = 16 := by simp [ly]
      have i5 : (ys.take 16).getD x 0 = ys.getD x 0 := by simp [List.getD, List.getElem?_take, hx]
      have w1 : IntKind.i64.wrap ((x : Int) + 1) = (x : Int) + 1 := wrap_id (by omega) (by omega)
      simp (maxSteps := 2000000) -implicitDefEqProofs only [Sz.iL_fold, Sz.iL_over, Sz.iL_all, Sz.iL_get, Sz.iL_len, Sz.iL_take, Sz.iL_drop, Sz.iL_one, Sz.iL_plain, Sz.iL_le, List.length_set, la, ly, i0, i1, i2, i3, i4, i5, hx, w1, ↓Sz.s_loopi, ↓Sz.v_pq, ↓Sz.PRE, Sz.POST, Sz.of_int, Sz.of_bool, Sz.of_str, Sz.of_sl, Sz.of_p, Sz.of_agg, Int.cast_ofNat_Int, Nat.mul_one, Nat.reduceDiv, Nat.reduceMod, Int.reduceLT, Int.reduceLE, Int.reduceToNat, Int.reduceAdd, decide_true, decide_false, ↓reduceIte, List.map_cons, List.map_nil, List.length_cons, List.length_nil, List.cons_append, List.nil_append, List.getElem?_cons_zero, List.getElem?_cons_succ, List.getElem?_nil, List.take_succ_cons, List.take_zero, List.drop_succ_cons, List.drop_zero, List.all_cons, List.all_nil, List.set_cons_zero, List.set_cons_succ, List.append_nil, Option.map_some, Option.map_none, cond_true, cond_false, Bool.true_eq_false, Bool.false_eq_true, Bool.not_true, Bool.not_false, Nat.reduceEqDiff, Nat.reduceAdd, Nat.reduceMul, Nat.reduceSub, Nat.reduceLeDiff, Nat.reduceLT, true_and, and_true, reduceCtorEq, Nat.zero_add, Nat.add_zero, Nat.zero_mul, Nat.le_refl, Int.toNat_natCast, Bool.and_self, Bool.true_and, Bool.and_true, if_true, eq_self, forall_const, and_self, implies_true]
      exact ⟨[0, 1, 2], by simp, by simp only [FitM, ObLe, LeL, Le, List.cons_append, List.nil_append] <;> (try (simp (maxSteps := 2000000) -implicitDefEqProofs only [addS, Sz.iL_fold, Sz.iL_over, Sz.iL_all, Sz.iL_get, Sz.iL_len, Sz.iL_take, Sz.iL_drop, Sz.iL_one, Sz.iL_plain, Sz.iL_le, List.length_set, ↓Sz.s_loopi, ↓Sz.v_pq, ↓Sz.PRE, Sz.POST, Sz.of_int, Sz.of_bool, Sz.of_str, Sz.of_sl, Sz.of_p, Sz.of_agg, Int.cast_ofNat_Int, Nat.mul_one, Nat.reduceDiv, Nat.reduceMod, Int.reduceLT, Int.reduceLE, Int.reduceToNat, Int.reduceAdd, decide_true, decide_false, ↓reduceIte, List.map_cons, List.map_nil, List.length_cons, List.length_nil, List.cons_append, List.nil_append, List.getElem?_cons_zero, List.getElem?_cons_succ, List.getElem?_nil, List.take_succ_cons, List.take_zero, List.drop_succ_cons, List.drop_zero, List.all_cons, List.all_nil, List.set_cons_zero, List.set_cons_succ, List.append_nil, Option.map_some, Option.map_none, cond_true, cond_false, Bool.true_eq_false, Bool.false_eq_true, Bool.not_true, Bool.not_false, Nat.reduceEqDiff, Nat.reduceAdd, Nat.reduceMul, Nat.reduceSub, Nat.reduceLeDiff, Nat.reduceLT, true_and, and_true, reduceCtorEq, Nat.zero_add, Nat.add_zero, Nat.zero_mul, Nat.le_refl, Int.toNat_natCast, Bool.and_self, Bool.true_and, Bool.and_true, if_true, eq_self, forall_const, and_self, implies_true])) <;> (try simp), by simp only [FitE, Le, LeL, List.cons_append, List.nil_append] <;> (try (simp (maxSteps := 2000000) -implicitDefEqProofs only [addS, Sz.iL_fold, Sz.iL_over, Sz.iL_all, Sz.iL_get, Sz.iL_len, Sz.iL_take, Sz.iL_drop, Sz.iL_one, Sz.iL_plain, Sz.iL_le, List.length_set, ↓Sz.s_loopi, ↓Sz.v_pq, ↓Sz.PRE, Sz.POST, Sz.of_int, Sz.of_bool, Sz.of_str, Sz.of_sl, Sz.of_p, Sz.of_agg, Int.cast_ofNat_Int, Nat.mul_one, Nat.reduceDiv, Nat.reduceMod, Int.reduceLT, Int.reduceLE, Int.reduceToNat, Int.reduceAdd, decide_true, decide_false, ↓reduceIte, List.map_cons, List.map_nil, List.length_cons, List.length_nil, List.cons_append, List.nil_append, List.getElem?_cons_zero, List.getElem?_cons_succ, List.getElem?_nil, List.take_succ_cons, List.take_zero, List.drop_succ_cons, List.drop_zero, List.all_cons, List.all_nil, List.set_cons_zero, List.set_cons_succ, List.append_nil, Option.map_some, Option.map_none, cond_true, cond_false, Bool.true_eq_false, Bool.false_eq_true, Bool.not_true, Bool.not_false, Nat.reduceEqDiff, Nat.reduceAdd, Nat.reduceMul, Nat.reduceSub, Nat.reduceLeDiff, Nat.reduceLT, true_and, and_true, reduceCtorEq, Nat.zero_add, Nat.add_zero, Nat.zero_mul, Nat.le_refl, Int.toNat_natCast, Bool.and_self, Bool.true_and, Bool.and_true, if_true, eq_self, forall_const, and_self, implies_true])) <;> (try simp), keep0 hJ⟩
    · intro _
      have hk' : k (.agg (iL (addT (addS xs ys 16) ys))) m := hk
      have la : (addS xs ys 16).length = 20 := by rw [addS_len, lx]
      generalize addS xs ys 16 = a1 at la hk'
      have tk : ∀ zs : List Int, zs.length = 20 → zs.take 20 = zs := fun zs h => take_all h
      simp (maxSteps := 2000000) -implicitDefEqProofs only [Sz.iL_fold, Sz.iL_over, Sz.iL_all, Sz.iL_get, Sz.iL_len, Sz.iL_take, Sz.iL_drop, Sz.iL_one, Sz.iL_plain, Sz.iL_le, List.length_set, la, ly, tk, Sz.w_64, ↓Sz.s_loopi, ↓Sz.v_pq, ↓Sz.PRE, Sz.POST, Sz.of_int, Sz.of_bool, Sz.of_str, Sz.of_sl, Sz.of_p, Sz.of_agg, Int.cast_ofNat_Int, Nat.mul_one, Nat.reduceDiv, Nat.reduceMod, Int.reduceLT, Int.reduceLE, Int.reduceToNat, Int.reduceAdd, decide_true, decide_false, ↓reduceIte, List.map_cons, List.map_nil, List.length_cons, List.length_nil, List.cons_append, List.nil_append, List.getElem?_cons_zero, List.getElem?_cons_succ, List.getElem?_nil, List.take_succ_cons, List.take_zero, List.drop_succ_cons, List.drop_zero, List.all_cons, List.all_nil, List.set_cons_zero, List.set_cons_succ, List.append_nil, Option.map_some, Option.map_none, cond_true, cond_false, Bool.true_eq_false, Bool.false_eq_true, Bool.not_true, Bool.not_false, Nat.reduceEqDiff, Nat.reduceAdd, Nat.reduceMul, Nat.reduceSub, Nat.reduceLeDiff, Nat.reduceLT, true_and, and_true, reduceCtorEq, Nat.zero_add, Nat.add_zero, Nat.zero_mul, Nat.le_refl, Int.toNat_natCast, Bool.and_self, Bool.true_and, Bool.and_true, if_true, eq_self, forall_const, and_self, implies_true]
      unfold addT at hk'
      simp only [gt_iff_lt, mx_fold]
      simp only at hk'
      generalize (a1.set 16 (IntKind.i64.wrap (a1.getD 16 0 + ys.getD 16 0))).set 19 (mx ((a1.set 16 (IntKind.i64.wrap (a1.getD 16 0 + ys.getD 16 0))).getD 19 0) (ys.getD 19 0)) = a3 at hk' ⊢
      split
      · rename_i h1
        rw [if_pos h1] at hk'
        exact hk'
      · rename_i h1
        rw [if_neg h1] at hk'
        split
        · rename_i h2
          rw [if_pos h2] at hk'
          exact hk'
        · rename_i h2
          rw [if_neg h2] at hk'
          exact hk'
  · exact h.elim
end Go.Proofs.Ytppndeoiifkkkaa
