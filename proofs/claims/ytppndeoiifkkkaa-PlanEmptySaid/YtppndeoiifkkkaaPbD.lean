/- Layer 49 (plan): the three phases; by symbolic walks. -/
import Derived.Test.YtppndeoiifkkkaaPbC
import Derived.Test.YtppndeoiifkkkaaPbP
namespace Go.Proofs.Ytppndeoiifkkkaa
open Go.RowKit Sy
set_option linter.unusedVariables false
set_option linter.unusedSimpArgs false
set_option maxHeartbeats 4000000
set_option maxRecDepth 20000
def spS (k t a b : Int) : List SV := [.v (.int .i64 k), .v (.int .i64 t), .v (.int .i64 0), .v (.int .i64 a), .v (.int .i64 b), .v (.int .i64 0), .v (.int .i64 0), .v (.string ⟨#[]⟩)]
theorem g104 : GOk Try.prog [⟨104, true, c104⟩] := GOk.cons c104_ok g0
theorem g984 : GOk Try.prog [⟨98, true, c98⟩, ⟨104, true, c104⟩] := GOk.cons c98_ok (GOk.cons c104_ok g0)
def c100 : Trans := fun args m k => match args with
  | [.v (.int .i64 i), .agg [.v (.bool th), .v (.int .i64 ep), .v (.int .i64 sz), .v (.int .i64 sp), .v (.slice A n c)], .agg [.v (.int .i64 ws), .v (.int .i64 wp)]] => k (.tup [.agg (spS 3 i 0 0), .v (.bool (th && !staysB ⟨th, ep, sz, sp, A, n, c⟩ ⟨ws, wp⟩))]) m
  | _ => False
theorem c100_ok : Contract Try.prog 100 true c100 := by
  refine .plainArgs fn100 g104 _ fun args m k h => ?_
  unfold c100 at h
  split at h
  · rename_i i th ep sz sp A n c ws wp
    refine ⟨rfl, by simp, ?_⟩
    simp only [spS] at h
    simp (maxSteps := 2000000) -implicitDefEqProofs only [↓x100, ↓r100, ↓c104, ↓Sy.PRE, Sy.POST, Nat.reduceDiv, Nat.reduceMod, Int.reduceLT, Int.reduceLE, Int.reduceToNat, Int.reduceAdd, decide_true, decide_false, ↓reduceIte, List.map_cons, List.map_nil, List.length_cons, List.length_nil, List.cons_append, List.nil_append, List.getElem?_cons_zero, List.getElem?_cons_succ, List.getElem?_nil, List.take_succ_cons, List.take_zero, List.drop_succ_cons, List.drop_zero, List.all_cons, List.all_nil, List.set_cons_zero, List.set_cons_succ, List.append_nil, Option.map_some, Option.map_none, cond_true, cond_false, Bool.true_eq_false, Bool.false_eq_true, Bool.not_true, Bool.not_false, Nat.reduceEqDiff, Nat.reduceAdd, Nat.reduceMul, Nat.reduceSub, Nat.reduceLeDiff, Nat.reduceLT, true_and, and_true, reduceCtorEq, Nat.zero_add, Nat.add_zero, Nat.zero_mul, Nat.le_refl, Int.toNat_natCast, Bool.and_self, Bool.true_and, Bool.and_true, if_true, eq_self, forall_const, and_self, implies_true]
    split
    · rename_i c
      subst c
      simp only [Bool.true_and] at h
      exact h
    · rename_i c
      obtain rfl := nb3 c
      simp only [Bool.false_and] at h
      exact h
  · exact h.elim
def c101 : Trans := fun args m k => match args with
  | [.v (.int .i64 i), .agg [.v (.bool th), .v (.int .i64 ep), .v (.int .i64 sz), .v (.int .i64 sp), .v (.slice A n c)], .agg [.v (.int .i64 ws), .v (.int .i64 wp)]] => k (.tup [.agg (spS 2 i ws 0), .v (.bool (staysB ⟨th, ep, sz, sp, A, n, c⟩ ⟨ws, wp⟩ && (sz != ws)))]) m
  | _ => False
theorem c101_ok : Contract Try.prog 101 true c101 := by
  refine .plainArgs fn101 g104 _ fun args m k h => ?_
  unfold c101 at h
  split at h
  · rename_i i th ep sz sp A n c ws wp
    refine ⟨rfl, by simp, ?_⟩
    simp only [spS] at h
    simp (maxSteps := 2000000) -implicitDefEqProofs only [↓x101, ↓r101, ↓c104, ↓Sy.PRE, Sy.POST, Nat.reduceDiv, Nat.reduceMod, Int.reduceLT, Int.reduceLE, Int.reduceToNat, Int.reduceAdd, decide_true, decide_false, ↓reduceIte, List.map_cons, List.map_nil, List.length_cons, List.length_nil, List.cons_append, List.nil_append, List.getElem?_cons_zero, List.getElem?_cons_succ, List.getElem?_nil, List.take_succ_cons, List.take_zero, List.drop_succ_cons, List.drop_zero, List.all_cons, List.all_nil, List.set_cons_zero, List.set_cons_succ, List.append_nil, Option.map_some, Option.map_none, cond_true, cond_false, Bool.true_eq_false, Bool.false_eq_true, Bool.not_true, Bool.not_false, Nat.reduceEqDiff, Nat.reduceAdd, Nat.reduceMul, Nat.reduceSub, Nat.reduceLeDiff, Nat.reduceLT, true_and, and_true, reduceCtorEq, Nat.zero_add, Nat.add_zero, Nat.zero_mul, Nat.le_refl, Int.toNat_natCast, Bool.and_self, Bool.true_and, Bool.and_true, if_true, eq_self, forall_const, and_self, implies_true]
    split
    · rename_i c
      skip
      simp only [c, Bool.true_and] at h
      exact h
    · rename_i c
      skip
      simp only [nb3 c, Bool.false_and] at h
      exact h
  · exact h.elim
def c102 : Trans := fun args m k => match args with
  | [.v (.int .i64 i), .agg [.v (.bool th), .v (.int .i64 ep), .v (.int .i64 sz), .v (.int .i64 sp), .v (.slice A n c)], .agg [.v (.int .i64 ws), .v (.int .i64 wp)]] => k (.tup [.agg (spS 1 i ws wp), .v (.bool ((ws != 0) && !staysB ⟨th, ep, sz, sp, A, n, c⟩ ⟨ws, wp⟩))]) m
  | _ => False
theorem c102_ok : Contract Try.prog 102 true c102 := by
  refine .plainArgs fn102 g984 _ fun args m k h => ?_
  unfold c102 at h
  split at h
  · rename_i i th ep sz sp A n c ws wp
    refine ⟨rfl, by simp, ?_⟩
    simp only [spS] at h
    simp (maxSteps := 2000000) -implicitDefEqProofs only [↓x102, ↓r102, ↓c98, ↓c104, ↓Sy.PRE, Sy.POST, Nat.reduceDiv, Nat.reduceMod, Int.reduceLT, Int.reduceLE, Int.reduceToNat, Int.reduceAdd, decide_true, decide_false, ↓reduceIte, List.map_cons, List.map_nil, List.length_cons, List.length_nil, List.cons_append, List.nil_append, List.getElem?_cons_zero, List.getElem?_cons_succ, List.getElem?_nil, List.take_succ_cons, List.take_zero, List.drop_succ_cons, List.drop_zero, List.all_cons, List.all_nil, List.set_cons_zero, List.set_cons_succ, List.append_nil, Option.map_some, Option.map_none, cond_true, cond_false, Bool.true_eq_false, Bool.false_eq_true, Bool.not_true, Bool.not_false, Nat.reduceEqDiff, Nat.reduceAdd, Nat.reduceMul, Nat.reduceSub, Nat.reduceLeDiff, Nat.reduceLT, true_and, and_true, reduceCtorEq, Nat.zero_add, Nat.add_zero, Nat.zero_mul, Nat.le_refl, Int.toNat_natCast, Bool.and_self, Bool.true_and, Bool.and_true, if_true, eq_self, forall_const, and_self, implies_true]
    split
    · rename_i c
      skip
      simp only [c, Bool.true_and] at h
      exact h
    · rename_i c
      skip
      simp only [nb3 c, Bool.false_and] at h
      exact h
  · exact h.elim
end Go.Proofs.Ytppndeoiifkkkaa