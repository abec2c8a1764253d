/- Layer 16 (scan): ScanMine, by symbolic walks. -/
import Derived.Test.YtppndeoiifkkkaaScA
namespace Go.Proofs.Ytppndeoiifkkkaa
open Go.RowKit Sz
set_option linter.unusedVariables false
set_option linter.unusedSimpArgs false
set_option maxHeartbeats 4000000
set_option maxRecDepth 20000
-- almshouse/almshouselaw16.ScanMine (3 parameters)
def x15 : XC := (.seq (.tree (.seq ⟨some 3, none, (.box (.tmp 0))⟩
  (.seq ⟨some 6, none, (.ofA (.mv (.cst (.v (.bool false)))))⟩
  .done)))
 (.seq (.seq (.tree (.seq ⟨some 7, none, (.call (.cst (.fn 74 [])) [])⟩
  (.seq ⟨some 8, none, (.ofA (.un .not (.tmp 7)))⟩
  .done)))
 (.cond (.tmp 8)
 (.seq (.tree (.seq ⟨some 6, none, (.ofA (.mv (.cst (.v (.bool false)))))⟩
  .done))
 .ret)
 .skip))
 (.seq (.tree (.take ⟨some 9, none, (.ofA (.load (some 10) (.tmp 3)))⟩
  (.take ⟨some 10, none, (.ofA (.mv (.tmp 1)))⟩
  (.take ⟨some 11, none, (.ofA (.mv (.tmp 2)))⟩
  (.take ⟨some 13, none, (.ofA (.faddr 2 (.tmp 3)))⟩
  (.take ⟨some 14, none, (.ofA (.load none (.tmp 13)))⟩
  (.take ⟨some 15, none, (.ofA (.un .not (.tmp 14)))⟩
  (.act true [(⟨some 12, none, (.call (.cst (.fn 75 [])) [(.tmp 9), (.tmp 10), (.tmp 11)])⟩,
 (.take ⟨some 16, none, (.ofA (.mv (.tmp 15)))⟩
  (.take ⟨some 17, some (16, true), (.ofA (.faddr 3 (.tmp 3)))⟩
  (.take ⟨some 18, some (16, true), (.ofA (.faddr 0 (.tmp 17)))⟩
  (.take ⟨some 19, some (16, true), (.ofA (.load none (.tmp 18)))⟩
  (.take ⟨some 20, some (16, true), (.ofA (.mv (.tmp 1)))⟩
  (.take ⟨some 21, some (16, true), (.ofA (.bin .eql (.tmp 19) (.tmp 20)))⟩
  (.take ⟨some 22, none, (.ofA (.pick (.tmp 16) (.tmp 21) (.cst (.v (.bool false)))))⟩
  (.take ⟨some 23, none, (.ofA (.mv (.tmp 22)))⟩
  (.take ⟨some 24, some (23, true), (.ofA (.faddr 3 (.tmp 3)))⟩
  (.take ⟨some 25, some (23, true), (.ofA (.faddr 1 (.tmp 24)))⟩
  (.take ⟨some 26, some (23, true), (.ofA (.load none (.tmp 25)))⟩
  (.take ⟨some 27, some (23, true), (.ofA (.mv (.tmp 2)))⟩
  (.take ⟨some 28, some (23, true), (.ofA (.bin .eql (.tmp 26) (.tmp 27)))⟩
  (.take ⟨some 29, none, (.ofA (.pick (.tmp 23) (.tmp 28) (.cst (.v (.bool false)))))⟩
  (.take ⟨some 30, none, (.ofA (.eqb false (.tmp 12) (.tmp 29)))⟩
  (.take ⟨some 6, none, (.ofA (.mv (.tmp 30)))⟩
  .done)))))))))))))))))]))))))))
 .ret)))
def r15 : List XR := [.tmp 6]
theorem fn15 : FnX Try.prog 15 [] 31 x15 r15 := ⟨_, Try.func15, by kernel_rfl, by kernel_rfl, by kernel_rfl, by kernel_rfl⟩

def c74 [Inp] : Trans := fun args m k => match args with
  | [] => k (.v (.bool true)) m
  | _ => False
theorem c74_ok [Inp] : Contract Try.prog 74 true c74 := Contract.runs T74_ok 1000 60 run74 _ fun a m k h => by
  unfold c74 at h
  split at h
  · exact ⟨rfl, h⟩
  · exact h.elim
def mineF (torn : Bool) (t e tn ep : Int) : Bool := !torn && (t == tn) && (e == ep)
def c75 [Inp] : Trans := fun args m k => match args with
  | [.agg [.v (.int .i64 b), .v (.int .i64 p), .v (.bool torn), .v (.int .i64 t), .v (.int .i64 e), .v (.int .i64 pl), .v (.int .i64 sq), .v (.int .i64 kd), .v (.bool cp), .v (.string d)], .v (.int .i64 tn), .v (.int .i64 ep)] => k (.v (.bool (mineF torn t e tn ep))) m
  | _ => False
theorem c75_ok [Inp] : Contract Try.prog 75 true c75 := by
  refine .read fn75 (G := fun _ => []) (fun J => @g0 J _) _ fun args m k h => ?_
  unfold c75 at h
  split at h
  · rename_i b p torn t e pl sq kd cp d tn ep
    refine ⟨by simp, fun J hJ us hus => ?_⟩
    obtain ⟨u, t1, rfl, hkn, u2, t2, rfl, hkn2, u3, t3, rfl, hkn3, rfl⟩ := hus
    obtain rfl := hkn.2.1 [.int .i64 b, .int .i64 p, .bool torn, .int .i64 t, .int .i64 e, .int .i64 pl, .int .i64 sq, .int .i64 kd, .bool cp, .string d] rfl
    obtain rfl := hkn2.1 _ rfl
    obtain rfl := hkn3.1 _ rfl
    unfold mineF at h
    cases torn <;> cases h1 : (t == tn) <;> cases h2 : (e == ep) <;> simp only [h1, h2, Bool.not_true, Bool.not_false, Bool.and_true, Bool.and_false, Bool.true_and, Bool.false_and] at h <;> simp (maxSteps := 2000000) -implicitDefEqProofs only [↓x75, ↓r75, h1, h2, ↓Sz.s_loopi, ↓Sz.v_pq, ↓Sz.PRE, Sz.POST, Sz.of_int, Sz.of_bool, Sz.of_str, Sz.of_sl, Sz.of_p, Sz.of_agg, Int.cast_ofNat_Int, Nat.mul_one, Nat.reduceDiv, Nat.reduceMod, Int.reduceLT, Int.reduceLE, Int.reduceToNat, Int.reduceAdd, decide_true, decide_false, ↓reduceIte, List.map_cons, List.map_nil, List.length_cons, List.length_nil, List.cons_append, List.nil_append, List.getElem?_cons_zero, List.getElem?_cons_succ, List.getElem?_nil, List.take_succ_cons, List.take_zero, List.drop_succ_cons, List.drop_zero, List.all_cons, List.all_nil, List.set_cons_zero, List.set_cons_succ, List.append_nil, Option.map_some, Option.map_none, cond_true, cond_false, Bool.true_eq_false, Bool.false_eq_true, Bool.not_true, Bool.not_false, Nat.reduceEqDiff, Nat.reduceAdd, Nat.reduceMul, Nat.reduceSub, Nat.reduceLeDiff, Nat.reduceLT, true_and, and_true, reduceCtorEq, Nat.zero_add, Nat.add_zero, Nat.zero_mul, Nat.le_refl, Int.toNat_natCast, Bool.and_self, Bool.true_and, Bool.and_true, if_true, eq_self, forall_const, and_self, implies_true] <;> exact h
  · exact h.elim
def G15 [Inp] : List CEntry := [⟨74, true, c74⟩, ⟨75, true, c75⟩]
theorem g15 [Inp] : GOk Try.prog G15 := GOk.cons c74_ok (GOk.cons c75_ok (g0 _))
def c15 [Inp] : Trans := fun args m k => match args with
  | [.agg [.v (.int .i64 b), .v (.int .i64 p), .v (.bool torn), .v (.int .i64 t), .v (.int .i64 e), .v (.int .i64 pl), .v (.int .i64 sq), .v (.int .i64 kd), .v (.bool cp), .v (.string d)], .v (.int .i64 tn), .v (.int .i64 ep)] => k (.v (.bool true)) m
  | _ => False
theorem c15_ok [Inp] : Contract Try.prog 15 true c15 := by
  refine .read fn15 (G := fun J => @G15 J) (fun J => @g15 J) _ fun args m k h => ?_
  unfold c15 at h
  split at h
  · rename_i b p torn t e pl sq kd cp d tn ep
    refine ⟨by simp, fun J hJ us hus => ?_⟩
    obtain ⟨u, t1, rfl, hkn, u2, t2, rfl, hkn2, u3, t3, rfl, hkn3, rfl⟩ := hus
    obtain rfl := hkn.2.1 [.int .i64 b, .int .i64 p, .bool torn, .int .i64 t, .int .i64 e, .int .i64 pl, .int .i64 sq, .int .i64 kd, .bool cp, .string d] rfl
    obtain rfl := hkn2.1 _ rfl
    obtain rfl := hkn3.1 _ rfl
    have hm : mineF torn t e tn ep = (!torn && (t == tn) && (e == ep)) := rfl
    generalize mineF torn t e tn ep = M at hm
    cases torn <;> cases h1 : (t == tn) <;> cases h2 : (e == ep) <;> simp only [h1, h2, Bool.not_true, Bool.not_false, Bool.and_true, Bool.and_false, Bool.true_and, Bool.false_and] at hm <;> subst hm <;> simp (maxSteps := 2000000) -implicitDefEqProofs only [↓x15, ↓r15, ↓G15, ↓c74, ↓c75, mineF, h1, h2, Bool.and_true, Bool.and_false, Bool.true_and, Bool.false_and, beq_self_eq_true, ↓Sz.s_loopi, ↓Sz.v_pq, ↓Sz.PRE, Sz.POST, Sz.of_int, Sz.of_bool, Sz.of_str, Sz.of_sl, Sz.of_p, Sz.of_agg, Int.cast_ofNat_Int, Nat.mul_one, Nat.reduceDiv, Nat.reduceMod, Int.reduceLT, Int.reduceLE, Int.reduceToNat, Int.reduceAdd, decide_true, decide_false, ↓reduceIte, List.map_cons, List.map_nil, List.length_cons, List.length_nil, List.cons_append, List.nil_append, List.getElem?_cons_zero, List.getElem?_cons_succ, List.getElem?_nil, List.take_succ_cons, List.take_zero, List.drop_succ_cons, List.drop_zero, List.all_cons, List.all_nil, List.set_cons_zero, List.set_cons_succ, List.append_nil, Option.map_some, Option.map_none, cond_true, cond_false, Bool.true_eq_false, Bool.false_eq_true, Bool.not_true, Bool.not_false, Nat.reduceEqDiff, Nat.reduceAdd, Nat.reduceMul, Nat.reduceSub, Nat.reduceLeDiff, Nat.reduceLT, true_and, and_true, reduceCtorEq, Nat.zero_add, Nat.add_zero, Nat.zero_mul, Nat.le_refl, Int.toNat_natCast, Bool.and_self, Bool.true_and, Bool.and_true, if_true, eq_self, forall_const, and_self, implies_true] <;> exact h
  · exact h.elim
end Go.Proofs.Ytppndeoiifkkkaa
