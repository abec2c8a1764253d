/- Layer 46 (tally): what goes through rows tells; by symbolic walks. -/
import Derived.Test.YtppndeoiifkkkaaSzM
import Derived.Test.YtppndeoiifkkkaaProg
import Derived.IntWalk
namespace Go.Proofs.Ytppndeoiifkkkaa
open Go.RowKit Sz
set_option linter.unusedVariables false
set_option linter.unusedSimpArgs false
set_option maxHeartbeats 4000000
set_option maxRecDepth 20000
-- almshouse/almshouselaw46.may (1 parameters)
def x53 : XC := (.seq (.tree (.seq ⟨some 2, none, (.ofA (.mv (.cst (.v (.bool false)))))⟩
  .done))
 (.seq (.seq (.tree (.seq ⟨some 5, none, (.ofA (.mv (.tmp 0)))⟩
  (.seq ⟨some 6, none, (.ofA (.len (.tmp 5)))⟩
  (.seq ⟨some 7, none, (.ofA (.mv (.cst (.v (.int .i64 0)))))⟩
  .done))))
 (.block 0 (.loop (.seq (.tree (.seq ⟨some 8, none, (.ofA (.bin .lss (.tmp 7) (.tmp 6)))⟩
  .done))
 (.seq (.cond (.tmp 8)
 .skip
 (.exit 0))
 (.seq (.block 1 (.seq (.tree (.seq ⟨some 9, none, (.ofA (.isl 3 (.tmp 5) (.tmp 7)))⟩
  (.seq ⟨some 10, none, (.ofA (.load (some 3) (.tmp 9)))⟩
  (.seq ⟨some 4, none, (.alloc [(.v (.int .i64 0)), (.v (.int .i64 0)), (.v (.string ⟨#[]⟩))])⟩
  (.seq ⟨none, none, (.store 3 (.tmp 4) (.tmp 10))⟩
  .done)))))
 (.seq (.tree (.seq ⟨some 11, none, (.ofA (.faddr 0 (.tmp 4)))⟩
  (.seq ⟨some 12, none, (.ofA (.load none (.tmp 11)))⟩
  (.seq ⟨some 13, none, (.ofA (.bin .lss (.tmp 12) (.cst (.v (.int .i64 0)))))⟩
  (.seq ⟨some 14, none, (.ofA (.mv (.tmp 13)))⟩
  (.seq ⟨some 15, some (14, false), (.ofA (.faddr 0 (.tmp 4)))⟩
  (.seq ⟨some 16, some (14, false), (.ofA (.load none (.tmp 15)))⟩
  (.seq ⟨some 17, some (14, false), (.ofA (.bin .gtr (.tmp 16) (.cst (.v (.int .i64 1099511627776)))))⟩
  (.seq ⟨some 18, none, (.ofA (.pick (.tmp 14) (.cst (.v (.bool true))) (.tmp 17)))⟩
  (.seq ⟨some 19, none, (.ofA (.mv (.tmp 18)))⟩
  (.seq ⟨some 20, some (19, false), (.ofA (.faddr 2 (.tmp 4)))⟩
  (.seq ⟨some 21, some (19, false), (.ofA (.load none (.tmp 20)))⟩
  (.seq ⟨some 22, some (19, false), (.ofA (.lens (.tmp 21)))⟩
  (.seq ⟨some 23, some (19, false), (.ofA (.bin .gtr (.tmp 22) (.cst (.v (.int .i64 300)))))⟩
  (.seq ⟨some 24, none, (.ofA (.pick (.tmp 19) (.cst (.v (.bool true))) (.tmp 23)))⟩
  .done)))))))))))))))
 (.cond (.tmp 24)
 (.seq (.tree (.seq ⟨some 2, none, (.ofA (.mv (.cst (.v (.bool false)))))⟩
  .done))
 .ret)
 .skip))))
 (.tree (.seq ⟨some 25, none, (.ofA (.bin .add (.tmp 7) (.cst (.v (.int .i64 1)))))⟩
  (.seq ⟨some 7, none, (.ofA (.mv (.tmp 25)))⟩
  .done)))))))))
 (.seq (.tree (.seq ⟨some 26, none, (.ofA (.mv (.tmp 0)))⟩
  (.seq ⟨some 27, none, (.ofA (.len (.tmp 26)))⟩
  (.seq ⟨some 28, none, (.ofA (.bin .leq (.tmp 27) (.cst (.v (.int .i64 200)))))⟩
  (.seq ⟨some 2, none, (.ofA (.mv (.tmp 28)))⟩
  .done)))))
 .ret)))
def r53 : List XR := [.tmp 2]
theorem fn53 : FnX Try.prog 53 [] 29 x53 r53 := ⟨_, Try.func53, by kernel_rfl, by kernel_rfl, by kernel_rfl, by kernel_rfl⟩
-- almshouse/almshouseref46.Count (2 parameters)
def x55 : XC := (.seq (.tree (.seq ⟨some 4, none, (.ofA (.mv (.cst (.v (.int .i64 0)))))⟩
  .done))
 (.seq (.tree (.seq ⟨some 5, none, (.ofA (.mv (.cst (.v (.int .i64 0)))))⟩
  .done))
 (.seq (.seq (.tree (.seq ⟨some 8, none, (.ofA (.mv (.tmp 0)))⟩
  (.seq ⟨some 9, none, (.ofA (.len (.tmp 8)))⟩
  (.seq ⟨some 10, none, (.ofA (.mv (.cst (.v (.int .i64 0)))))⟩
  .done))))
 (.block 0 (.loop (.seq (.tree (.seq ⟨some 11, none, (.ofA (.bin .lss (.tmp 10) (.tmp 9)))⟩
  .done))
 (.seq (.cond (.tmp 11)
 .skip
 (.exit 0))
 (.seq (.block 1 (.seq (.tree (.seq ⟨some 12, none, (.ofA (.isl 3 (.tmp 8) (.tmp 10)))⟩
  (.seq ⟨some 13, none, (.ofA (.load (some 3) (.tmp 12)))⟩
  (.seq ⟨some 7, none, (.alloc [(.v (.int .i64 0)), (.v (.int .i64 0)), (.v (.string ⟨#[]⟩))])⟩
  (.seq ⟨none, none, (.store 3 (.tmp 7) (.tmp 13))⟩
  .done)))))
 (.seq (.tree (.seq ⟨some 14, none, (.ofA (.faddr 1 (.tmp 7)))⟩
  (.seq ⟨some 15, none, (.ofA (.load none (.tmp 14)))⟩
  (.seq ⟨some 16, none, (.ofA (.mv (.tmp 1)))⟩
  (.seq ⟨some 17, none, (.ofA (.bin .eql (.tmp 15) (.tmp 16)))⟩
  .done)))))
 (.cond (.tmp 17)
 (.tree (.seq ⟨some 18, none, (.ofA (.mv (.tmp 5)))⟩
  (.seq ⟨some 19, none, (.ofA (.bin .add (.tmp 18) (.cst (.v (.int .i64 1)))))⟩
  (.seq ⟨some 5, none, (.ofA (.mv (.tmp 19)))⟩
  .done))))
 .skip))))
 (.tree (.seq ⟨some 20, none, (.ofA (.bin .add (.tmp 10) (.cst (.v (.int .i64 1)))))⟩
  (.seq ⟨some 10, none, (.ofA (.mv (.tmp 20)))⟩
  .done)))))))))
 (.seq (.tree (.seq ⟨some 21, none, (.ofA (.mv (.tmp 5)))⟩
  (.seq ⟨some 4, none, (.ofA (.mv (.tmp 21)))⟩
  .done)))
 .ret))))
def r55 : List XR := [.tmp 4]
theorem fn55 : FnX Try.prog 55 [] 22 x55 r55 := ⟨_, Try.func55, by kernel_rfl, by kernel_rfl, by kernel_rfl, by kernel_rfl⟩
-- almshouse/almshouseref46.Bytes (1 parameters)
def x57 : XC := (.seq (.tree (.seq ⟨some 2, none, (.ofA (.mv (.cst (.v (.int .i64 0)))))⟩
  .done))
 (.seq (.tree (.seq ⟨some 3, none, (.ofA (.mv (.cst (.v (.int .i64 0)))))⟩
  .done))
 (.seq (.seq (.tree (.seq ⟨some 6, none, (.ofA (.mv (.tmp 0)))⟩
  (.seq ⟨some 7, none, (.ofA (.len (.tmp 6)))⟩
  (.seq ⟨some 8, none, (.ofA (.mv (.cst (.v (.int .i64 0)))))⟩
  .done))))
 (.block 0 (.loop (.seq (.tree (.seq ⟨some 9, none, (.ofA (.bin .lss (.tmp 8) (.tmp 7)))⟩
  .done))
 (.seq (.cond (.tmp 9)
 .skip
 (.exit 0))
 (.seq (.block 1 (.seq (.tree (.seq ⟨some 10, none, (.ofA (.isl 3 (.tmp 6) (.tmp 8)))⟩
  (.seq ⟨some 11, none, (.ofA (.load (some 3) (.tmp 10)))⟩
  (.seq ⟨some 5, none, (.alloc [(.v (.int .i64 0)), (.v (.int .i64 0)), (.v (.string ⟨#[]⟩))])⟩
  (.seq ⟨none, none, (.store 3 (.tmp 5) (.tmp 11))⟩
  .done)))))
 (.tree (.seq ⟨some 12, none, (.ofA (.mv (.tmp 3)))⟩
  (.seq ⟨some 13, none, (.ofA (.faddr 2 (.tmp 5)))⟩
  (.seq ⟨some 14, none, (.ofA (.load none (.tmp 13)))⟩
  (.seq ⟨some 15, none, (.ofA (.lens (.tmp 14)))⟩
  (.seq ⟨some 16, none, (.ofA (.bin .add (.tmp 12) (.tmp 15)))⟩
  (.seq ⟨some 3, none, (.ofA (.mv (.tmp 16)))⟩
  .done)))))))))
 (.tree (.seq ⟨some 17, none, (.ofA (.bin .add (.tmp 8) (.cst (.v (.int .i64 1)))))⟩
  (.seq ⟨some 8, none, (.ofA (.mv (.tmp 17)))⟩
  .done)))))))))
 (.seq (.tree (.seq ⟨some 18, none, (.ofA (.mv (.tmp 3)))⟩
  (.seq ⟨some 2, none, (.ofA (.mv (.tmp 18)))⟩
  .done)))
 .ret))))
def r57 : List XR := [.tmp 2]
theorem fn57 : FnX Try.prog 57 [] 19 x57 r57 := ⟨_, Try.func57, by kernel_rfl, by kernel_rfl, by kernel_rfl, by kernel_rfl⟩
-- almshouse/almshouseref46.Gap (1 parameters)
def x58 : XC := (.seq (.tree (.seq ⟨some 2, none, (.ofA (.mv (.cst (.v (.int .i64 0)))))⟩
  .done))
 (.seq (.tree (.seq ⟨some 3, none, (.ofA (.mv (.cst (.v (.int .i64 0)))))⟩
  .done))
 (.seq (.seq (.tree (.seq ⟨some 4, none, (.ofA (.mv (.cst (.v (.int .i64 1)))))⟩
  .done))
 (.block 0 (.loop (.seq (.seq (.tree (.seq ⟨some 6, none, (.ofA (.mv (.tmp 4)))⟩
  (.seq ⟨some 7, none, (.ofA (.mv (.tmp 0)))⟩
  (.seq ⟨some 8, none, (.ofA (.len (.tmp 7)))⟩
  (.seq ⟨some 9, none, (.ofA (.bin .lss (.tmp 6) (.tmp 8)))⟩
  .done)))))
 (.cond (.tmp 9)
 .skip
 (.exit 0)))
 (.seq (.block 1 (.seq (.tree (.take ⟨some 12, none, (.ofA (.mv (.tmp 0)))⟩
  (.take ⟨some 13, none, (.ofA (.mv (.tmp 4)))⟩
  (.take ⟨some 14, none, (.ofA (.isl 3 (.tmp 12) (.tmp 13)))⟩
  (.take ⟨some 15, none, (.ofA (.faddr 0 (.tmp 14)))⟩
  (.take ⟨some 16, none, (.ofA (.load none (.tmp 15)))⟩
  (.take ⟨some 17, none, (.ofA (.mv (.tmp 0)))⟩
  (.take ⟨some 18, none, (.ofA (.mv (.tmp 4)))⟩
  (.take ⟨some 19, none, (.ofA (.bin .sub (.tmp 18) (.cst (.v (.int .i64 1)))))⟩
  (.take ⟨some 20, none, (.ofA (.isl 3 (.tmp 17) (.tmp 19)))⟩
  (.take ⟨some 21, none, (.ofA (.faddr 0 (.tmp 20)))⟩
  (.take ⟨some 22, none, (.ofA (.load none (.tmp 21)))⟩
  (.take ⟨some 23, none, (.ofA (.bin .sub (.tmp 16) (.tmp 22)))⟩
  (.take ⟨some 5, none, (.ofA (.mv (.tmp 23)))⟩
  .done))))))))))))))
 (.seq (.tree (.seq ⟨some 24, none, (.ofA (.mv (.tmp 5)))⟩
  (.seq ⟨some 25, none, (.ofA (.mv (.tmp 3)))⟩
  (.seq ⟨some 26, none, (.ofA (.bin .gtr (.tmp 24) (.tmp 25)))⟩
  .done))))
 (.cond (.tmp 26)
 (.tree (.seq ⟨some 27, none, (.ofA (.mv (.tmp 5)))⟩
  (.seq ⟨some 3, none, (.ofA (.mv (.tmp 27)))⟩
  .done)))
 .skip))))
 (.tree (.seq ⟨some 10, none, (.ofA (.mv (.tmp 4)))⟩
  (.seq ⟨some 11, none, (.ofA (.bin .add (.tmp 10) (.cst (.v (.int .i64 1)))))⟩
  (.seq ⟨some 4, none, (.ofA (.mv (.tmp 11)))⟩
  .done)))))))))
 (.seq (.tree (.seq ⟨some 28, none, (.ofA (.mv (.tmp 3)))⟩
  (.seq ⟨some 2, none, (.ofA (.mv (.tmp 28)))⟩
  .done)))
 .ret))))
def r58 : List XR := [.tmp 2]
theorem fn58 : FnX Try.prog 58 [] 29 x58 r58 := ⟨_, Try.func58, by kernel_rfl, by kernel_rfl, by kernel_rfl, by kernel_rfl⟩

theorem wrap_id {x : Int} (h1 : -9223372036854775808 ≤ x) (h2 : x ≤ 9223372036854775807) : IntKind.i64.wrap x = x := IntWalk.i64_in x ⟨h1, h2⟩
structure Dn where
  slot : Int
  st : Int
  data : ByteArray
def Dn.cs (d : Dn) : List Value := [.int .i64 d.slot, .int .i64 d.st, .string d.data]
theorem Dn.len (d : Dn) : d.cs.length = 3 := rfl
/-- A row of what was done. -/
def decD : List SV → Option (List Dn)
  | [] => some []
  | .v (.int .i64 a) :: .v (.int .i64 b) :: .v (.string c) :: l => (decD l).map (⟨a, b, c⟩ :: ·)
  | _ => none
theorem decD_inv : ∀ {l : List SV} {ds : List Dn}, decD l = some ds → l = (rowV Dn.cs ds).map .v
  | [], ds, h => by simp only [decD] at h; injection h with h; subst h; rfl
  | a :: l, ds, h => by
    unfold decD at h
    split at h
    · rename_i heq; cases heq
    · rename_i heq
      cases heq
      obtain ⟨ds', h1, rfl⟩ := Option.map_eq_some_iff.1 h
      rw [decD_inv h1]
      rfl
    · cases h
theorem decD_row : ∀ ds : List Dn, decD ((rowV Dn.cs ds).map .v) = some ds
  | [] => rfl
  | d :: ds => by
    have : (rowV Dn.cs (d :: ds)).map SV.v = .v (.int .i64 d.slot) :: .v (.int .i64 d.st) :: .v (.string d.data) :: (rowV Dn.cs ds).map SV.v := rfl
    rw [this]
    simp only [decD, decD_row ds, Option.map_some]
def rdD [Inp] (m : Mem) (s : SV) : Option (List Dn) := (slOf m 3 s).bind fun p => decD p.2
/-- What a reader of such a row knows. -/
theorem rdD_knows {I J : Inp} {m : Mem} {s : SV} {u : Value} {ds : List Dn} (h : @rdD I m s = some ds) (hk : Knows I J m s u) :
    ∃ p c, u = .slice p ds.length c ∧ @inpL J p (ds.length * 3) = some (rowV Dn.cs ds) ∧ @rdD J [] (.v u) = some ds := by
  unfold rdD at h
  obtain ⟨⟨n, xs⟩, h1, h2⟩ := Option.bind_eq_some_iff.1 h
  have h3 := decD_inv h2
  simp only at h3
  subst h3
  have hl := @slOf_len I _ _ _ _ _ h1
  have hn : n = ds.length := by simp [rowV_len Dn.len] at hl; omega
  subst hn
  obtain ⟨p, c, rfl, h5⟩ := hk.2.2 3 _ _ h1
  refine ⟨p, c, rfl, h5, ?_⟩
  unfold rdD
  simp only [slOf, h5, Option.map_some, Option.bind_some, decD_row]
def mayD (d : Dn) : Bool := !(decide (d.slot < 0) || decide (1099511627776 < d.slot) || decide (300 < (d.data.size : Int)))
def mayL (l : List Dn) : Bool := l.all mayD && decide ((l.length : Int) ≤ 200)
def c53 [Inp] : Trans := fun args m k => match args with
  | [s] => optK (rdD m s) fun ds => ds.length ≤ 9223372036854775807 ∧ k (.v (.bool (mayL ds))) m
  | _ => False
theorem c53_ok [Inp] : Contract Try.prog 53 true c53 := by
  refine .read fn53 (G := fun _ => []) (fun J => @g0 J _) _ fun args m k h => ?_
  unfold c53 at h
  split at h
  · rename_i s
    obtain ⟨ds, hds, hb, hk⟩ := optK_inv h
    refine ⟨by simp, fun J hJ us hus => ?_⟩
    obtain ⟨u, t, rfl, hkn, rfl⟩ := hus
    obtain ⟨p, c, rfl, hin, _⟩ := rdD_knows hds hkn
    have hitem : ∀ (i : Nat) (x : Dn), ds[i]? = some x → inpL (plusA p (i * 3)) 3 = some x.cs := fun i x hx => inp_item Dn.len hin rfl hx
    simp (maxSteps := 2000000) -implicitDefEqProofs only [↓x53, ↓r53, ↓Sz.s_loopi, ↓Sz.v_pq, ↓Sz.PRE, Sz.POST, Sz.of_int, Sz.of_bool, Sz.of_str, Sz.of_sl, Sz.of_p, Sz.of_agg, Int.cast_ofNat_Int, Nat.mul_one, Nat.reduceDiv, Nat.reduceMod, Int.reduceLT, Int.reduceLE, Int.reduceToNat, Int.reduceAdd, decide_true, decide_false, ↓reduceIte, List.map_cons, List.map_nil, List.length_cons, List.length_nil, List.cons_append, List.nil_append, List.getElem?_cons_zero, List.getElem?_cons_succ, List.getElem?_nil, List.take_succ_cons, List.take_zero, List.drop_succ_cons, List.drop_zero, List.all_cons, List.all_nil, List.set_cons_zero, List.set_cons_succ, List.append_nil, Option.map_some, Option.map_none, cond_true, cond_false, Bool.true_eq_false, Bool.false_eq_true, Bool.not_true, Bool.not_false, Nat.reduceEqDiff, Nat.reduceAdd, Nat.reduceMul, Nat.reduceSub, Nat.reduceLeDiff, Nat.reduceLT, true_and, and_true, reduceCtorEq, Nat.zero_add, Nat.add_zero, Nat.zero_mul, Nat.le_refl, Int.toNat_natCast, Bool.and_self, Bool.true_and, Bool.and_true, if_true, eq_self, forall_const, and_self, implies_true]
    refine TXi_of (TX_count (g0 _) ds.length (fun x => [(0, .v (.slice p ds.length c)), (5, .v (.slice p ds.length c)), (6, .v (.int .i64 ds.length)), (7, .v (.int .i64 (x : Int)))]) (fun _ => []) (fun x => (ds.take x).all mayD = true) rfl ⟨[], by simp, by simp only [FitM, ObLe, LeL, Le, List.cons_append, List.nil_append] <;> (try (simp (maxSteps := 2000000) -implicitDefEqProofs only [↓Sz.s_loopi, ↓Sz.v_pq, ↓Sz.PRE, Sz.POST, Sz.of_int, Sz.of_bool, Sz.of_str, Sz.of_sl, Sz.of_p, Sz.of_agg, Int.cast_ofNat_Int, Nat.mul_one, Nat.reduceDiv, Nat.reduceMod, Int.reduceLT, Int.reduceLE, Int.reduceToNat, Int.reduceAdd, decide_true, decide_false, ↓reduceIte, List.map_cons, List.map_nil, List.length_cons, List.length_nil, List.cons_append, List.nil_append, List.getElem?_cons_zero, List.getElem?_cons_succ, List.getElem?_nil, List.take_succ_cons, List.take_zero, List.drop_succ_cons, List.drop_zero, List.all_cons, List.all_nil, List.set_cons_zero, List.set_cons_succ, List.append_nil, Option.map_some, Option.map_none, cond_true, cond_false, Bool.true_eq_false, Bool.false_eq_true, Bool.not_true, Bool.not_false, Nat.reduceEqDiff, Nat.reduceAdd, Nat.reduceMul, Nat.reduceSub, Nat.reduceLeDiff, Nat.reduceLT, true_and, and_true, reduceCtorEq, Nat.zero_add, Nat.add_zero, Nat.zero_mul, Nat.le_refl, Int.toNat_natCast, Bool.and_self, Bool.true_and, Bool.and_true, if_true, eq_self, forall_const, and_self, implies_true])) <;> (try simp), by simp only [FitE, Le, LeL, List.cons_append, List.nil_append] <;> (try (simp (maxSteps := 2000000) -implicitDefEqProofs only [↓Sz.s_loopi, ↓Sz.v_pq, ↓Sz.PRE, Sz.POST, Sz.of_int, Sz.of_bool, Sz.of_str, Sz.of_sl, Sz.of_p, Sz.of_agg, Int.cast_ofNat_Int, Nat.mul_one, Nat.reduceDiv, Nat.reduceMod, Int.reduceLT, Int.reduceLE, Int.reduceToNat, Int.reduceAdd, decide_true, decide_false, ↓reduceIte, List.map_cons, List.map_nil, List.length_cons, List.length_nil, List.cons_append, List.nil_append, List.getElem?_cons_zero, List.getElem?_cons_succ, List.getElem?_nil, List.take_succ_cons, List.take_zero, List.drop_succ_cons, List.drop_zero, List.all_cons, List.all_nil, List.set_cons_zero, List.set_cons_succ, List.append_nil, Option.map_some, Option.map_none, cond_true, cond_false, Bool.true_eq_false, Bool.false_eq_true, Bool.not_true, Bool.not_false, Nat.reduceEqDiff, Nat.reduceAdd, Nat.reduceMul, Nat.reduceSub, Nat.reduceLeDiff, Nat.reduceLT, true_and, and_true, reduceCtorEq, Nat.zero_add, Nat.add_zero, Nat.zero_mul, Nat.le_refl, Int.toNat_natCast, Bool.and_self, Bool.true_and, Bool.and_true, if_true, eq_self, forall_const, and_self, implies_true])) <;> (try simp), keep0 hJ⟩ ?_ ?_)
    · intro x hx hI
      obtain ⟨d, hd⟩ : ∃ d, ds[x]? = some d := ⟨_, List.getElem?_eq_getElem hx⟩
      have f : inpL (plusA p (x * 3)) 3 = some [.int .i64 d.slot, .int .i64 d.st, .string d.data] := hitem x d hd
      have hp : p.isSome = true := inpL_isSome hin (by omega)
      have i0 : (0 : Int) ≤ (x : Int) := by omega
      have i1 : (x : Int) < (ds.length : Int) := by omega
      have w1 : IntKind.i64.wrap ((x : Int) + 1) = (x : Int) + 1 := wrap_id (by omega) (by omega)
      simp (maxSteps := 2000000) -implicitDefEqProofs only [f, hp, i0, i1, w1, ↓Sz.s_loopi, ↓Sz.v_pq, ↓Sz.PRE, Sz.POST, Sz.of_int, Sz.of_bool, Sz.of_str, Sz.of_sl, Sz.of_p, Sz.of_agg, Int.cast_ofNat_Int, Nat.mul_one, Nat.reduceDiv, Nat.reduceMod, Int.reduceLT, Int.reduceLE, Int.reduceToNat, Int.reduceAdd, decide_true, decide_false, ↓reduceIte, List.map_cons, List.map_nil, List.length_cons, List.length_nil, List.cons_append, List.nil_append, List.getElem?_cons_zero, List.getElem?_cons_succ, List.getElem?_nil, List.take_succ_cons, List.take_zero, List.drop_succ_cons, List.drop_zero, List.all_cons, List.all_nil, List.set_cons_zero, List.set_cons_succ, List.append_nil, Option.map_some, Option.map_none, cond_true, cond_false, Bool.true_eq_false, Bool.false_eq_true, Bool.not_true, Bool.not_false, Nat.reduceEqDiff, Nat.reduceAdd, Nat.reduceMul, Nat.reduceSub, Nat.reduceLeDiff, Nat.reduceLT, true_and, and_true, reduceCtorEq, Nat.zero_add, Nat.add_zero, Nat.zero_mul, Nat.le_refl, Int.toNat_natCast, Bool.and_self, Bool.true_and, Bool.and_true, if_true, eq_self, forall_const, and_self, implies_true]
      simp only [decide_eq_true_eq, decide_eq_false_iff_not]
      have bad : mayD d = false → k (.v (.bool false)) m := fun hb => by
        have : mayL ds = false := by unfold mayL; rw [all_bad hd hb]; rfl
        rw [this] at hk; exact hk
      have next : mayD d = true → (ds.take (x + 1)).all mayD = true := fun hb => by rw [all_snoc _ hd, hI, hb]; rfl
      repeat' split
      all_goals first | exact bad (by unfold mayD; simp only [Bool.not_eq_false', Bool.or_eq_true, decide_eq_true_eq]; omega) | exact ⟨next (by unfold mayD; simp only [Bool.not_eq_true', Bool.or_eq_false_iff, decide_eq_false_iff_not]; omega), ⟨[], by simp, by simp only [FitM, ObLe, LeL, Le, List.cons_append, List.nil_append] <;> (try (simp (maxSteps := 2000000) -implicitDefEqProofs only [↓Sz.s_loopi, ↓Sz.v_pq, ↓Sz.PRE, Sz.POST, Sz.of_int, Sz.of_bool, Sz.of_str, Sz.of_sl, Sz.of_p, Sz.of_agg, Int.cast_ofNat_Int, Nat.mul_one, Nat.reduceDiv, Nat.reduceMod, Int.reduceLT, Int.reduceLE, Int.reduceToNat, Int.reduceAdd, decide_true, decide_false, ↓reduceIte, List.map_cons, List.map_nil, List.length_cons, List.length_nil, List.cons_append, List.nil_append, List.getElem?_cons_zero, List.getElem?_cons_succ, List.getElem?_nil, List.take_succ_cons, List.take_zero, List.drop_succ_cons, List.drop_zero, List.all_cons, List.all_nil, List.set_cons_zero, List.set_cons_succ, List.append_nil, Option.map_some, Option.map_none, cond_true, cond_false, Bool.true_eq_false, Bool.false_eq_true, Bool.not_true, Bool.not_false, Nat.reduceEqDiff, Nat.reduceAdd, Nat.reduceMul, Nat.reduceSub, Nat.reduceLeDiff, Nat.reduceLT, true_and, and_true, reduceCtorEq, Nat.zero_add, Nat.add_zero, Nat.zero_mul, Nat.le_refl, Int.toNat_natCast, Bool.and_self, Bool.true_and, Bool.and_true, if_true, eq_self, forall_const, and_self, implies_true])) <;> (try simp), by simp only [FitE, Le, LeL, List.cons_append, List.nil_append] <;> (try (simp (maxSteps := 2000000) -implicitDefEqProofs only [↓Sz.s_loopi, ↓Sz.v_pq, ↓Sz.PRE, Sz.POST, Sz.of_int, Sz.of_bool, Sz.of_str, Sz.of_sl, Sz.of_p, Sz.of_agg, Int.cast_ofNat_Int, Nat.mul_one, Nat.reduceDiv, Nat.reduceMod, Int.reduceLT, Int.reduceLE, Int.reduceToNat, Int.reduceAdd, decide_true, decide_false, ↓reduceIte, List.map_cons, List.map_nil, List.length_cons, List.length_nil, List.cons_append, List.nil_append, List.getElem?_cons_zero, List.getElem?_cons_succ, List.getElem?_nil, List.take_succ_cons, List.take_zero, List.drop_succ_cons, List.drop_zero, List.all_cons, List.all_nil, List.set_cons_zero, List.set_cons_succ, List.append_nil, Option.map_some, Option.map_none, cond_true, cond_false, Bool.true_eq_false, Bool.false_eq_true, Bool.not_true, Bool.not_false, Nat.reduceEqDiff, Nat.reduceAdd, Nat.reduceMul, Nat.reduceSub, Nat.reduceLeDiff, Nat.reduceLT, true_and, and_true, reduceCtorEq, Nat.zero_add, Nat.add_zero, Nat.zero_mul, Nat.le_refl, Int.toNat_natCast, Bool.and_self, Bool.true_and, Bool.and_true, if_true, eq_self, forall_const, and_self, implies_true])) <;> (try simp), keep0 hJ⟩⟩
    · intro hI
      have i1 : ¬ (ds.length : Int) < (ds.length : Int) := by omega
      simp (maxSteps := 2000000) -implicitDefEqProofs only [i1, ↓Sz.s_loopi, ↓Sz.v_pq, ↓Sz.PRE, Sz.POST, Sz.of_int, Sz.of_bool, Sz.of_str, Sz.of_sl, Sz.of_p, Sz.of_agg, Int.cast_ofNat_Int, Nat.mul_one, Nat.reduceDiv, Nat.reduceMod, Int.reduceLT, Int.reduceLE, Int.reduceToNat, Int.reduceAdd, decide_true, decide_false, ↓reduceIte, List.map_cons, List.map_nil, List.length_cons, List.length_nil, List.cons_append, List.nil_append, List.getElem?_cons_zero, List.getElem?_cons_succ, List.getElem?_nil, List.take_succ_cons, List.take_zero, List.drop_succ_cons, List.drop_zero, List.all_cons, List.all_nil, List.set_cons_zero, List.set_cons_succ, List.append_nil, Option.map_some, Option.map_none, cond_true, cond_false, Bool.true_eq_false, Bool.false_eq_true, Bool.not_true, Bool.not_false, Nat.reduceEqDiff, Nat.reduceAdd, Nat.reduceMul, Nat.reduceSub, Nat.reduceLeDiff, Nat.reduceLT, true_and, and_true, reduceCtorEq, Nat.zero_add, Nat.add_zero, Nat.zero_mul, Nat.le_refl, Int.toNat_natCast, Bool.and_self, Bool.true_and, Bool.and_true, if_true, eq_self, forall_const, and_self, implies_true]
      rw [List.take_length] at hI
      unfold mayL at hk
      rw [hI, Bool.true_and] at hk
      exact hk
  · exact h.elim
def cntF (st : Int) (l : List Dn) : Int := l.foldl (fun a d => if d.st == st then IntKind.i64.wrap (a + 1) else a) 0
def c55 [Inp] : Trans := fun args m k => match args with
  | [s, .v (.int .i64 st)] => optK (rdD m s) fun ds => ds.length ≤ 9223372036854775807 ∧ k (.v (.int .i64 (cntF st ds))) m
  | _ => False
theorem c55_ok [Inp] : Contract Try.prog 55 true c55 := by
  refine .read fn55 (G := fun _ => []) (fun J => @g0 J _) _ fun args m k h => ?_
  unfold c55 at h
  split at h
  · rename_i s st
    obtain ⟨ds, hds, hb, hk⟩ := optK_inv h
    refine ⟨by simp, fun J hJ us hus => ?_⟩
    obtain ⟨u, t, rfl, hkn, u2, t2, rfl, hkn2, rfl⟩ := hus
    obtain ⟨p, c, rfl, hin, _⟩ := rdD_knows hds hkn
    obtain rfl := hkn2.1 _ rfl
    have hitem : ∀ (i : Nat) (x : Dn), ds[i]? = some x → inpL (plusA p (i * 3)) 3 = some x.cs := fun i x hx => inp_item Dn.len hin rfl hx
    simp (maxSteps := 2000000) -implicitDefEqProofs only [↓x55, ↓r55, ↓Sz.s_loopi, ↓Sz.v_pq, ↓Sz.PRE, Sz.POST, Sz.of_int, Sz.of_bool, Sz.of_str, Sz.of_sl, Sz.of_p, Sz.of_agg, Int.cast_ofNat_Int, Nat.mul_one, Nat.reduceDiv, Nat.reduceMod, Int.reduceLT, Int.reduceLE, Int.reduceToNat, Int.reduceAdd, decide_true, decide_false, ↓reduceIte, List.map_cons, List.map_nil, List.length_cons, List.length_nil, List.cons_append, List.nil_append, List.getElem?_cons_zero, List.getElem?_cons_succ, List.getElem?_nil, List.take_succ_cons, List.take_zero, List.drop_succ_cons, List.drop_zero, List.all_cons, List.all_nil, List.set_cons_zero, List.set_cons_succ, List.append_nil, Option.map_some, Option.map_none, cond_true, cond_false, Bool.true_eq_false, Bool.false_eq_true, Bool.not_true, Bool.not_false, Nat.reduceEqDiff, Nat.reduceAdd, Nat.reduceMul, Nat.reduceSub, Nat.reduceLeDiff, Nat.reduceLT, true_and, and_true, reduceCtorEq, Nat.zero_add, Nat.add_zero, Nat.zero_mul, Nat.le_refl, Int.toNat_natCast, Bool.and_self, Bool.true_and, Bool.and_true, if_true, eq_self, forall_const, and_self, implies_true]
    refine TXi_of (TX_count (g0 _) ds.length (fun x => [(1, .v (.int .i64 st)), (5, .v (.int .i64 (cntF st (ds.take x)))), (8, .v (.slice p ds.length c)), (9, .v (.int .i64 ds.length)), (10, .v (.int .i64 (x : Int)))]) (fun _ => []) (fun x => True) trivial ?_ ?_ ?_)
    · exact ⟨[], by simp, by simp only [FitM, ObLe, LeL, Le, List.cons_append, List.nil_append] <;> (try (simp (maxSteps := 2000000) -implicitDefEqProofs only [List.take_zero, cntF, List.foldl_nil, ↓Sz.s_loopi, ↓Sz.v_pq, ↓Sz.PRE, Sz.POST, Sz.of_int, Sz.of_bool, Sz.of_str, Sz.of_sl, Sz.of_p, Sz.of_agg, Int.cast_ofNat_Int, Nat.mul_one, Nat.reduceDiv, Nat.reduceMod, Int.reduceLT, Int.reduceLE, Int.reduceToNat, Int.reduceAdd, decide_true, decide_false, ↓reduceIte, List.map_cons, List.map_nil, List.length_cons, List.length_nil, List.cons_append, List.nil_append, List.getElem?_cons_zero, List.getElem?_cons_succ, List.getElem?_nil, List.take_succ_cons, List.take_zero, List.drop_succ_cons, List.drop_zero, List.all_cons, List.all_nil, List.set_cons_zero, List.set_cons_succ, List.append_nil, Option.map_some, Option.map_none, cond_true, cond_false, Bool.true_eq_false, Bool.false_eq_true, Bool.not_true, Bool.not_false, Nat.reduceEqDiff, Nat.reduceAdd, Nat.reduceMul, Nat.reduceSub, Nat.reduceLeDiff, Nat.reduceLT, true_and, and_true, reduceCtorEq, Nat.zero_add, Nat.add_zero, Nat.zero_mul, Nat.le_refl, Int.toNat_natCast, Bool.and_self, Bool.true_and, Bool.and_true, if_true, eq_self, forall_const, and_self, implies_true])) <;> (try simp), by simp only [FitE, Le, LeL, List.cons_append, List.nil_append] <;> (try (simp (maxSteps := 2000000) -implicitDefEqProofs only [List.take_zero, cntF, List.foldl_nil, ↓Sz.s_loopi, ↓Sz.v_pq, ↓Sz.PRE, Sz.POST, Sz.of_int, Sz.of_bool, Sz.of_str, Sz.of_sl, Sz.of_p, Sz.of_agg, Int.cast_ofNat_Int, Nat.mul_one, Nat.reduceDiv, Nat.reduceMod, Int.reduceLT, Int.reduceLE, Int.reduceToNat, Int.reduceAdd, decide_true, decide_false, ↓reduceIte, List.map_cons, List.map_nil, List.length_cons, List.length_nil, List.cons_append, List.nil_append, List.getElem?_cons_zero, List.getElem?_cons_succ, List.getElem?_nil, List.take_succ_cons, List.take_zero, List.drop_succ_cons, List.drop_zero, List.all_cons, List.all_nil, List.set_cons_zero, List.set_cons_succ, List.append_nil, Option.map_some, Option.map_none, cond_true, cond_false, Bool.true_eq_false, Bool.false_eq_true, Bool.not_true, Bool.not_false, Nat.reduceEqDiff, Nat.reduceAdd, Nat.reduceMul, Nat.reduceSub, Nat.reduceLeDiff, Nat.reduceLT, true_and, and_true, reduceCtorEq, Nat.zero_add, Nat.add_zero, Nat.zero_mul, Nat.le_refl, Int.toNat_natCast, Bool.and_self, Bool.true_and, Bool.and_true, if_true, eq_self, forall_const, and_self, implies_true])) <;> (try simp), keep0 hJ⟩
    · intro x hx _
      obtain ⟨d, hd⟩ : ∃ d, ds[x]? = some d := ⟨_, List.getElem?_eq_getElem hx⟩
      have f : inpL (plusA p (x * 3)) 3 = some [.int .i64 d.slot, .int .i64 d.st, .string d.data] := hitem x d hd
      have hp : p.isSome = true := inpL_isSome hin (by omega)
      have i0 : (0 : Int) ≤ (x : Int) := by omega
      have i1 : (x : Int) < (ds.length : Int) := by omega
      have w1 : IntKind.i64.wrap ((x : Int) + 1) = (x : Int) + 1 := wrap_id (by omega) (by omega)
      have hs : cntF st (ds.take (x + 1)) = if d.st == st then IntKind.i64.wrap (cntF st (ds.take x) + 1) else cntF st (ds.take x) := foldl_snoc _ _ hd
      simp (maxSteps := 2000000) -implicitDefEqProofs only [f, hp, i0, i1, w1, ↓Sz.s_loopi, ↓Sz.v_pq, ↓Sz.PRE, Sz.POST, Sz.of_int, Sz.of_bool, Sz.of_str, Sz.of_sl, Sz.of_p, Sz.of_agg, Int.cast_ofNat_Int, Nat.mul_one, Nat.reduceDiv, Nat.reduceMod, Int.reduceLT, Int.reduceLE, Int.reduceToNat, Int.reduceAdd, decide_true, decide_false, ↓reduceIte, List.map_cons, List.map_nil, List.length_cons, List.length_nil, List.cons_append, List.nil_append, List.getElem?_cons_zero, List.getElem?_cons_succ, List.getElem?_nil, List.take_succ_cons, List.take_zero, List.drop_succ_cons, List.drop_zero, List.all_cons, List.all_nil, List.set_cons_zero, List.set_cons_succ, List.append_nil, Option.map_some, Option.map_none, cond_true, cond_false, Bool.true_eq_false, Bool.false_eq_true, Bool.not_true, Bool.not_false, Nat.reduceEqDiff, Nat.reduceAdd, Nat.reduceMul, Nat.reduceSub, Nat.reduceLeDiff, Nat.reduceLT, true_and, and_true, reduceCtorEq, Nat.zero_add, Nat.add_zero, Nat.zero_mul, Nat.le_refl, Int.toNat_natCast, Bool.and_self, Bool.true_and, Bool.and_true, if_true, eq_self, forall_const, and_self, implies_true]
      split
      · rename_i h1
        rw [if_pos h1] at hs
        exact ⟨[], by simp, by simp only [FitM, ObLe, LeL, Le, List.cons_append, List.nil_append] <;> (try (simp (maxSteps := 2000000) -implicitDefEqProofs only [hs, ↓Sz.s_loopi, ↓Sz.v_pq, ↓Sz.PRE, Sz.POST, Sz.of_int, Sz.of_bool, Sz.of_str, Sz.of_sl, Sz.of_p, Sz.of_agg, Int.cast_ofNat_Int, Nat.mul_one, Nat.reduceDiv, Nat.reduceMod, Int.reduceLT, Int.reduceLE, Int.reduceToNat, Int.reduceAdd, decide_true, decide_false, ↓reduceIte, List.map_cons, List.map_nil, List.length_cons, List.length_nil, List.cons_append, List.nil_append, List.getElem?_cons_zero, List.getElem?_cons_succ, List.getElem?_nil, List.take_succ_cons, List.take_zero, List.drop_succ_cons, List.drop_zero, List.all_cons, List.all_nil, List.set_cons_zero, List.set_cons_succ, List.append_nil, Option.map_some, Option.map_none, cond_true, cond_false, Bool.true_eq_false, Bool.false_eq_true, Bool.not_true, Bool.not_false, Nat.reduceEqDiff, Nat.reduceAdd, Nat.reduceMul, Nat.reduceSub, Nat.reduceLeDiff, Nat.reduceLT, true_and, and_true, reduceCtorEq, Nat.zero_add, Nat.add_zero, Nat.zero_mul, Nat.le_refl, Int.toNat_natCast, Bool.and_self, Bool.true_and, Bool.and_true, if_true, eq_self, forall_const, and_self, implies_true])) <;> (try simp), by simp only [FitE, Le, LeL, List.cons_append, List.nil_append] <;> (try (simp (maxSteps := 2000000) -implicitDefEqProofs only [hs, ↓Sz.s_loopi, ↓Sz.v_pq, ↓Sz.PRE, Sz.POST, Sz.of_int, Sz.of_bool, Sz.of_str, Sz.of_sl, Sz.of_p, Sz.of_agg, Int.cast_ofNat_Int, Nat.mul_one, Nat.reduceDiv, Nat.reduceMod, Int.reduceLT, Int.reduceLE, Int.reduceToNat, Int.reduceAdd, decide_true, decide_false, ↓reduceIte, List.map_cons, List.map_nil, List.length_cons, List.length_nil, List.cons_append, List.nil_append, List.getElem?_cons_zero, List.getElem?_cons_succ, List.getElem?_nil, List.take_succ_cons, List.take_zero, List.drop_succ_cons, List.drop_zero, List.all_cons, List.all_nil, List.set_cons_zero, List.set_cons_succ, List.append_nil, Option.map_some, Option.map_none, cond_true, cond_false, Bool.true_eq_false, Bool.false_eq_true, Bool.not_true, Bool.not_false, Nat.reduceEqDiff, Nat.reduceAdd, Nat.reduceMul, Nat.reduceSub, Nat.reduceLeDiff, Nat.reduceLT, true_and, and_true, reduceCtorEq, Nat.zero_add, Nat.add_zero, Nat.zero_mul, Nat.le_refl, Int.toNat_natCast, Bool.and_self, Bool.true_and, Bool.and_true, if_true, eq_self, forall_const, and_self, implies_true])) <;> (try simp), keep0 hJ⟩
      · rename_i h1
        rw [if_neg h1] at hs
        exact ⟨[], by simp, by simp only [FitM, ObLe, LeL, Le, List.cons_append, List.nil_append] <;> (try (simp (maxSteps := 2000000) -implicitDefEqProofs only [hs, ↓Sz.s_loopi, ↓Sz.v_pq, ↓Sz.PRE, Sz.POST, Sz.of_int, Sz.of_bool, Sz.of_str, Sz.of_sl, Sz.of_p, Sz.of_agg, Int.cast_ofNat_Int, Nat.mul_one, Nat.reduceDiv, Nat.reduceMod, Int.reduceLT, Int.reduceLE, Int.reduceToNat, Int.reduceAdd, decide_true, decide_false, ↓reduceIte, List.map_cons, List.map_nil, List.length_cons, List.length_nil, List.cons_append, List.nil_append, List.getElem?_cons_zero, List.getElem?_cons_succ, List.getElem?_nil, List.take_succ_cons, List.take_zero, List.drop_succ_cons, List.drop_zero, List.all_cons, List.all_nil, List.set_cons_zero, List.set_cons_succ, List.append_nil, Option.map_some, Option.map_none, cond_true, cond_false, Bool.true_eq_false, Bool.false_eq_true, Bool.not_true, Bool.not_false, Nat.reduceEqDiff, Nat.reduceAdd, Nat.reduceMul, Nat.reduceSub, Nat.reduceLeDiff, Nat.reduceLT, true_and, and_true, reduceCtorEq, Nat.zero_add, Nat.add_zero, Nat.zero_mul, Nat.le_refl, Int.toNat_natCast, Bool.and_self, Bool.true_and, Bool.and_true, if_true, eq_self, forall_const, and_self, implies_true])) <;> (try simp), by simp only [FitE, Le, LeL, List.cons_append, List.nil_append] <;> (try (simp (maxSteps := 2000000) -implicitDefEqProofs only [hs, ↓Sz.s_loopi, ↓Sz.v_pq, ↓Sz.PRE, Sz.POST, Sz.of_int, Sz.of_bool, Sz.of_str, Sz.of_sl, Sz.of_p, Sz.of_agg, Int.cast_ofNat_Int, Nat.mul_one, Nat.reduceDiv, Nat.reduceMod, Int.reduceLT, Int.reduceLE, Int.reduceToNat, Int.reduceAdd, decide_true, decide_false, ↓reduceIte, List.map_cons, List.map_nil, List.length_cons, List.length_nil, List.cons_append, List.nil_append, List.getElem?_cons_zero, List.getElem?_cons_succ, List.getElem?_nil, List.take_succ_cons, List.take_zero, List.drop_succ_cons, List.drop_zero, List.all_cons, List.all_nil, List.set_cons_zero, List.set_cons_succ, List.append_nil, Option.map_some, Option.map_none, cond_true, cond_false, Bool.true_eq_false, Bool.false_eq_true, Bool.not_true, Bool.not_false, Nat.reduceEqDiff, Nat.reduceAdd, Nat.reduceMul, Nat.reduceSub, Nat.reduceLeDiff, Nat.reduceLT, true_and, and_true, reduceCtorEq, Nat.zero_add, Nat.add_zero, Nat.zero_mul, Nat.le_refl, Int.toNat_natCast, Bool.and_self, Bool.true_and, Bool.and_true, if_true, eq_self, forall_const, and_self, implies_true])) <;> (try simp), keep0 hJ⟩
    · intro _
      have i1 : ¬ (ds.length : Int) < (ds.length : Int) := by omega
      simp (maxSteps := 2000000) -implicitDefEqProofs only [i1, List.take_length, ↓Sz.s_loopi, ↓Sz.v_pq, ↓Sz.PRE, Sz.POST, Sz.of_int, Sz.of_bool, Sz.of_str, Sz.of_sl, Sz.of_p, Sz.of_agg, Int.cast_ofNat_Int, Nat.mul_one, Nat.reduceDiv, Nat.reduceMod, Int.reduceLT, Int.reduceLE, Int.reduceToNat, Int.reduceAdd, decide_true, decide_false, ↓reduceIte, List.map_cons, List.map_nil, List.length_cons, List.length_nil, List.cons_append, List.nil_append, List.getElem?_cons_zero, List.getElem?_cons_succ, List.getElem?_nil, List.take_succ_cons, List.take_zero, List.drop_succ_cons, List.drop_zero, List.all_cons, List.all_nil, List.set_cons_zero, List.set_cons_succ, List.append_nil, Option.map_some, Option.map_none, cond_true, cond_false, Bool.true_eq_false, Bool.false_eq_true, Bool.not_true, Bool.not_false, Nat.reduceEqDiff, Nat.reduceAdd, Nat.reduceMul, Nat.reduceSub, Nat.reduceLeDiff, Nat.reduceLT, true_and, and_true, reduceCtorEq, Nat.zero_add, Nat.add_zero, Nat.zero_mul, Nat.le_refl, Int.toNat_natCast, Bool.and_self, Bool.true_and, Bool.and_true, if_true, eq_self, forall_const, and_self, implies_true]
      exact hk
  · exact h.elim
def bytF (l : List Dn) : Int := l.foldl (fun a d => IntKind.i64.wrap (a + (d.data.size : Int))) 0
def c57 [Inp] : Trans := fun args m k => match args with
  | [s] => optK (rdD m s) fun ds => ds.length ≤ 9223372036854775807 ∧ k (.v (.int .i64 (bytF ds))) m
  | _ => False
theorem c57_ok [Inp] : Contract Try.prog 57 true c57 := by
  refine .read fn57 (G := fun _ => []) (fun J => @g0 J _) _ fun args m k h => ?_
  unfold c57 at h
  split at h
  · rename_i s
    obtain ⟨ds, hds, hb, hk⟩ := optK_inv h
    refine ⟨by simp, fun J hJ us hus => ?_⟩
    obtain ⟨u, t, rfl, hkn, rfl⟩ := hus
    obtain ⟨p, c, rfl, hin, _⟩ := rdD_knows hds hkn
    have hitem : ∀ (i : Nat) (x : Dn), ds[i]? = some x → inpL (plusA p (i * 3)) 3 = some x.cs := fun i x hx => inp_item Dn.len hin rfl hx
    simp (maxSteps := 2000000) -implicitDefEqProofs only [↓x57, ↓r57, ↓Sz.s_loopi, ↓Sz.v_pq, ↓Sz.PRE, Sz.POST, Sz.of_int, Sz.of_bool, Sz.of_str, Sz.of_sl, Sz.of_p, Sz.of_agg, Int.cast_ofNat_Int, Nat.mul_one, Nat.reduceDiv, Nat.reduceMod, Int.reduceLT, Int.reduceLE, Int.reduceToNat, Int.reduceAdd, decide_true, decide_false, ↓reduceIte, List.map_cons, List.map_nil, List.length_cons, List.length_nil, List.cons_append, List.nil_append, List.getElem?_cons_zero, List.getElem?_cons_succ, List.getElem?_nil, List.take_succ_cons, List.take_zero, List.drop_succ_cons, List.drop_zero, List.all_cons, List.all_nil, List.set_cons_zero, List.set_cons_succ, List.append_nil, Option.map_some, Option.map_none, cond_true, cond_false, Bool.true_eq_false, Bool.false_eq_true, Bool.not_true, Bool.not_false, Nat.reduceEqDiff, Nat.reduceAdd, Nat.reduceMul, Nat.reduceSub, Nat.reduceLeDiff, Nat.reduceLT, true_and, and_true, reduceCtorEq, Nat.zero_add, Nat.add_zero, Nat.zero_mul, Nat.le_refl, Int.toNat_natCast, Bool.and_self, Bool.true_and, Bool.and_true, if_true, eq_self, forall_const, and_self, implies_true]
    refine TXi_of (TX_count (g0 _) ds.length (fun x => [(3, .v (.int .i64 (bytF (ds.take x)))), (6, .v (.slice p ds.length c)), (7, .v (.int .i64 ds.length)), (8, .v (.int .i64 (x : Int)))]) (fun _ => []) (fun x => True) trivial ?_ ?_ ?_)
    · exact ⟨[], by simp, by simp only [FitM, ObLe, LeL, Le, List.cons_append, List.nil_append] <;> (try (simp (maxSteps := 2000000) -implicitDefEqProofs only [List.take_zero, bytF, List.foldl_nil, ↓Sz.s_loopi, ↓Sz.v_pq, ↓Sz.PRE, Sz.POST, Sz.of_int, Sz.of_bool, Sz.of_str, Sz.of_sl, Sz.of_p, Sz.of_agg, Int.cast_ofNat_Int, Nat.mul_one, Nat.reduceDiv, Nat.reduceMod, Int.reduceLT, Int.reduceLE, Int.reduceToNat, Int.reduceAdd, decide_true, decide_false, ↓reduceIte, List.map_cons, List.map_nil, List.length_cons, List.length_nil, List.cons_append, List.nil_append, List.getElem?_cons_zero, List.getElem?_cons_succ, List.getElem?_nil, List.take_succ_cons, List.take_zero, List.drop_succ_cons, List.drop_zero, List.all_cons, List.all_nil, List.set_cons_zero, List.set_cons_succ, List.append_nil, Option.map_some, Option.map_none, cond_true, cond_false, Bool.true_eq_false, Bool.false_eq_true, Bool.not_true, Bool.not_false, Nat.reduceEqDiff, Nat.reduceAdd, Nat.reduceMul, Nat.reduceSub, Nat.reduceLeDiff, Nat.reduceLT, true_and, and_true, reduceCtorEq, Nat.zero_add, Nat.add_zero, Nat.zero_mul, Nat.le_refl, Int.toNat_natCast, Bool.and_self, Bool.true_and, Bool.and_true, if_true, eq_self, forall_const, and_self, implies_true])) <;> (try simp), by simp only [FitE, Le, LeL, List.cons_append, List.nil_append] <;> (try (simp (maxSteps := 2000000) -implicitDefEqProofs only [List.take_zero, bytF, List.foldl_nil, ↓Sz.s_loopi, ↓Sz.v_pq, ↓Sz.PRE, Sz.POST, Sz.of_int, Sz.of_bool, Sz.of_str, Sz.of_sl, Sz.of_p, Sz.of_agg, Int.cast_ofNat_Int, Nat.mul_one, Nat.reduceDiv, Nat.reduceMod, Int.reduceLT, Int.reduceLE, Int.reduceToNat, Int.reduceAdd, decide_true, decide_false, ↓reduceIte, List.map_cons, List.map_nil, List.length_cons, List.length_nil, List.cons_append, List.nil_append, List.getElem?_cons_zero, List.getElem?_cons_succ, List.getElem?_nil, List.take_succ_cons, List.take_zero, List.drop_succ_cons, List.drop_zero, List.all_cons, List.all_nil, List.set_cons_zero, List.set_cons_succ, List.append_nil, Option.map_some, Option.map_none, cond_true, cond_false, Bool.true_eq_false, Bool.false_eq_true, Bool.not_true, Bool.not_false, Nat.reduceEqDiff, Nat.reduceAdd, Nat.reduceMul, Nat.reduceSub, Nat.reduceLeDiff, Nat.reduceLT, true_and, and_true, reduceCtorEq, Nat.zero_add, Nat.add_zero, Nat.zero_mul, Nat.le_refl, Int.toNat_natCast, Bool.and_self, Bool.true_and, Bool.and_true, if_true, eq_self, forall_const, and_self, implies_true])) <;> (try simp), keep0 hJ⟩
    · intro x hx _
      obtain ⟨d, hd⟩ : ∃ d, ds[x]? = some d := ⟨_, List.getElem?_eq_getElem hx⟩
      have f : inpL (plusA p (x * 3)) 3 = some [.int .i64 d.slot, .int .i64 d.st, .string d.data] := hitem x d hd
      have hp : p.isSome = true := inpL_isSome hin (by omega)
      have i0 : (0 : Int) ≤ (x : Int) := by omega
      have i1 : (x : Int) < (ds.length : Int) := by omega
      have w1 : IntKind.i64.wrap ((x : Int) + 1) = (x : Int) + 1 := wrap_id (by omega) (by omega)
      have hs : bytF (ds.take (x + 1)) = IntKind.i64.wrap (bytF (ds.take x) + (d.data.size : Int)) := foldl_snoc _ _ hd
      simp (maxSteps := 2000000) -implicitDefEqProofs only [f, hp, i0, i1, w1, ↓Sz.s_loopi, ↓Sz.v_pq, ↓Sz.PRE, Sz.POST, Sz.of_int, Sz.of_bool, Sz.of_str, Sz.of_sl, Sz.of_p, Sz.of_agg, Int.cast_ofNat_Int, Nat.mul_one, Nat.reduceDiv, Nat.reduceMod, Int.reduceLT, Int.reduceLE, Int.reduceToNat, Int.reduceAdd, decide_true, decide_false, ↓reduceIte, List.map_cons, List.map_nil, List.length_cons, List.length_nil, List.cons_append, List.nil_append, List.getElem?_cons_zero, List.getElem?_cons_succ, List.getElem?_nil, List.take_succ_cons, List.take_zero, List.drop_succ_cons, List.drop_zero, List.all_cons, List.all_nil, List.set_cons_zero, List.set_cons_succ, List.append_nil, Option.map_some, Option.map_none, cond_true, cond_false, Bool.true_eq_false, Bool.false_eq_true, Bool.not_true, Bool.not_false, Nat.reduceEqDiff, Nat.reduceAdd, Nat.reduceMul, Nat.reduceSub, Nat.reduceLeDiff, Nat.reduceLT, true_and, and_true, reduceCtorEq, Nat.zero_add, Nat.add_zero, Nat.zero_mul, Nat.le_refl, Int.toNat_natCast, Bool.and_self, Bool.true_and, Bool.and_true, if_true, eq_self, forall_const, and_self, implies_true]
      exact ⟨[], by simp, by simp only [FitM, ObLe, LeL, Le, List.cons_append, List.nil_append] <;> (try (simp (maxSteps := 2000000) -implicitDefEqProofs only [hs, ↓Sz.s_loopi, ↓Sz.v_pq, ↓Sz.PRE, Sz.POST, Sz.of_int, Sz.of_bool, Sz.of_str, Sz.of_sl, Sz.of_p, Sz.of_agg, Int.cast_ofNat_Int, Nat.mul_one, Nat.reduceDiv, Nat.reduceMod, Int.reduceLT, Int.reduceLE, Int.reduceToNat, Int.reduceAdd, decide_true, decide_false, ↓reduceIte, List.map_cons, List.map_nil, List.length_cons, List.length_nil, List.cons_append, List.nil_append, List.getElem?_cons_zero, List.getElem?_cons_succ, List.getElem?_nil, List.take_succ_cons, List.take_zero, List.drop_succ_cons, List.drop_zero, List.all_cons, List.all_nil, List.set_cons_zero, List.set_cons_succ, List.append_nil, Option.map_some, Option.map_none, cond_true, cond_false, Bool.true_eq_false, Bool.false_eq_true, Bool.not_true, Bool.not_false, Nat.reduceEqDiff, Nat.reduceAdd, Nat.reduceMul, Nat.reduceSub, Nat.reduceLeDiff, Nat.reduceLT, true_and, and_true, reduceCtorEq, Nat.zero_add, Nat.add_zero, Nat.zero_mul, Nat.le_refl, Int.toNat_natCast, Bool.and_self, Bool.true_and, Bool.and_true, if_true, eq_self, forall_const, and_self, implies_true])) <;> (try simp), by simp only [FitE, Le, LeL, List.cons_append, List.nil_append] <;> (try (simp (maxSteps := 2000000) -implicitDefEqProofs only [hs, ↓Sz.s_loopi, ↓Sz.v_pq, ↓Sz.PRE, Sz.POST, Sz.of_int, Sz.of_bool, Sz.of_str, Sz.of_sl, Sz.of_p, Sz.of_agg, Int.cast_ofNat_Int, Nat.mul_one, Nat.reduceDiv, Nat.reduceMod, Int.reduceLT, Int.reduceLE, Int.reduceToNat, Int.reduceAdd, decide_true, decide_false, ↓reduceIte, List.map_cons, List.map_nil, List.length_cons, List.length_nil, List.cons_append, List.nil_append, List.getElem?_cons_zero, List.getElem?_cons_succ, List.getElem?_nil, List.take_succ_cons, List.take_zero, List.drop_succ_cons, List.drop_zero, List.all_cons, List.all_nil, List.set_cons_zero, List.set_cons_succ, List.append_nil, Option.map_some, Option.map_none, cond_true, cond_false, Bool.true_eq_false, Bool.false_eq_true, Bool.not_true, Bool.not_false, Nat.reduceEqDiff, Nat.reduceAdd, Nat.reduceMul, Nat.reduceSub, Nat.reduceLeDiff, Nat.reduceLT, true_and, and_true, reduceCtorEq, Nat.zero_add, Nat.add_zero, Nat.zero_mul, Nat.le_refl, Int.toNat_natCast, Bool.and_self, Bool.true_and, Bool.and_true, if_true, eq_self, forall_const, and_self, implies_true])) <;> (try simp), keep0 hJ⟩
    · intro _
      have i1 : ¬ (ds.length : Int) < (ds.length : Int) := by omega
      simp (maxSteps := 2000000) -implicitDefEqProofs only [i1, List.take_length, ↓Sz.s_loopi, ↓Sz.v_pq, ↓Sz.PRE, Sz.POST, Sz.of_int, Sz.of_bool, Sz.of_str, Sz.of_sl, Sz.of_p, Sz.of_agg, Int.cast_ofNat_Int, Nat.mul_one, Nat.reduceDiv, Nat.reduceMod, Int.reduceLT, Int.reduceLE, Int.reduceToNat, Int.reduceAdd, decide_true, decide_false, ↓reduceIte, List.map_cons, List.map_nil, List.length_cons, List.length_nil, List.cons_append, List.nil_append, List.getElem?_cons_zero, List.getElem?_cons_succ, List.getElem?_nil, List.take_succ_cons, List.take_zero, List.drop_succ_cons, List.drop_zero, List.all_cons, List.all_nil, List.set_cons_zero, List.set_cons_succ, List.append_nil, Option.map_some, Option.map_none, cond_true, cond_false, Bool.true_eq_false, Bool.false_eq_true, Bool.not_true, Bool.not_false, Nat.reduceEqDiff, Nat.reduceAdd, Nat.reduceMul, Nat.reduceSub, Nat.reduceLeDiff, Nat.reduceLT, true_and, and_true, reduceCtorEq, Nat.zero_add, Nat.add_zero, Nat.zero_mul, Nat.le_refl, Int.toNat_natCast, Bool.and_self, Bool.true_and, Bool.and_true, if_true, eq_self, forall_const, and_self, implies_true]
      exact hk
  · exact h.elim
/-- The greatest gap, from a place on. -/
def gapA (a : Int) : List Dn → Int
  | d :: e :: l => gapA (if a < IntKind.i64.wrap (e.slot - d.slot) then IntKind.i64.wrap (e.slot - d.slot) else a) (e :: l)
  | _ => a
theorem gapA_snoc : ∀ (l : List Dn) (a : Int) (d e : Dn), gapA a (l ++ [d, e]) = (if gapA a (l ++ [d]) < IntKind.i64.wrap (e.slot - d.slot) then IntKind.i64.wrap (e.slot - d.slot) else gapA a (l ++ [d]))
  | [], a, d, e => rfl
  | [x], a, d, e => rfl
  | x :: y :: l, a, d, e => by
    have := gapA_snoc (y :: l) (if a < IntKind.i64.wrap (y.slot - x.slot) then IntKind.i64.wrap (y.slot - x.slot) else a) d e
    simpa only [List.cons_append, gapA] using this
def c58 [Inp] : Trans := fun args m k => match args with
  | [s] => optK (rdD m s) fun ds => ds.length ≤ 9223372036854775807 ∧ k (.v (.int .i64 (gapA 0 ds))) m
  | _ => False
theorem c58_ok [Inp] : Contract Try.prog 58 true c58 := by
  refine .read fn58 (G := fun _ => []) (fun J => @g0 J _) _ fun args m k h => ?_
  unfold c58 at h
  split at h
  · rename_i s
    obtain ⟨ds, hds, hb, hk⟩ := optK_inv h
    refine ⟨by simp, fun J hJ us hus => ?_⟩
    obtain ⟨u, t, rfl, hkn, rfl⟩ := hus
    obtain ⟨p, c, rfl, hin, _⟩ := rdD_knows hds hkn
    have hitem : ∀ (i : Nat) (x : Dn), ds[i]? = some x → inpL (plusA (plusA p (i * 3)) 0) 1 = some [.int .i64 x.slot] := fun i x hx => inpL_part (inp_item Dn.len hin rfl hx) (by omega)
    simp (maxSteps := 2000000) -implicitDefEqProofs only [↓x58, ↓r58, ↓Sz.s_loopi, ↓Sz.v_pq, ↓Sz.PRE, Sz.POST, Sz.of_int, Sz.of_bool, Sz.of_str, Sz.of_sl, Sz.of_p, Sz.of_agg, Int.cast_ofNat_Int, Nat.mul_one, Nat.reduceDiv, Nat.reduceMod, Int.reduceLT, Int.reduceLE, Int.reduceToNat, Int.reduceAdd, decide_true, decide_false, ↓reduceIte, List.map_cons, List.map_nil, List.length_cons, List.length_nil, List.cons_append, List.nil_append, List.getElem?_cons_zero, List.getElem?_cons_succ, List.getElem?_nil, List.take_succ_cons, List.take_zero, List.drop_succ_cons, List.drop_zero, List.all_cons, List.all_nil, List.set_cons_zero, List.set_cons_succ, List.append_nil, Option.map_some, Option.map_none, cond_true, cond_false, Bool.true_eq_false, Bool.false_eq_true, Bool.not_true, Bool.not_false, Nat.reduceEqDiff, Nat.reduceAdd, Nat.reduceMul, Nat.reduceSub, Nat.reduceLeDiff, Nat.reduceLT, true_and, and_true, reduceCtorEq, Nat.zero_add, Nat.add_zero, Nat.zero_mul, Nat.le_refl, Int.toNat_natCast, Bool.and_self, Bool.true_and, Bool.and_true, if_true, eq_self, forall_const, and_self, implies_true]
    refine TXi_of (TX_count (g0 _) (ds.length - 1) (fun x => [(0, .v (.slice p ds.length c)), (3, .v (.int .i64 (gapA 0 (ds.take (x + 1))))), (4, .v (.int .i64 ((x : Int) + 1)))]) (fun _ => []) (fun x => True) trivial ?_ ?_ ?_)
    · have : gapA 0 (ds.take 1) = 0 := by rcases ds with _ | ⟨d, _⟩ <;> rfl
      exact ⟨[], by simp, by simp only [FitM, ObLe, LeL, Le, List.cons_append, List.nil_append] <;> (try (simp (maxSteps := 2000000) -implicitDefEqProofs only [this, ↓Sz.s_loopi, ↓Sz.v_pq, ↓Sz.PRE, Sz.POST, Sz.of_int, Sz.of_bool, Sz.of_str, Sz.of_sl, Sz.of_p, Sz.of_agg, Int.cast_ofNat_Int, Nat.mul_one, Nat.reduceDiv, Nat.reduceMod, Int.reduceLT, Int.reduceLE, Int.reduceToNat, Int.reduceAdd, decide_true, decide_false, ↓reduceIte, List.map_cons, List.map_nil, List.length_cons, List.length_nil, List.cons_append, List.nil_append, List.getElem?_cons_zero, List.getElem?_cons_succ, List.getElem?_nil, List.take_succ_cons, List.take_zero, List.drop_succ_cons, List.drop_zero, List.all_cons, List.all_nil, List.set_cons_zero, List.set_cons_succ, List.append_nil, Option.map_some, Option.map_none, cond_true, cond_false, Bool.true_eq_false, Bool.false_eq_true, Bool.not_true, Bool.not_false, Nat.reduceEqDiff, Nat.reduceAdd, Nat.reduceMul, Nat.reduceSub, Nat.reduceLeDiff, Nat.reduceLT, true_and, and_true, reduceCtorEq, Nat.zero_add, Nat.add_zero, Nat.zero_mul, Nat.le_refl, Int.toNat_natCast, Bool.and_self, Bool.true_and, Bool.and_true, if_true, eq_self, forall_const, and_self, implies_true])) <;> (try simp), by simp only [FitE, Le, LeL, List.cons_append, List.nil_append] <;> (try (simp (maxSteps := 2000000) -implicitDefEqProofs only [this, ↓Sz.s_loopi, ↓Sz.v_pq, ↓Sz.PRE, Sz.POST, Sz.of_int, Sz.of_bool, Sz.of_str, Sz.of_sl, Sz.of_p, Sz.of_agg, Int.cast_ofNat_Int, Nat.mul_one, Nat.reduceDiv, Nat.reduceMod, Int.reduceLT, Int.reduceLE, Int.reduceToNat, Int.reduceAdd, decide_true, decide_false, ↓reduceIte, List.map_cons, List.map_nil, List.length_cons, List.length_nil, List.cons_append, List.nil_append, List.getElem?_cons_zero, List.getElem?_cons_succ, List.getElem?_nil, List.take_succ_cons, List.take_zero, List.drop_succ_cons, List.drop_zero, List.all_cons, List.all_nil, List.set_cons_zero, List.set_cons_succ, List.append_nil, Option.map_some, Option.map_none, cond_true, cond_false, Bool.true_eq_false, Bool.false_eq_true, Bool.not_true, Bool.not_false, Nat.reduceEqDiff, Nat.reduceAdd, Nat.reduceMul, Nat.reduceSub, Nat.reduceLeDiff, Nat.reduceLT, true_and, and_true, reduceCtorEq, Nat.zero_add, Nat.add_zero, Nat.zero_mul, Nat.le_refl, Int.toNat_natCast, Bool.and_self, Bool.true_and, Bool.and_true, if_true, eq_self, forall_const, and_self, implies_true])) <;> (try simp), keep0 hJ⟩
    · intro x hx _
      obtain ⟨d, hd⟩ : ∃ d, ds[x]? = some d := ⟨_, List.getElem?_eq_getElem (by omega)⟩
      obtain ⟨e, he⟩ : ∃ e, ds[x + 1]? = some e := ⟨_, List.getElem?_eq_getElem (by omega)⟩
      have f1 : inpL (plusA (plusA p (x * 3)) 0) 1 = some [.int .i64 d.slot] := hitem x d hd
      have f2 : inpL (plusA (plusA p (((x : Int) + 1).toNat * 3)) 0) 1 = some [.int .i64 e.slot] := by
        have := hitem (x + 1) e he
        rwa [show ((x : Int) + 1).toNat = x + 1 by omega]
      have hp : p.isSome = true := inpL_isSome hin (by omega)
      have i0 : (0 : Int) ≤ (x : Int) := by omega
      have i1 : (x : Int) + 1 < (ds.length : Int) := by omega
      have i2 : (x : Int) < (ds.length : Int) := by omega
      have i3 : (0 : Int) ≤ (x : Int) + 1 := by omega
      have w0 : IntKind.i64.wrap ((x : Int) + 1 - 1) = (x : Int) := by rw [show (x : Int) + 1 - 1 = x by omega]; exact wrap_id (by omega) (by omega)
      have w1 : IntKind.i64.wrap ((x : Int) + 1 + 1) = (x : Int) + 1 + 1 := wrap_id (by omega) (by omega)
      have e1 : ds.take (x + 1) = ds.take x ++ [d] := take_snoc hd
      have e2 : ds.take (x + 1 + 1) = ds.take x ++ [d, e] := by rw [take_snoc he, e1]; simp
      have hs : gapA 0 (ds.take (x + 1 + 1)) = (if gapA 0 (ds.take (x + 1)) < IntKind.i64.wrap (e.slot - d.slot) then IntKind.i64.wrap (e.slot - d.slot) else gapA 0 (ds.take (x + 1))) := by rw [e2, e1]; exact gapA_snoc _ _ _ _
      simp (maxSteps := 2000000) -implicitDefEqProofs only [f1, f2, hp, i0, i1, i2, i3, w0, w1, ↓Sz.s_loopi, ↓Sz.v_pq, ↓Sz.PRE, Sz.POST, Sz.of_int, Sz.of_bool, Sz.of_str, Sz.of_sl, Sz.of_p, Sz.of_agg, Int.cast_ofNat_Int, Nat.mul_one, Nat.reduceDiv, Nat.reduceMod, Int.reduceLT, Int.reduceLE, Int.reduceToNat, Int.reduceAdd, decide_true, decide_false, ↓reduceIte, List.map_cons, List.map_nil, List.length_cons, List.length_nil, List.cons_append, List.nil_append, List.getElem?_cons_zero, List.getElem?_cons_succ, List.getElem?_nil, List.take_succ_cons, List.take_zero, List.drop_succ_cons, List.drop_zero, List.all_cons, List.all_nil, List.set_cons_zero, List.set_cons_succ, List.append_nil, Option.map_some, Option.map_none, cond_true, cond_false, Bool.true_eq_false, Bool.false_eq_true, Bool.not_true, Bool.not_false, Nat.reduceEqDiff, Nat.reduceAdd, Nat.reduceMul, Nat.reduceSub, Nat.reduceLeDiff, Nat.reduceLT, true_and, and_true, reduceCtorEq, Nat.zero_add, Nat.add_zero, Nat.zero_mul, Nat.le_refl, Int.toNat_natCast, Bool.and_self, Bool.true_and, Bool.and_true, if_true, eq_self, forall_const, and_self, implies_true]
      simp only [decide_eq_true_eq]
      split
      · rename_i h1
        rw [if_pos h1] at hs
        exact ⟨[], by simp, by simp only [FitM, ObLe, LeL, Le, List.cons_append, List.nil_append] <;> (try (simp (maxSteps := 2000000) -implicitDefEqProofs only [hs, ↓Sz.s_loopi, ↓Sz.v_pq, ↓Sz.PRE, Sz.POST, Sz.of_int, Sz.of_bool, Sz.of_str, Sz.of_sl, Sz.of_p, Sz.of_agg, Int.cast_ofNat_Int, Nat.mul_one, Nat.reduceDiv, Nat.reduceMod, Int.reduceLT, Int.reduceLE, Int.reduceToNat, Int.reduceAdd, decide_true, decide_false, ↓reduceIte, List.map_cons, List.map_nil, List.length_cons, List.length_nil, List.cons_append, List.nil_append, List.getElem?_cons_zero, List.getElem?_cons_succ, List.getElem?_nil, List.take_succ_cons, List.take_zero, List.drop_succ_cons, List.drop_zero, List.all_cons, List.all_nil, List.set_cons_zero, List.set_cons_succ, List.append_nil, Option.map_some, Option.map_none, cond_true, cond_false, Bool.true_eq_false, Bool.false_eq_true, Bool.not_true, Bool.not_false, Nat.reduceEqDiff, Nat.reduceAdd, Nat.reduceMul, Nat.reduceSub, Nat.reduceLeDiff, Nat.reduceLT, true_and, and_true, reduceCtorEq, Nat.zero_add, Nat.add_zero, Nat.zero_mul, Nat.le_refl, Int.toNat_natCast, Bool.and_self, Bool.true_and, Bool.and_true, if_true, eq_self, forall_const, and_self, implies_true])) <;> (try simp), by simp only [FitE, Le, LeL, List.cons_append, List.nil_append] <;> (try (simp (maxSteps := 2000000) -implicitDefEqProofs only [hs, ↓Sz.s_loopi, ↓Sz.v_pq, ↓Sz.PRE, Sz.POST, Sz.of_int, Sz.of_bool, Sz.of_str, Sz.of_sl, Sz.of_p, Sz.of_agg, Int.cast_ofNat_Int, Nat.mul_one, Nat.reduceDiv, Nat.reduceMod, Int.reduceLT, Int.reduceLE, Int.reduceToNat, Int.reduceAdd, decide_true, decide_false, ↓reduceIte, List.map_cons, List.map_nil, List.length_cons, List.length_nil, List.cons_append, List.nil_append, List.getElem?_cons_zero, List.getElem?_cons_succ, List.getElem?_nil, List.take_succ_cons, List.take_zero, List.drop_succ_cons, List.drop_zero, List.all_cons, List.all_nil, List.set_cons_zero, List.set_cons_succ, List.append_nil, Option.map_some, Option.map_none, cond_true, cond_false, Bool.true_eq_false, Bool.false_eq_true, Bool.not_true, Bool.not_false, Nat.reduceEqDiff, Nat.reduceAdd, Nat.reduceMul, Nat.reduceSub, Nat.reduceLeDiff, Nat.reduceLT, true_and, and_true, reduceCtorEq, Nat.zero_add, Nat.add_zero, Nat.zero_mul, Nat.le_refl, Int.toNat_natCast, Bool.and_self, Bool.true_and, Bool.and_true, if_true, eq_self, forall_const, and_self, implies_true])) <;> (try simp), keep0 hJ⟩
      · rename_i h1
        rw [if_neg h1] at hs
        exact ⟨[], by simp, by simp only [FitM, ObLe, LeL, Le, List.cons_append, List.nil_append] <;> (try (simp (maxSteps := 2000000) -implicitDefEqProofs only [hs, ↓Sz.s_loopi, ↓Sz.v_pq, ↓Sz.PRE, Sz.POST, Sz.of_int, Sz.of_bool, Sz.of_str, Sz.of_sl, Sz.of_p, Sz.of_agg, Int.cast_ofNat_Int, Nat.mul_one, Nat.reduceDiv, Nat.reduceMod, Int.reduceLT, Int.reduceLE, Int.reduceToNat, Int.reduceAdd, decide_true, decide_false, ↓reduceIte, List.map_cons, List.map_nil, List.length_cons, List.length_nil, List.cons_append, List.nil_append, List.getElem?_cons_zero, List.getElem?_cons_succ, List.getElem?_nil, List.take_succ_cons, List.take_zero, List.drop_succ_cons, List.drop_zero, List.all_cons, List.all_nil, List.set_cons_zero, List.set_cons_succ, List.append_nil, Option.map_some, Option.map_none, cond_true, cond_false, Bool.true_eq_false, Bool.false_eq_true, Bool.not_true, Bool.not_false, Nat.reduceEqDiff, Nat.reduceAdd, Nat.reduceMul, Nat.reduceSub, Nat.reduceLeDiff, Nat.reduceLT, true_and, and_true, reduceCtorEq, Nat.zero_add, Nat.add_zero, Nat.zero_mul, Nat.le_refl, Int.toNat_natCast, Bool.and_self, Bool.true_and, Bool.and_true, if_true, eq_self, forall_const, and_self, implies_true])) <;> (try simp), by simp only [FitE, Le, LeL, List.cons_append, List.nil_append] <;> (try (simp (maxSteps := 2000000) -implicitDefEqProofs only [hs, ↓Sz.s_loopi, ↓Sz.v_pq, ↓Sz.PRE, Sz.POST, Sz.of_int, Sz.of_bool, Sz.of_str, Sz.of_sl, Sz.of_p, Sz.of_agg, Int.cast_ofNat_Int, Nat.mul_one, Nat.reduceDiv, Nat.reduceMod, Int.reduceLT, Int.reduceLE, Int.reduceToNat, Int.reduceAdd, decide_true, decide_false, ↓reduceIte, List.map_cons, List.map_nil, List.length_cons, List.length_nil, List.cons_append, List.nil_append, List.getElem?_cons_zero, List.getElem?_cons_succ, List.getElem?_nil, List.take_succ_cons, List.take_zero, List.drop_succ_cons, List.drop_zero, List.all_cons, List.all_nil, List.set_cons_zero, List.set_cons_succ, List.append_nil, Option.map_some, Option.map_none, cond_true, cond_false, Bool.true_eq_false, Bool.false_eq_true, Bool.not_true, Bool.not_false, Nat.reduceEqDiff, Nat.reduceAdd, Nat.reduceMul, Nat.reduceSub, Nat.reduceLeDiff, Nat.reduceLT, true_and, and_true, reduceCtorEq, Nat.zero_add, Nat.add_zero, Nat.zero_mul, Nat.le_refl, Int.toNat_natCast, Bool.and_self, Bool.true_and, Bool.and_true, if_true, eq_self, forall_const, and_self, implies_true])) <;> (try simp), keep0 hJ⟩
    · intro _
      have i1 : ¬ ((ds.length - 1 : Nat) : Int) + 1 < (ds.length : Int) := by omega
      simp (maxSteps := 2000000) -implicitDefEqProofs only [i1, ↓Sz.s_loopi, ↓Sz.v_pq, ↓Sz.PRE, Sz.POST, Sz.of_int, Sz.of_bool, Sz.of_str, Sz.of_sl, Sz.of_p, Sz.of_agg, Int.cast_ofNat_Int, Nat.mul_one, Nat.reduceDiv, Nat.reduceMod, Int.reduceLT, Int.reduceLE, Int.reduceToNat, Int.reduceAdd, decide_true, decide_false, ↓reduceIte, List.map_cons, List.map_nil, List.length_cons, List.length_nil, List.cons_append, List.nil_append, List.getElem?_cons_zero, List.getElem?_cons_succ, List.getElem?_nil, List.take_succ_cons, List.take_zero, List.drop_succ_cons, List.drop_zero, List.all_cons, List.all_nil, List.set_cons_zero, List.set_cons_succ, List.append_nil, Option.map_some, Option.map_none, cond_true, cond_false, Bool.true_eq_false, Bool.false_eq_true, Bool.not_true, Bool.not_false, Nat.reduceEqDiff, Nat.reduceAdd, Nat.reduceMul, Nat.reduceSub, Nat.reduceLeDiff, Nat.reduceLT, true_and, and_true, reduceCtorEq, Nat.zero_add, Nat.add_zero, Nat.zero_mul, Nat.le_refl, Int.toNat_natCast, Bool.and_self, Bool.true_and, Bool.and_true, if_true, eq_self, forall_const, and_self, implies_true]
      rcases ds with _ | ⟨d, l⟩
      · exact hk
      · rw [List.take_of_length_le (by simp)]
        exact hk
  · exact h.elim
end Go.Proofs.Ytppndeoiifkkkaa
