/- Layer 46 (tally): kinds of steps; by symbolic walks. -/
import Derived.Test.YtppndeoiifkkkaaTaC
namespace Go.Proofs.Ytppndeoiifkkkaa
open Go.RowKit Sz
set_option linter.unusedVariables false
set_option linter.unusedSimpArgs false
set_option maxHeartbeats 4000000
set_option maxRecDepth 20000
-- almshouse/tally.Steps (1 parameters)
def x56 : XC := (.seq (.tree (.seq ⟨some 2, none, (.alloc [(.v (.int .i64 0)), (.v (.int .i64 0)), (.v (.int .i64 0)), (.v (.int .i64 0)), (.v (.int .i64 0)), (.v (.int .i64 0)), (.v (.int .i64 0)), (.v (.int .i64 0)), (.v (.int .i64 0))])⟩
  .done))
 (.seq (.tree (.seq ⟨some 3, none, (.alloc [(.v (.int .i64 0)), (.v (.int .i64 0)), (.v (.int .i64 0)), (.v (.int .i64 0)), (.v (.int .i64 0)), (.v (.int .i64 0)), (.v (.int .i64 0)), (.v (.int .i64 0)), (.v (.int .i64 0))])⟩
  .done))
 (.seq (.seq (.tree (.seq ⟨some 7, none, (.ofA (.mv (.tmp 0)))⟩
  (.seq ⟨some 8, none, (.ofA (.len (.tmp 7)))⟩
  (.seq ⟨some 9, none, (.ofA (.mv (.cst (.v (.int .i64 0)))))⟩
  .done))))
 (.block 0 (.loop (.seq (.tree (.seq ⟨some 10, none, (.ofA (.bin .lss (.tmp 9) (.tmp 8)))⟩
  .done))
 (.seq (.cond (.tmp 10)
 .skip
 (.exit 0))
 (.seq (.block 1 (.seq (.tree (.seq ⟨some 11, none, (.ofA (.isl 8 (.tmp 7) (.tmp 9)))⟩
  (.seq ⟨some 12, none, (.ofA (.load (some 8) (.tmp 11)))⟩
  (.seq ⟨some 5, none, (.alloc [(.v (.int .i64 0)), (.v (.int .i64 0)), (.v (.int .i64 0)), (.v (.int .i64 0)), (.v (.int .i64 0)), (.v (.int .i64 0)), (.v (.int .i64 0)), (.v (.string ⟨#[]⟩))])⟩
  (.seq ⟨none, none, (.store 8 (.tmp 5) (.tmp 12))⟩
  .done)))))
 (.seq (.tree (.seq ⟨some 13, none, (.ofA (.faddr 0 (.tmp 5)))⟩
  (.seq ⟨some 14, none, (.ofA (.load none (.tmp 13)))⟩
  (.seq ⟨some 6, none, (.ofA (.mv (.tmp 14)))⟩
  .done))))
 (.seq (.seq (.tree (.seq ⟨some 15, none, (.ofA (.mv (.tmp 6)))⟩
  (.seq ⟨some 16, none, (.ofA (.bin .lss (.tmp 15) (.cst (.v (.int .i64 0)))))⟩
  (.seq ⟨some 17, none, (.ofA (.mv (.tmp 16)))⟩
  (.seq ⟨some 18, some (17, false), (.ofA (.mv (.tmp 6)))⟩
  (.seq ⟨some 19, some (17, false), (.ofA (.bin .geq (.tmp 18) (.cst (.v (.int .i64 9)))))⟩
  (.seq ⟨some 20, none, (.ofA (.pick (.tmp 17) (.cst (.v (.bool true))) (.tmp 19)))⟩
  .done)))))))
 (.cond (.tmp 20)
 (.tree (.seq ⟨some 6, none, (.ofA (.mv (.cst (.v (.int .i64 0)))))⟩
  .done))
 .skip))
 (.tree (.seq ⟨some 21, none, (.ofA (.mv (.tmp 6)))⟩
  (.seq ⟨some 22, none, (.ofA (.iarr 9 1 (.tmp 3) (.tmp 21)))⟩
  (.seq ⟨some 23, none, (.ofA (.load none (.tmp 22)))⟩
  (.seq ⟨some 24, none, (.ofA (.bin .add (.tmp 23) (.cst (.v (.int .i64 1)))))⟩
  (.seq ⟨some 25, none, (.ofA (.iarr 9 1 (.tmp 3) (.tmp 21)))⟩
  (.seq ⟨none, none, (.store 1 (.tmp 25) (.tmp 24))⟩
  .done)))))))))))
 (.tree (.seq ⟨some 26, none, (.ofA (.bin .add (.tmp 9) (.cst (.v (.int .i64 1)))))⟩
  (.seq ⟨some 9, none, (.ofA (.mv (.tmp 26)))⟩
  .done)))))))))
 (.seq (.tree (.seq ⟨some 27, none, (.ofA (.load (some 9) (.tmp 3)))⟩
  (.seq ⟨none, none, (.store 9 (.tmp 2) (.tmp 27))⟩
  .done)))
 .ret))))
def r56 : List XR := [.cell 2 (some 9)]
theorem fn56 : FnX Try.prog 56 [] 28 x56 r56 := ⟨_, Try.func56, by kernel_rfl, by kernel_rfl, by kernel_rfl, by kernel_rfl⟩

/-! ### Steps -/
structure Sp where
  kind : Int
  a : Int
  b : Int
  c : Int
  d : Int
  e : Int
  f : Int
  g : ByteArray
def Sp.cs (s : Sp) : List Value := [.int .i64 s.kind, .int .i64 s.a, .int .i64 s.b, .int .i64 s.c, .int .i64 s.d, .int .i64 s.e, .int .i64 s.f, .string s.g]
theorem Sp.len (s : Sp) : s.cs.length = 8 := rfl
def decS : List SV → Option (List Sp)
  | [] => some []
  | .v (.int .i64 a) :: .v (.int .i64 b) :: .v (.int .i64 c) :: .v (.int .i64 d) :: .v (.int .i64 e) :: .v (.int .i64 f) :: .v (.int .i64 g) :: .v (.string h) :: l => (decS l).map (⟨a, b, c, d, e, f, g, h⟩ :: ·)
  | _ => none
theorem decS_inv : ∀ {l : List SV} {ds : List Sp}, decS l = some ds → l = (rowV Sp.cs ds).map .v
  | [], ds, h => by simp only [decS] at h; injection h with h; subst h; rfl
  | a :: l, ds, h => by
    unfold decS at h
    split at h
    · rename_i heq; cases heq
    · rename_i heq
      cases heq
      obtain ⟨ds', h1, rfl⟩ := Option.map_eq_some_iff.1 h
      rw [decS_inv h1]
      rfl
    · cases h
theorem decS_row : ∀ ds : List Sp, decS ((rowV Sp.cs ds).map .v) = some ds
  | [] => rfl
  | d :: ds => by
    have : (rowV Sp.cs (d :: ds)).map SV.v = .v (.int .i64 d.kind) :: .v (.int .i64 d.a) :: .v (.int .i64 d.b) :: .v (.int .i64 d.c) :: .v (.int .i64 d.d) :: .v (.int .i64 d.e) :: .v (.int .i64 d.f) :: .v (.string d.g) :: (rowV Sp.cs ds).map SV.v := rfl
    rw [this]
    simp only [decS, decS_row ds, Option.map_some]
def rdS [Inp] (m : Mem) (s : SV) : Option (List Sp) := (slOf m 8 s).bind fun p => decS p.2
theorem rdS_knows {I J : Inp} {m : Mem} {s : SV} {u : Value} {ds : List Sp} (h : @rdS I m s = some ds) (hk : Knows I J m s u) :
    ∃ p c, u = .slice p ds.length c ∧ @inpL J p (ds.length * 8) = some (rowV Sp.cs ds) ∧ @rdS J [] (.v u) = some ds := by
  unfold rdS at h
  obtain ⟨⟨n, xs⟩, h1, h2⟩ := Option.bind_eq_some_iff.1 h
  have h3 := decS_inv h2
  simp only at h3
  subst h3
  have hl := @slOf_len I _ _ _ _ _ h1
  have hn : n = ds.length := by simp [rowV_len Sp.len] at hl; omega
  subst hn
  obtain ⟨p, c, rfl, h5⟩ := hk.2.2 8 _ _ h1
  refine ⟨p, c, rfl, h5, ?_⟩
  unfold rdS
  simp only [slOf, h5, Option.map_some, Option.bind_some, decS_row]
def kindF (s : Sp) : Int := if s.kind < 0 then 0 else if 9 ≤ s.kind then 0 else s.kind
theorem kindF_bd (s : Sp) : 0 ≤ kindF s ∧ kindF s < 9 := by
  unfold kindF
  split
  · omega
  · split <;> omega
def stepF (t : List Int) (s : Sp) : List Int := t.set (kindF s).toNat (IntKind.i64.wrap (t.getD (kindF s).toNat 0 + 1))
def none9 : List Int := [0, 0, 0, 0, 0, 0, 0, 0, 0]
theorem none9_iL : [SV.v (.int .i64 0), SV.v (.int .i64 0), SV.v (.int .i64 0), SV.v (.int .i64 0), SV.v (.int .i64 0), SV.v (.int .i64 0), SV.v (.int .i64 0), SV.v (.int .i64 0), SV.v (.int .i64 0)] = iL none9 := rfl
def stepsF (l : List Sp) : List Int := l.foldl stepF none9
theorem stepsF_len (l : List Sp) : (stepsF l).length = 9 := foldl_inv (Q := fun t : List Int => t.length = 9) (fun a d h => by unfold stepF; rw [List.length_set, h]) l (by decide)
def c56 [Inp] : Trans := fun args m k => match args with
  | [s] => optK (rdS m s) fun ds => ds.length ≤ 9223372036854775807 ∧ k (.agg (iL (stepsF ds))) m
  | _ => False
theorem c56_ok [Inp] : Contract Try.prog 56 true c56 := by
  refine .read fn56 (G := fun _ => []) (fun J => @g0 J _) _ fun args m k h => ?_
  unfold c56 at h
  split at h
  · rename_i s
    obtain ⟨ds, hds, hb, hk⟩ := optK_inv h
    refine ⟨by simp, fun J hJ us hus => ?_⟩
    obtain ⟨u, t, rfl, hkn, rfl⟩ := hus
    obtain ⟨p, c, rfl, hin, _⟩ := rdS_knows hds hkn
    have hitem : ∀ (i : Nat) (x : Sp), ds[i]? = some x → inpL (plusA p (i * 8)) 8 = some x.cs := fun i x hx => inp_item Sp.len hin rfl hx
    simp (maxSteps := 2000000) -implicitDefEqProofs only [↓x56, ↓r56, ↓Sz.s_loopi, ↓Sz.v_pq, ↓Sz.PRE, Sz.POST, Sz.of_int, Sz.of_bool, Sz.of_str, Sz.of_sl, Sz.of_p, Sz.of_agg, Int.cast_ofNat_Int, Nat.mul_one, Nat.reduceDiv, Nat.reduceMod, Int.reduceLT, Int.reduceLE, Int.reduceToNat, Int.reduceAdd, decide_true, decide_false, ↓reduceIte, List.map_cons, List.map_nil, List.length_cons, List.length_nil, List.cons_append, List.nil_append, List.getElem?_cons_zero, List.getElem?_cons_succ, List.getElem?_nil, List.take_succ_cons, List.take_zero, List.drop_succ_cons, List.drop_zero, List.all_cons, List.all_nil, List.set_cons_zero, List.set_cons_succ, List.append_nil, Option.map_some, Option.map_none, cond_true, cond_false, Bool.true_eq_false, Bool.false_eq_true, Bool.not_true, Bool.not_false, Nat.reduceEqDiff, Nat.reduceAdd, Nat.reduceMul, Nat.reduceSub, Nat.reduceLeDiff, Nat.reduceLT, true_and, and_true, reduceCtorEq, Nat.zero_add, Nat.add_zero, Nat.zero_mul, Nat.le_refl, Int.toNat_natCast, Bool.and_self, Bool.true_and, Bool.and_true, if_true, eq_self, forall_const, and_self, implies_true]
    refine TXi_of (TX_count (g0 _) ds.length (fun x => [(2, .ptr 0 0), (3, .ptr 1 0), (7, .v (.slice p ds.length c)), (8, .v (.int .i64 ds.length)), (9, .v (.int .i64 (x : Int)))]) (fun x => [⟨true, [SV.v (.int .i64 0), SV.v (.int .i64 0), SV.v (.int .i64 0), SV.v (.int .i64 0), SV.v (.int .i64 0), SV.v (.int .i64 0), SV.v (.int .i64 0), SV.v (.int .i64 0), SV.v (.int .i64 0)]⟩, ⟨true, iL (stepsF (ds.take x))⟩]) (fun x => True) trivial ?_ ?_ ?_)
    · have h0 : iL (stepsF []) = [SV.v (.int .i64 0), SV.v (.int .i64 0), SV.v (.int .i64 0), SV.v (.int .i64 0), SV.v (.int .i64 0), SV.v (.int .i64 0), SV.v (.int .i64 0), SV.v (.int .i64 0), SV.v (.int .i64 0)] := rfl
      exact ⟨[0, 1], by simp, by simp only [FitM, ObLe, LeL, Le, List.cons_append, List.nil_append] <;> (try (simp (maxSteps := 2000000) -implicitDefEqProofs only [h0, List.take_zero, LeL, Le, ↓Sz.s_loopi, ↓Sz.v_pq, ↓Sz.PRE, Sz.POST, Sz.of_int, Sz.of_bool, Sz.of_str, Sz.of_sl, Sz.of_p, Sz.of_agg, Int.cast_ofNat_Int, Nat.mul_one, Nat.reduceDiv, Nat.reduceMod, Int.reduceLT, Int.reduceLE, Int.reduceToNat, Int.reduceAdd, decide_true, decide_false, ↓reduceIte, List.map_cons, List.map_nil, List.length_cons, List.length_nil, List.cons_append, List.nil_append, List.getElem?_cons_zero, List.getElem?_cons_succ, List.getElem?_nil, List.take_succ_cons, List.take_zero, List.drop_succ_cons, List.drop_zero, List.all_cons, List.all_nil, List.set_cons_zero, List.set_cons_succ, List.append_nil, Option.map_some, Option.map_none, cond_true, cond_false, Bool.true_eq_false, Bool.false_eq_true, Bool.not_true, Bool.not_false, Nat.reduceEqDiff, Nat.reduceAdd, Nat.reduceMul, Nat.reduceSub, Nat.reduceLeDiff, Nat.reduceLT, true_and, and_true, reduceCtorEq, Nat.zero_add, Nat.add_zero, Nat.zero_mul, Nat.le_refl, Int.toNat_natCast, Bool.and_self, Bool.true_and, Bool.and_true, if_true, eq_self, forall_const, and_self, implies_true])) <;> (try simp), by simp only [FitE, Le, LeL, List.cons_append, List.nil_append] <;> (try (simp (maxSteps := 2000000) -implicitDefEqProofs only [h0, List.take_zero, LeL, Le, ↓Sz.s_loopi, ↓Sz.v_pq, ↓Sz.PRE, Sz.POST, Sz.of_int, Sz.of_bool, Sz.of_str, Sz.of_sl, Sz.of_p, Sz.of_agg, Int.cast_ofNat_Int, Nat.mul_one, Nat.reduceDiv, Nat.reduceMod, Int.reduceLT, Int.reduceLE, Int.reduceToNat, Int.reduceAdd, decide_true, decide_false, ↓reduceIte, List.map_cons, List.map_nil, List.length_cons, List.length_nil, List.cons_append, List.nil_append, List.getElem?_cons_zero, List.getElem?_cons_succ, List.getElem?_nil, List.take_succ_cons, List.take_zero, List.drop_succ_cons, List.drop_zero, List.all_cons, List.all_nil, List.set_cons_zero, List.set_cons_succ, List.append_nil, Option.map_some, Option.map_none, cond_true, cond_false, Bool.true_eq_false, Bool.false_eq_true, Bool.not_true, Bool.not_false, Nat.reduceEqDiff, Nat.reduceAdd, Nat.reduceMul, Nat.reduceSub, Nat.reduceLeDiff, Nat.reduceLT, true_and, and_true, reduceCtorEq, Nat.zero_add, Nat.add_zero, Nat.zero_mul, Nat.le_refl, Int.toNat_natCast, Bool.and_self, Bool.true_and, Bool.and_true, if_true, eq_self, forall_const, and_self, implies_true])) <;> (try simp), keep0 hJ⟩
    · intro x hx _
      obtain ⟨d, hd⟩ : ∃ d, ds[x]? = some d := ⟨_, List.getElem?_eq_getElem hx⟩
      have f : inpL (plusA p (x * 8)) 8 = some [.int .i64 d.kind, .int .i64 d.a, .int .i64 d.b, .int .i64 d.c, .int .i64 d.d, .int .i64 d.e, .int .i64 d.f, .string d.g] := hitem x d hd
      have hp : p.isSome = true := inpL_isSome hin (by omega)
      have i0 : (0 : Int) ≤ (x : Int) := by omega
      have i1 : (x : Int) < (ds.length : Int) := by omega
      have w1 : IntKind.i64.wrap ((x : Int) + 1) = (x : Int) + 1 := wrap_id (by omega) (by omega)
      have hs : stepsF (ds.take (x + 1)) = stepF (stepsF (ds.take x)) d := foldl_snoc _ _ hd
      have l1 := stepsF_len (ds.take x)
      generalize stepsF (ds.take x) = t at hs l1
      unfold stepF at hs
      by_cases h1 : d.kind < 0
      · have k1 : kindF d = 0 := if_pos h1
        rw [k1] at hs
        simp (maxSteps := 2000000) -implicitDefEqProofs only [f, hp, i0, i1, w1, h1, Sz.iL_fold, Sz.iL_over, Sz.iL_all, Sz.iL_get, Sz.iL_len, Sz.iL_take, Sz.iL_drop, Sz.iL_one, Sz.iL_plain, Sz.iL_le, List.length_set, l1, ↓Sz.s_loopi, ↓Sz.v_pq, ↓Sz.PRE, Sz.POST, Sz.of_int, Sz.of_bool, Sz.of_str, Sz.of_sl, Sz.of_p, Sz.of_agg, Int.cast_ofNat_Int, Nat.mul_one, Nat.reduceDiv, Nat.reduceMod, Int.reduceLT, Int.reduceLE, Int.reduceToNat, Int.reduceAdd, decide_true, decide_false, ↓reduceIte, List.map_cons, List.map_nil, List.length_cons, List.length_nil, List.cons_append, List.nil_append, List.getElem?_cons_zero, List.getElem?_cons_succ, List.getElem?_nil, List.take_succ_cons, List.take_zero, List.drop_succ_cons, List.drop_zero, List.all_cons, List.all_nil, List.set_cons_zero, List.set_cons_succ, List.append_nil, Option.map_some, Option.map_none, cond_true, cond_false, Bool.true_eq_false, Bool.false_eq_true, Bool.not_true, Bool.not_false, Nat.reduceEqDiff, Nat.reduceAdd, Nat.reduceMul, Nat.reduceSub, Nat.reduceLeDiff, Nat.reduceLT, true_and, and_true, reduceCtorEq, Nat.zero_add, Nat.add_zero, Nat.zero_mul, Nat.le_refl, Int.toNat_natCast, Bool.and_self, Bool.true_and, Bool.and_true, if_true, eq_self, forall_const, and_self, implies_true]
        simp only [Int.toNat_zero] at hs
        exact ⟨[0, 1], by simp, by simp only [FitM, ObLe, LeL, Le, List.cons_append, List.nil_append] <;> (try (simp (maxSteps := 2000000) -implicitDefEqProofs only [hs, Sz.iL_fold, Sz.iL_over, Sz.iL_all, Sz.iL_get, Sz.iL_len, Sz.iL_take, Sz.iL_drop, Sz.iL_one, Sz.iL_plain, Sz.iL_le, List.length_set, ↓Sz.s_loopi, ↓Sz.v_pq, ↓Sz.PRE, Sz.POST, Sz.of_int, Sz.of_bool, Sz.of_str, Sz.of_sl, Sz.of_p, Sz.of_agg, Int.cast_ofNat_Int, Nat.mul_one, Nat.reduceDiv, Nat.reduceMod, Int.reduceLT, Int.reduceLE, Int.reduceToNat, Int.reduceAdd, decide_true, decide_false, ↓reduceIte, List.map_cons, List.map_nil, List.length_cons, List.length_nil, List.cons_append, List.nil_append, List.getElem?_cons_zero, List.getElem?_cons_succ, List.getElem?_nil, List.take_succ_cons, List.take_zero, List.drop_succ_cons, List.drop_zero, List.all_cons, List.all_nil, List.set_cons_zero, List.set_cons_succ, List.append_nil, Option.map_some, Option.map_none, cond_true, cond_false, Bool.true_eq_false, Bool.false_eq_true, Bool.not_true, Bool.not_false, Nat.reduceEqDiff, Nat.reduceAdd, Nat.reduceMul, Nat.reduceSub, Nat.reduceLeDiff, Nat.reduceLT, true_and, and_true, reduceCtorEq, Nat.zero_add, Nat.add_zero, Nat.zero_mul, Nat.le_refl, Int.toNat_natCast, Bool.and_self, Bool.true_and, Bool.and_true, if_true, eq_self, forall_const, and_self, implies_true])) <;> (try simp), by simp only [FitE, Le, LeL, List.cons_append, List.nil_append] <;> (try (simp (maxSteps := 2000000) -implicitDefEqProofs only [hs, Sz.iL_fold, Sz.iL_over, Sz.iL_all, Sz.iL_get, Sz.iL_len, Sz.iL_take, Sz.iL_drop, Sz.iL_one, Sz.iL_plain, Sz.iL_le, List.length_set, ↓Sz.s_loopi, ↓Sz.v_pq, ↓Sz.PRE, Sz.POST, Sz.of_int, Sz.of_bool, Sz.of_str, Sz.of_sl, Sz.of_p, Sz.of_agg, Int.cast_ofNat_Int, Nat.mul_one, Nat.reduceDiv, Nat.reduceMod, Int.reduceLT, Int.reduceLE, Int.reduceToNat, Int.reduceAdd, decide_true, decide_false, ↓reduceIte, List.map_cons, List.map_nil, List.length_cons, List.length_nil, List.cons_append, List.nil_append, List.getElem?_cons_zero, List.getElem?_cons_succ, List.getElem?_nil, List.take_succ_cons, List.take_zero, List.drop_succ_cons, List.drop_zero, List.all_cons, List.all_nil, List.set_cons_zero, List.set_cons_succ, List.append_nil, Option.map_some, Option.map_none, cond_true, cond_false, Bool.true_eq_false, Bool.false_eq_true, Bool.not_true, Bool.not_false, Nat.reduceEqDiff, Nat.reduceAdd, Nat.reduceMul, Nat.reduceSub, Nat.reduceLeDiff, Nat.reduceLT, true_and, and_true, reduceCtorEq, Nat.zero_add, Nat.add_zero, Nat.zero_mul, Nat.le_refl, Int.toNat_natCast, Bool.and_self, Bool.true_and, Bool.and_true, if_true, eq_self, forall_const, and_self, implies_true])) <;> (try simp), keep0 hJ⟩
      · by_cases h2 : 9 ≤ d.kind
        · have k1 : kindF d = 0 := by unfold kindF; rw [if_neg h1, if_pos h2]
          rw [k1] at hs
          simp (maxSteps := 2000000) -implicitDefEqProofs only [f, hp, i0, i1, w1, h1, h2, Sz.iL_fold, Sz.iL_over, Sz.iL_all, Sz.iL_get, Sz.iL_len, Sz.iL_take, Sz.iL_drop, Sz.iL_one, Sz.iL_plain, Sz.iL_le, List.length_set, l1, ↓Sz.s_loopi, ↓Sz.v_pq, ↓Sz.PRE, Sz.POST, Sz.of_int, Sz.of_bool, Sz.of_str, Sz.of_sl, Sz.of_p, Sz.of_agg, Int.cast_ofNat_Int, Nat.mul_one, Nat.reduceDiv, Nat.reduceMod, Int.reduceLT, Int.reduceLE, Int.reduceToNat, Int.reduceAdd, decide_true, decide_false, ↓reduceIte, List.map_cons, List.map_nil, List.length_cons, List.length_nil, List.cons_append, List.nil_append, List.getElem?_cons_zero, List.getElem?_cons_succ, List.getElem?_nil, List.take_succ_cons, List.take_zero, List.drop_succ_cons, List.drop_zero, List.all_cons, List.all_nil, List.set_cons_zero, List.set_cons_succ, List.append_nil, Option.map_some, Option.map_none, cond_true, cond_false, Bool.true_eq_false, Bool.false_eq_true, Bool.not_true, Bool.not_false, Nat.reduceEqDiff, Nat.reduceAdd, Nat.reduceMul, Nat.reduceSub, Nat.reduceLeDiff, Nat.reduceLT, true_and, and_true, reduceCtorEq, Nat.zero_add, Nat.add_zero, Nat.zero_mul, Nat.le_refl, Int.toNat_natCast, Bool.and_self, Bool.true_and, Bool.and_true, if_true, eq_self, forall_const, and_self, implies_true]
          simp only [Int.toNat_zero] at hs
          exact ⟨[0, 1], by simp, by simp only [FitM, ObLe, LeL, Le, List.cons_append, List.nil_append] <;> (try (simp (maxSteps := 2000000) -implicitDefEqProofs only [hs, Sz.iL_fold, Sz.iL_over, Sz.iL_all, Sz.iL_get, Sz.iL_len, Sz.iL_take, Sz.iL_drop, Sz.iL_one, Sz.iL_plain, Sz.iL_le, List.length_set, ↓Sz.s_loopi, ↓Sz.v_pq, ↓Sz.PRE, Sz.POST, Sz.of_int, Sz.of_bool, Sz.of_str, Sz.of_sl, Sz.of_p, Sz.of_agg, Int.cast_ofNat_Int, Nat.mul_one, Nat.reduceDiv, Nat.reduceMod, Int.reduceLT, Int.reduceLE, Int.reduceToNat, Int.reduceAdd, decide_true, decide_false, ↓reduceIte, List.map_cons, List.map_nil, List.length_cons, List.length_nil, List.cons_append, List.nil_append, List.getElem?_cons_zero, List.getElem?_cons_succ, List.getElem?_nil, List.take_succ_cons, List.take_zero, List.drop_succ_cons, List.drop_zero, List.all_cons, List.all_nil, List.set_cons_zero, List.set_cons_succ, List.append_nil, Option.map_some, Option.map_none, cond_true, cond_false, Bool.true_eq_false, Bool.false_eq_true, Bool.not_true, Bool.not_false, Nat.reduceEqDiff, Nat.reduceAdd, Nat.reduceMul, Nat.reduceSub, Nat.reduceLeDiff, Nat.reduceLT, true_and, and_true, reduceCtorEq, Nat.zero_add, Nat.add_zero, Nat.zero_mul, Nat.le_refl, Int.toNat_natCast, Bool.and_self, Bool.true_and, Bool.and_true, if_true, eq_self, forall_const, and_self, implies_true])) <;> (try simp), by simp only [FitE, Le, LeL, List.cons_append, List.nil_append] <;> (try (simp (maxSteps := 2000000) -implicitDefEqProofs only [hs, Sz.iL_fold, Sz.iL_over, Sz.iL_all, Sz.iL_get, Sz.iL_len, Sz.iL_take, Sz.iL_drop, Sz.iL_one, Sz.iL_plain, Sz.iL_le, List.length_set, ↓Sz.s_loopi, ↓Sz.v_pq, ↓Sz.PRE, Sz.POST, Sz.of_int, Sz.of_bool, Sz.of_str, Sz.of_sl, Sz.of_p, Sz.of_agg, Int.cast_ofNat_Int, Nat.mul_one, Nat.reduceDiv, Nat.reduceMod, Int.reduceLT, Int.reduceLE, Int.reduceToNat, Int.reduceAdd, decide_true, decide_false, ↓reduceIte, List.map_cons, List.map_nil, List.length_cons, List.length_nil, List.cons_append, List.nil_append, List.getElem?_cons_zero, List.getElem?_cons_succ, List.getElem?_nil, List.take_succ_cons, List.take_zero, List.drop_succ_cons, List.drop_zero, List.all_cons, List.all_nil, List.set_cons_zero, List.set_cons_succ, List.append_nil, Option.map_some, Option.map_none, cond_true, cond_false, Bool.true_eq_false, Bool.false_eq_true, Bool.not_true, Bool.not_false, Nat.reduceEqDiff, Nat.reduceAdd, Nat.reduceMul, Nat.reduceSub, Nat.reduceLeDiff, Nat.reduceLT, true_and, and_true, reduceCtorEq, Nat.zero_add, Nat.add_zero, Nat.zero_mul, Nat.le_refl, Int.toNat_natCast, Bool.and_self, Bool.true_and, Bool.and_true, if_true, eq_self, forall_const, and_self, implies_true])) <;> (try simp), keep0 hJ⟩
        · have k1 : kindF d = d.kind := by unfold kindF; rw [if_neg h1, if_neg h2]
          rw [k1] at hs
          have h3 : 0 ≤ d.kind := by omega
          have h4 : d.kind < 9 := by omega
          have h5 : d.kind.toNat < 9 := by omega
          have h6 : d.kind.toNat ≤ 8 := by omega
          simp (maxSteps := 2000000) -implicitDefEqProofs only [f, hp, i0, i1, w1, h1, h2, h3, h4, h5, h6, Sz.iL_fold, Sz.iL_over, Sz.iL_all, Sz.iL_get, Sz.iL_len, Sz.iL_take, Sz.iL_drop, Sz.iL_one, Sz.iL_plain, Sz.iL_le, List.length_set, l1, ↓Sz.s_loopi, ↓Sz.v_pq, ↓Sz.PRE, Sz.POST, Sz.of_int, Sz.of_bool, Sz.of_str, Sz.of_sl, Sz.of_p, Sz.of_agg, Int.cast_ofNat_Int, Nat.mul_one, Nat.reduceDiv, Nat.reduceMod, Int.reduceLT, Int.reduceLE, Int.reduceToNat, Int.reduceAdd, decide_true, decide_false, ↓reduceIte, List.map_cons, List.map_nil, List.length_cons, List.length_nil, List.cons_append, List.nil_append, List.getElem?_cons_zero, List.getElem?_cons_succ, List.getElem?_nil, List.take_succ_cons, List.take_zero, List.drop_succ_cons, List.drop_zero, List.all_cons, List.all_nil, List.set_cons_zero, List.set_cons_succ, List.append_nil, Option.map_some, Option.map_none, cond_true, cond_false, Bool.true_eq_false, Bool.false_eq_true, Bool.not_true, Bool.not_false, Nat.reduceEqDiff, Nat.reduceAdd, Nat.reduceMul, Nat.reduceSub, Nat.reduceLeDiff, Nat.reduceLT, true_and, and_true, reduceCtorEq, Nat.zero_add, Nat.add_zero, Nat.zero_mul, Nat.le_refl, Int.toNat_natCast, Bool.and_self, Bool.true_and, Bool.and_true, if_true, eq_self, forall_const, and_self, implies_true]
          exact ⟨[0, 1], by simp, by simp only [FitM, ObLe, LeL, Le, List.cons_append, List.nil_append] <;> (try (simp (maxSteps := 2000000) -implicitDefEqProofs only [hs, Sz.iL_fold, Sz.iL_over, Sz.iL_all, Sz.iL_get, Sz.iL_len, Sz.iL_take, Sz.iL_drop, Sz.iL_one, Sz.iL_plain, Sz.iL_le, List.length_set, ↓Sz.s_loopi, ↓Sz.v_pq, ↓Sz.PRE, Sz.POST, Sz.of_int, Sz.of_bool, Sz.of_str, Sz.of_sl, Sz.of_p, Sz.of_agg, Int.cast_ofNat_Int, Nat.mul_one, Nat.reduceDiv, Nat.reduceMod, Int.reduceLT, Int.reduceLE, Int.reduceToNat, Int.reduceAdd, decide_true, decide_false, ↓reduceIte, List.map_cons, List.map_nil, List.length_cons, List.length_nil, List.cons_append, List.nil_append, List.getElem?_cons_zero, List.getElem?_cons_succ, List.getElem?_nil, List.take_succ_cons, List.take_zero, List.drop_succ_cons, List.drop_zero, List.all_cons, List.all_nil, List.set_cons_zero, List.set_cons_succ, List.append_nil, Option.map_some, Option.map_none, cond_true, cond_false, Bool.true_eq_false, Bool.false_eq_true, Bool.not_true, Bool.not_false, Nat.reduceEqDiff, Nat.reduceAdd, Nat.reduceMul, Nat.reduceSub, Nat.reduceLeDiff, Nat.reduceLT, true_and, and_true, reduceCtorEq, Nat.zero_add, Nat.add_zero, Nat.zero_mul, Nat.le_refl, Int.toNat_natCast, Bool.and_self, Bool.true_and, Bool.and_true, if_true, eq_self, forall_const, and_self, implies_true])) <;> (try simp), by simp only [FitE, Le, LeL, List.cons_append, List.nil_append] <;> (try (simp (maxSteps := 2000000) -implicitDefEqProofs only [hs, Sz.iL_fold, Sz.iL_over, Sz.iL_all, Sz.iL_get, Sz.iL_len, Sz.iL_take, Sz.iL_drop, Sz.iL_one, Sz.iL_plain, Sz.iL_le, List.length_set, ↓Sz.s_loopi, ↓Sz.v_pq, ↓Sz.PRE, Sz.POST, Sz.of_int, Sz.of_bool, Sz.of_str, Sz.of_sl, Sz.of_p, Sz.of_agg, Int.cast_ofNat_Int, Nat.mul_one, Nat.reduceDiv, Nat.reduceMod, Int.reduceLT, Int.reduceLE, Int.reduceToNat, Int.reduceAdd, decide_true, decide_false, ↓reduceIte, List.map_cons, List.map_nil, List.length_cons, List.length_nil, List.cons_append, List.nil_append, List.getElem?_cons_zero, List.getElem?_cons_succ, List.getElem?_nil, List.take_succ_cons, List.take_zero, List.drop_succ_cons, List.drop_zero, List.all_cons, List.all_nil, List.set_cons_zero, List.set_cons_succ, List.append_nil, Option.map_some, Option.map_none, cond_true, cond_false, Bool.true_eq_false, Bool.false_eq_true, Bool.not_true, Bool.not_false, Nat.reduceEqDiff, Nat.reduceAdd, Nat.reduceMul, Nat.reduceSub, Nat.reduceLeDiff, Nat.reduceLT, true_and, and_true, reduceCtorEq, Nat.zero_add, Nat.add_zero, Nat.zero_mul, Nat.le_refl, Int.toNat_natCast, Bool.and_self, Bool.true_and, Bool.and_true, if_true, eq_self, forall_const, and_self, implies_true])) <;> (try simp), keep0 hJ⟩
    · intro _
      have i1 : ¬ (ds.length : Int) < (ds.length : Int) := by omega
      have l1 := stepsF_len ds
      have l3 := take_all l1
      simp (maxSteps := 2000000) -implicitDefEqProofs only [i1, List.take_length, Sz.iL_fold, Sz.iL_over, Sz.iL_all, Sz.iL_get, Sz.iL_len, Sz.iL_take, Sz.iL_drop, Sz.iL_one, Sz.iL_plain, Sz.iL_le, List.length_set, l1, l3, ↓Sz.s_loopi, ↓Sz.v_pq, ↓Sz.PRE, Sz.POST, Sz.of_int, Sz.of_bool, Sz.of_str, Sz.of_sl, Sz.of_p, Sz.of_agg, Int.cast_ofNat_Int, Nat.mul_one, Nat.reduceDiv, Nat.reduceMod, Int.reduceLT, Int.reduceLE, Int.reduceToNat, Int.reduceAdd, decide_true, decide_false, ↓reduceIte, List.map_cons, List.map_nil, List.length_cons, List.length_nil, List.cons_append, List.nil_append, List.getElem?_cons_zero, List.getElem?_cons_succ, List.getElem?_nil, List.take_succ_cons, List.take_zero, List.drop_succ_cons, List.drop_zero, List.all_cons, List.all_nil, List.set_cons_zero, List.set_cons_succ, List.append_nil, Option.map_some, Option.map_none, cond_true, cond_false, Bool.true_eq_false, Bool.false_eq_true, Bool.not_true, Bool.not_false, Nat.reduceEqDiff, Nat.reduceAdd, Nat.reduceMul, Nat.reduceSub, Nat.reduceLeDiff, Nat.reduceLT, true_and, and_true, reduceCtorEq, Nat.zero_add, Nat.add_zero, Nat.zero_mul, Nat.le_refl, Int.toNat_natCast, Bool.and_self, Bool.true_and, Bool.and_true, if_true, eq_self, forall_const, and_self, implies_true]
      exact hk
  · exact h.elim
end Go.Proofs.Ytppndeoiifkkkaa
