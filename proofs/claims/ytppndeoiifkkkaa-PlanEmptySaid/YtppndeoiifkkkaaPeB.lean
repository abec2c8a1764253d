/- Layer 10 (ledger), the document's: may a ledger be; by symbolic walks. -/
import Derived.Test.YtppndeoiifkkkaaPeA
namespace Go.Proofs.Ytppndeoiifkkkaa
open Go.RowKit Sz
set_option linter.unusedVariables false
set_option linter.unusedSimpArgs false
set_option maxHeartbeats 4000000
set_option maxRecDepth 20000
-- almshouse/almshouseref10.Right (3 parameters)
def x51 : XC := (.seq (.tree (.seq ⟨some 3, none, (.box (.tmp 0))⟩
  (.seq ⟨some 6, none, (.ofA (.mv (.cst (.v (.bool false)))))⟩
  .done)))
 (.seq (.seq (.tree (.seq ⟨some 14, none, (.ofA (.faddr 0 (.tmp 3)))⟩
  (.seq ⟨some 15, none, (.ofA (.load none (.tmp 14)))⟩
  (.seq ⟨some 16, none, (.ofA (.bin .lss (.tmp 15) (.cst (.v (.int .i64 0)))))⟩
  (.seq ⟨some 17, none, (.ofA (.mv (.tmp 16)))⟩
  (.seq ⟨some 18, some (17, false), (.ofA (.faddr 0 (.tmp 3)))⟩
  (.seq ⟨some 19, some (17, false), (.ofA (.load none (.tmp 18)))⟩
  (.seq ⟨some 20, some (17, false), (.ofA (.bin .gtr (.tmp 19) (.cst (.v (.int .i64 2147483647)))))⟩
  (.seq ⟨some 21, none, (.ofA (.pick (.tmp 17) (.cst (.v (.bool true))) (.tmp 20)))⟩
  (.seq ⟨some 22, none, (.ofA (.mv (.tmp 21)))⟩
  (.seq ⟨some 23, some (22, false), (.ofA (.faddr 1 (.tmp 3)))⟩
  (.seq ⟨some 24, some (22, false), (.ofA (.load none (.tmp 23)))⟩
  (.seq ⟨some 25, some (22, false), (.ofA (.bin .lss (.tmp 24) (.cst (.v (.int .i64 0)))))⟩
  (.seq ⟨some 26, none, (.ofA (.pick (.tmp 22) (.cst (.v (.bool true))) (.tmp 25)))⟩
  (.seq ⟨some 27, none, (.ofA (.mv (.tmp 26)))⟩
  (.seq ⟨some 28, some (27, false), (.ofA (.faddr 1 (.tmp 3)))⟩
  (.seq ⟨some 29, some (27, false), (.ofA (.load none (.tmp 28)))⟩
  (.seq ⟨some 30, some (27, false), (.ofA (.bin .gtr (.tmp 29) (.cst (.v (.int .i64 2147483647)))))⟩
  (.seq ⟨some 31, none, (.ofA (.pick (.tmp 27) (.cst (.v (.bool true))) (.tmp 30)))⟩
  .done)))))))))))))))))))
 (.cond (.tmp 31)
 (.seq (.tree (.seq ⟨some 6, none, (.ofA (.mv (.cst (.v (.bool false)))))⟩
  .done))
 .ret)
 .skip))
 (.seq (.tree (.seq ⟨some 7, none, (.ofA (.mv (.cst (.v (.slice none 0 0)))))⟩
  .done))
 (.seq (.tree (.seq ⟨some 8, none, (.ofA (.mv (.cst (.v (.slice none 0 0)))))⟩
  .done))
 (.seq (.seq (.tree (.seq ⟨some 32, none, (.ofA (.faddr 2 (.tmp 3)))⟩
  (.seq ⟨some 33, none, (.ofA (.load (some 20) (.tmp 32)))⟩
  (.seq ⟨some 34, none, (.ofA (.mv (.cst (.v (.int .i64 0)))))⟩
  .done))))
 (.block 0 (.loop (.seq (.tree (.seq ⟨some 35, none, (.ofA (.bin .lss (.tmp 34) (.cst (.v (.int .i64 4)))))⟩
  .done))
 (.seq (.cond (.tmp 35)
 .skip
 (.exit 0))
 (.seq (.block 1 (.seq (.tree (.seq ⟨some 36, none, (.ofA (.idx 4 5 true (.tmp 33) (.tmp 34)))⟩
  (.seq ⟨some 10, none, (.alloc [(.v (.bool false)), (.v (.int .i64 0)), (.v (.int .i64 0)), (.v (.int .i64 0)), (.v (.slice none 0 0))])⟩
  (.seq ⟨none, none, (.store 5 (.tmp 10) (.tmp 36))⟩
  .done))))
 (.seq (.seq (.tree (.seq ⟨some 37, none, (.ofA (.faddr 0 (.tmp 10)))⟩
  (.seq ⟨some 38, none, (.ofA (.load none (.tmp 37)))⟩
  (.seq ⟨some 39, none, (.ofA (.un .not (.tmp 38)))⟩
  .done))))
 (.cond (.tmp 39)
 (.seq (.seq (.tree (.seq ⟨some 40, none, (.ofA (.faddr 1 (.tmp 10)))⟩
  (.seq ⟨some 41, none, (.ofA (.load none (.tmp 40)))⟩
  (.seq ⟨some 42, none, (.ofA (.bin .neq (.tmp 41) (.cst (.v (.int .i64 0)))))⟩
  (.seq ⟨some 43, none, (.ofA (.mv (.tmp 42)))⟩
  (.seq ⟨some 44, some (43, false), (.ofA (.faddr 2 (.tmp 10)))⟩
  (.seq ⟨some 45, some (43, false), (.ofA (.load none (.tmp 44)))⟩
  (.seq ⟨some 46, some (43, false), (.ofA (.bin .neq (.tmp 45) (.cst (.v (.int .i64 0)))))⟩
  (.seq ⟨some 47, none, (.ofA (.pick (.tmp 43) (.cst (.v (.bool true))) (.tmp 46)))⟩
  (.seq ⟨some 48, none, (.ofA (.mv (.tmp 47)))⟩
  (.seq ⟨some 49, some (48, false), (.ofA (.faddr 3 (.tmp 10)))⟩
  (.seq ⟨some 50, some (48, false), (.ofA (.load none (.tmp 49)))⟩
  (.seq ⟨some 51, some (48, false), (.ofA (.bin .neq (.tmp 50) (.cst (.v (.int .i64 0)))))⟩
  (.seq ⟨some 52, none, (.ofA (.pick (.tmp 48) (.cst (.v (.bool true))) (.tmp 51)))⟩
  (.seq ⟨some 53, none, (.ofA (.mv (.tmp 52)))⟩
  (.seq ⟨some 54, some (53, false), (.ofA (.faddr 4 (.tmp 10)))⟩
  (.seq ⟨some 55, some (53, false), (.ofA (.load none (.tmp 54)))⟩
  (.seq ⟨some 56, some (53, false), (.ofA (.len (.tmp 55)))⟩
  (.seq ⟨some 57, some (53, false), (.ofA (.bin .neq (.tmp 56) (.cst (.v (.int .i64 0)))))⟩
  (.seq ⟨some 58, none, (.ofA (.pick (.tmp 53) (.cst (.v (.bool true))) (.tmp 57)))⟩
  .done))))))))))))))))))))
 (.cond (.tmp 58)
 (.seq (.tree (.seq ⟨some 6, none, (.ofA (.mv (.cst (.v (.bool false)))))⟩
  .done))
 .ret)
 .skip))
 (.exit 1))
 .skip))
 (.seq (.seq (.tree (.seq ⟨some 59, none, (.ofA (.faddr 1 (.tmp 10)))⟩
  (.seq ⟨some 60, none, (.ofA (.load none (.tmp 59)))⟩
  (.seq ⟨some 61, none, (.ofA (.bin .lss (.tmp 60) (.cst (.v (.int .i64 1)))))⟩
  (.seq ⟨some 62, none, (.ofA (.mv (.tmp 61)))⟩
  (.seq ⟨some 63, some (62, false), (.ofA (.faddr 1 (.tmp 10)))⟩
  (.seq ⟨some 64, some (62, false), (.ofA (.load none (.tmp 63)))⟩
  (.seq ⟨some 65, some (62, false), (.ofA (.faddr 1 (.tmp 3)))⟩
  (.seq ⟨some 66, some (62, false), (.ofA (.load none (.tmp 65)))⟩
  (.seq ⟨some 67, some (62, false), (.ofA (.bin .gtr (.tmp 64) (.tmp 66)))⟩
  (.seq ⟨some 68, none, (.ofA (.pick (.tmp 62) (.cst (.v (.bool true))) (.tmp 67)))⟩
  (.seq ⟨some 69, none, (.ofA (.mv (.tmp 68)))⟩
  (.seq ⟨some 70, some (69, false), (.ofA (.mv (.tmp 8)))⟩
  (.seq ⟨some 71, some (69, false), (.ofA (.faddr 1 (.tmp 10)))⟩
  (.seq ⟨some 72, some (69, false), (.ofA (.load none (.tmp 71)))⟩
  (.seq ⟨some 73, some (69, false), (.call (.cst (.fn 108 [])) [(.tmp 70), (.tmp 72)])⟩
  (.seq ⟨some 74, none, (.ofA (.pick (.tmp 69) (.cst (.v (.bool true))) (.tmp 73)))⟩
  .done)))))))))))))))))
 (.cond (.tmp 74)
 (.seq (.tree (.seq ⟨some 6, none, (.ofA (.mv (.cst (.v (.bool false)))))⟩
  .done))
 .ret)
 .skip))
 (.seq (.tree (.seq ⟨some 75, none, (.ofA (.mv (.tmp 8)))⟩
  (.seq ⟨some 76, none, (.ofA (.faddr 1 (.tmp 10)))⟩
  (.seq ⟨some 77, none, (.ofA (.load none (.tmp 76)))⟩
  (.seq ⟨some 78, none, (.buildSl 1 1 [(.v (.int .i64 0))] [(0, 1, (.tmp 77))])⟩
  (.seq ⟨some 79, none, (.app 1 8 (.tmp 75) (.tmp 78))⟩
  (.seq ⟨some 8, none, (.ofA (.mv (.tmp 79)))⟩
  .done)))))))
 (.seq (.tree (.seq ⟨some 80, none, (.ofA (.faddr 2 (.tmp 10)))⟩
  (.seq ⟨some 81, none, (.ofA (.load none (.tmp 80)))⟩
  (.seq ⟨some 82, none, (.ofA (.faddr 3 (.tmp 10)))⟩
  (.seq ⟨some 83, none, (.ofA (.load none (.tmp 82)))⟩
  (.seq ⟨some 84, none, (.ofA (.mv (.tmp 2)))⟩
  (.seq ⟨some 85, none, (.call (.cst (.fn 105 [])) [(.tmp 81), (.tmp 83), (.tmp 84)])⟩
  (.seq ⟨some 11, none, (.ofA (.mv (.tmp 85)))⟩
  .done))))))))
 (.seq (.seq (.tree (.seq ⟨some 86, none, (.ofA (.mv (.tmp 11)))⟩
  (.seq ⟨some 87, none, (.ofA (.bin .eql (.tmp 86) (.cst (.v (.int .i64 0)))))⟩
  (.seq ⟨some 88, none, (.ofA (.mv (.tmp 87)))⟩
  (.seq ⟨some 89, some (88, false), (.ofA (.faddr 4 (.tmp 10)))⟩
  (.seq ⟨some 90, some (88, false), (.ofA (.load none (.tmp 89)))⟩
  (.seq ⟨some 91, some (88, false), (.ofA (.len (.tmp 90)))⟩
  (.seq ⟨some 92, some (88, false), (.ofA (.mv (.tmp 11)))⟩
  (.seq ⟨some 93, some (88, false), (.ofA (.bin .lss (.tmp 91) (.tmp 92)))⟩
  (.seq ⟨some 94, none, (.ofA (.pick (.tmp 88) (.cst (.v (.bool true))) (.tmp 93)))⟩
  (.seq ⟨some 95, none, (.ofA (.mv (.tmp 94)))⟩
  (.seq ⟨some 96, some (95, false), (.ofA (.faddr 4 (.tmp 10)))⟩
  (.seq ⟨some 97, some (95, false), (.ofA (.load none (.tmp 96)))⟩
  (.seq ⟨some 98, some (95, false), (.ofA (.len (.tmp 97)))⟩
  (.seq ⟨some 99, some (95, false), (.ofA (.mv (.tmp 1)))⟩
  (.seq ⟨some 100, some (95, false), (.ofA (.bin .sub (.tmp 99) (.cst (.v (.int .i64 2)))))⟩
  (.seq ⟨some 101, some (95, false), (.ofA (.bin .gtr (.tmp 98) (.tmp 100)))⟩
  (.seq ⟨some 102, none, (.ofA (.pick (.tmp 95) (.cst (.v (.bool true))) (.tmp 101)))⟩
  .done))))))))))))))))))
 (.cond (.tmp 102)
 (.seq (.tree (.seq ⟨some 6, none, (.ofA (.mv (.cst (.v (.bool false)))))⟩
  .done))
 .ret)
 .skip))
 (.seq (.tree (.seq ⟨some 103, none, (.ofA (.faddr 4 (.tmp 10)))⟩
  (.seq ⟨some 104, none, (.ofA (.load none (.tmp 103)))⟩
  (.seq ⟨some 105, none, (.ofA (.len (.tmp 104)))⟩
  (.seq ⟨some 106, none, (.ofA (.mv (.cst (.v (.int .i64 0)))))⟩
  .done)))))
 (.block 2 (.loop (.seq (.tree (.seq ⟨some 107, none, (.ofA (.bin .lss (.tmp 106) (.tmp 105)))⟩
  .done))
 (.seq (.cond (.tmp 107)
 .skip
 (.exit 2))
 (.seq (.block 3 (.seq (.tree (.seq ⟨some 108, none, (.ofA (.isl 1 (.tmp 104) (.tmp 106)))⟩
  (.seq ⟨some 109, none, (.ofA (.load none (.tmp 108)))⟩
  (.seq ⟨some 13, none, (.ofA (.mv (.tmp 109)))⟩
  .done))))
 (.seq (.seq (.tree (.seq ⟨some 110, none, (.ofA (.mv (.tmp 13)))⟩
  (.seq ⟨some 111, none, (.ofA (.bin .lss (.tmp 110) (.cst (.v (.int .i64 2)))))⟩
  (.seq ⟨some 112, none, (.ofA (.mv (.tmp 111)))⟩
  (.seq ⟨some 113, some (112, false), (.ofA (.mv (.tmp 13)))⟩
  (.seq ⟨some 114, some (112, false), (.ofA (.mv (.tmp 1)))⟩
  (.seq ⟨some 115, some (112, false), (.ofA (.bin .geq (.tmp 113) (.tmp 114)))⟩
  (.seq ⟨some 116, none, (.ofA (.pick (.tmp 112) (.cst (.v (.bool true))) (.tmp 115)))⟩
  (.seq ⟨some 117, none, (.ofA (.mv (.tmp 116)))⟩
  (.seq ⟨some 118, some (117, false), (.ofA (.mv (.tmp 7)))⟩
  (.seq ⟨some 119, some (117, false), (.ofA (.mv (.tmp 13)))⟩
  (.seq ⟨some 120, some (117, false), (.call (.cst (.fn 108 [])) [(.tmp 118), (.tmp 119)])⟩
  (.seq ⟨some 121, none, (.ofA (.pick (.tmp 117) (.cst (.v (.bool true))) (.tmp 120)))⟩
  .done)))))))))))))
 (.cond (.tmp 121)
 (.seq (.tree (.seq ⟨some 6, none, (.ofA (.mv (.cst (.v (.bool false)))))⟩
  .done))
 .ret)
 .skip))
 (.tree (.seq ⟨some 122, none, (.ofA (.mv (.tmp 7)))⟩
  (.seq ⟨some 123, none, (.ofA (.mv (.tmp 13)))⟩
  (.seq ⟨some 124, none, (.buildSl 1 1 [(.v (.int .i64 0))] [(0, 1, (.tmp 123))])⟩
  (.seq ⟨some 125, none, (.app 1 8 (.tmp 122) (.tmp 124))⟩
  (.seq ⟨some 7, none, (.ofA (.mv (.tmp 125)))⟩
  .done)))))))))
 (.tree (.seq ⟨some 126, none, (.ofA (.bin .add (.tmp 106) (.cst (.v (.int .i64 1)))))⟩
  (.seq ⟨some 106, none, (.ofA (.mv (.tmp 126)))⟩
  .done))))))))))))))))
 (.tree (.seq ⟨some 127, none, (.ofA (.bin .add (.tmp 34) (.cst (.v (.int .i64 1)))))⟩
  (.seq ⟨some 34, none, (.ofA (.mv (.tmp 127)))⟩
  .done)))))))))
 (.seq (.tree (.seq ⟨some 6, none, (.ofA (.mv (.cst (.v (.bool true)))))⟩
  .done))
 .ret))))))
def r51 : List XR := [.tmp 6]
theorem fn51 : FnX Try.prog 51 [] 128 x51 r51 := ⟨_, Try.func51, by kernel_rfl, by kernel_rfl, by kernel_rfl, by kernel_rfl⟩

/-- What a tenant of a right ledger is. -/
def okT (t : Tn) : Prop := (t.there = false → t.size = 0 ∧ t.spare = 0) ∧ (t.there = true → totF t.size t.spare 4 ≠ 0)
def d51 [Inp] : Sz.Trans := fun args m k => match args with
  | [.agg (.v (.int .i64 g) :: .v (.int .i64 e) :: l), .v (.int .i64 b), .v (.int .i64 pg)] => optK (decTz l) fun ts => (b = 30 ∧ pg = 4 ∧ ts.length = 4 ∧ ∀ t ∈ ts, t.n ≤ 9223372036854775807 ∧ ∃ xs : List Int, xs.length = t.n ∧ inpL t.A t.n = some (xs.map (Value.int .i64))) ∧ ∀ r : Bool, (r = true → ∀ t ∈ ts, okT t) → k (.v (.bool r)) m
  | _ => False
def G51 (J : Inp) : List Sz.CEntry := [⟨105, true, d105⟩, ⟨108, true, @d108 J⟩]
theorem g51 (J : Inp) : @Sz.GOk J Try.prog (G51 J) := @Sz.GOk.cons J _ _ _ _ _ (@d105_ok J) (@Sz.GOk.cons J _ _ _ _ _ (@d108_ok J) (@Sz.g0 J _))
theorem d51_ok [Inp] : Sz.Contract Try.prog 51 true d51 := by
  refine .readN fn51 (G := G51) g51 _ fun args m k h => ?_
  unfold d51 at h
  split at h
  · rename_i g e l b pg
    obtain ⟨ts, h1, ⟨rfl, rfl, lt, hbl⟩, hk⟩ := optK_inv h
    obtain rfl := decTz_inv h1
    clear h h1
    refine ⟨by simp, fun J hJ us hus hIJ => ?_⟩
    obtain ⟨u, t, rfl, hkn, u2, t2, rfl, hkn2, u3, t3, rfl, hkn3, rfl⟩ := hus
    obtain rfl := hkn.2.1 (.int .i64 g :: .int .i64 e :: rowV Tn.cs ts) (by simp)
    obtain rfl := hkn2.1 _ rfl
    obtain rfl := hkn3.1 _ rfl
    have bad : k (.v (.bool false)) m := hk false (fun h => by cases h)
    have LL : ((rowV Tn.cs ts).map Sz.SV.v).length = 20 := by rw [List.length_map, rowV_len Tn.len, lt]
    have hat : ∀ x t, ts[x]? = some t → (((rowV Tn.cs ts).map Sz.SV.v).drop (x * 5)).take 5 = [.v (.bool t.there), .v (.int .i64 t.epoch), .v (.int .i64 t.size), .v (.int .i64 t.spare), .v (.slice t.A t.n t.c)] := fun x t hx => by
      rw [← List.map_drop, ← List.map_take, rowV_at Tn.len hx]; rfl
    have leR : ∀ g, Sz.LeL g ((rowV Tn.cs ts).map Sz.SV.v) ((rowV Tn.cs ts).map Sz.SV.v) = True := fun g => by simp only [eq_iff_iff, iff_true]; exact Sz.LeL_v g _
    have tR : ((rowV Tn.cs ts).map Sz.SV.v).take 20 = (rowV Tn.cs ts).map Sz.SV.v := List.take_of_length_le (by omega)
    have hml : maxLen = 9223372036854775807 := rfl
    simp (maxSteps := 2000000) -implicitDefEqProofs only [List.map_cons, ↓x51, ↓r51, ↓Sz.s_loopi, ↓Sz.v_pq, ↓Sz.PRE, Sz.POST, Sz.of_int, Sz.of_bool, Sz.of_str, Sz.of_sl, Sz.of_p, Sz.of_agg, Int.cast_ofNat_Int, Nat.mul_one, Nat.reduceDiv, Nat.reduceMod, Int.reduceLT, Int.reduceLE, Int.reduceToNat, Int.reduceAdd, decide_true, decide_false, ↓reduceIte, List.map_cons, List.map_nil, List.length_cons, List.length_nil, List.cons_append, List.nil_append, List.getElem?_cons_zero, List.getElem?_cons_succ, List.getElem?_nil, List.take_succ_cons, List.take_zero, List.drop_succ_cons, List.drop_zero, List.all_cons, List.all_nil, List.set_cons_zero, List.set_cons_succ, List.append_nil, Option.map_some, Option.map_none, cond_true, cond_false, Bool.true_eq_false, Bool.false_eq_true, Bool.not_true, Bool.not_false, Nat.reduceEqDiff, Nat.reduceAdd, Nat.reduceMul, Nat.reduceSub, Nat.reduceLeDiff, Nat.reduceLT, true_and, and_true, reduceCtorEq, Nat.zero_add, Nat.add_zero, Nat.zero_mul, Nat.le_refl, Int.toNat_natCast, Bool.and_self, Bool.true_and, Bool.and_true, if_true, eq_self, forall_const, and_self, implies_true]
    clear hkn hkn2 hkn3
    generalize (rowV Tn.cs ts).map Sz.SV.v = R at *
    have w (x : Int) (h1 : -9223372036854775808 ≤ x) (h2 : x ≤ 9223372036854775807) : IntKind.i64.wrap x = x := wrap_id h1 h2
    simp only [decide_eq_true_eq, decide_eq_false_iff_not]
    repeat' split
    all_goals first | exact bad | skip
    refine ⟨by omega, ?_⟩
    refine Sz.TXi_of (TX_countS (g51 _) 4 (σ := List Int × List Int) (fun x s => [(1, .v (.int .i64 30)), (2, .v (.int .i64 4)), (3, .ptr 0 0), (7, oV 1 1 s.1.length), (8, oV 2 1 s.2.length), (33, .agg R), (34, .v (.int .i64 (x : Int)))])
      (fun x s => [⟨true, .v (.int .i64 g) :: .v (.int .i64 e) :: R⟩, oO (iL s.1), oO (iL s.2)]) (fun x s => s.1.length ≤ 28 * x ∧ s.2.length ≤ x ∧ ∀ t ∈ ts.take x, okT t) ([], []) ?_ ?_ ?_ ?_)
    · exact ⟨Nat.le_refl _, Nat.le_refl _, by simp⟩
    · exact ⟨[0, 0, 0], by simp [Sz.NdL, Sz.NdA, Sz.oO_cells, Sz.oO_own, Sz.iL_nil], by simp only [FitM, ObLe, LeL, Le, List.cons_append, List.nil_append] <;> (try (simp (maxSteps := 2000000) -implicitDefEqProofs only [Sz.o_sl, Sz.o_grows, Sz.o_kill, Sz.o_len, Sz.o_cap, Sz.o_isl, Sz.o_le, Sz.o_cells, Sz.o_one, Sz.oOk_c, Sz.oOk_o, Sz.oO_cells, Sz.oO_own, Sz.oV_s, Sz.oV_0, Sz.oO_nil, Sz.oO_iL, Sz.iL_nil, Sz.iL_snoc, List.length_append, Sz.iL_fold, Sz.iL_over, Sz.iL_all, Sz.iL_get, Sz.iL_len, Sz.iL_take, Sz.iL_drop, Sz.iL_one, Sz.iL_plain, Sz.iL_le, List.length_set, leR, tR, Sz.p_v, ↓Sz.s_loopi, ↓Sz.v_pq, ↓Sz.PRE, Sz.POST, Sz.of_int, Sz.of_bool, Sz.of_str, Sz.of_sl, Sz.of_p, Sz.of_agg, Int.cast_ofNat_Int, Nat.mul_one, Nat.reduceDiv, Nat.reduceMod, Int.reduceLT, Int.reduceLE, Int.reduceToNat, Int.reduceAdd, decide_true, decide_false, ↓reduceIte, List.map_cons, List.map_nil, List.length_cons, List.length_nil, List.cons_append, List.nil_append, List.getElem?_cons_zero, List.getElem?_cons_succ, List.getElem?_nil, List.take_succ_cons, List.take_zero, List.drop_succ_cons, List.drop_zero, List.all_cons, List.all_nil, List.set_cons_zero, List.set_cons_succ, List.append_nil, Option.map_some, Option.map_none, cond_true, cond_false, Bool.true_eq_false, Bool.false_eq_true, Bool.not_true, Bool.not_false, Nat.reduceEqDiff, Nat.reduceAdd, Nat.reduceMul, Nat.reduceSub, Nat.reduceLeDiff, Nat.reduceLT, true_and, and_true, reduceCtorEq, Nat.zero_add, Nat.add_zero, Nat.zero_mul, Nat.le_refl, Int.toNat_natCast, Bool.and_self, Bool.true_and, Bool.and_true, if_true, eq_self, forall_const, and_self, implies_true])) <;> (try simp), by simp only [FitE, Le, LeL, List.cons_append, List.nil_append] <;> (try (simp (maxSteps := 2000000) -implicitDefEqProofs only [Sz.o_sl, Sz.o_grows, Sz.o_kill, Sz.o_len, Sz.o_cap, Sz.o_isl, Sz.o_le, Sz.o_cells, Sz.o_one, Sz.oOk_c, Sz.oOk_o, Sz.oO_cells, Sz.oO_own, Sz.oV_s, Sz.oV_0, Sz.oO_nil, Sz.oO_iL, Sz.iL_nil, Sz.iL_snoc, List.length_append, Sz.iL_fold, Sz.iL_over, Sz.iL_all, Sz.iL_get, Sz.iL_len, Sz.iL_take, Sz.iL_drop, Sz.iL_one, Sz.iL_plain, Sz.iL_le, List.length_set, leR, tR, Sz.p_v, ↓Sz.s_loopi, ↓Sz.v_pq, ↓Sz.PRE, Sz.POST, Sz.of_int, Sz.of_bool, Sz.of_str, Sz.of_sl, Sz.of_p, Sz.of_agg, Int.cast_ofNat_Int, Nat.mul_one, Nat.reduceDiv, Nat.reduceMod, Int.reduceLT, Int.reduceLE, Int.reduceToNat, Int.reduceAdd, decide_true, decide_false, ↓reduceIte, List.map_cons, List.map_nil, List.length_cons, List.length_nil, List.cons_append, List.nil_append, List.getElem?_cons_zero, List.getElem?_cons_succ, List.getElem?_nil, List.take_succ_cons, List.take_zero, List.drop_succ_cons, List.drop_zero, List.all_cons, List.all_nil, List.set_cons_zero, List.set_cons_succ, List.append_nil, Option.map_some, Option.map_none, cond_true, cond_false, Bool.true_eq_false, Bool.false_eq_true, Bool.not_true, Bool.not_false, Nat.reduceEqDiff, Nat.reduceAdd, Nat.reduceMul, Nat.reduceSub, Nat.reduceLeDiff, Nat.reduceLT, true_and, and_true, reduceCtorEq, Nat.zero_add, Nat.add_zero, Nat.zero_mul, Nat.le_refl, Int.toNat_natCast, Bool.and_self, Bool.true_and, Bool.and_true, if_true, eq_self, forall_const, and_self, implies_true])) <;> (try simp only [Sz.Le, Sz.LeL, List.getElem?_cons_zero, List.getElem?_cons_succ]) <;> (try simp), keep0 hJ⟩
    · rintro x ⟨ss, es⟩ hx ⟨hs1, hs2, hs3⟩
      simp only at hs1 hs2
      obtain ⟨t, ht⟩ : ∃ t, ts[x]? = some t := ⟨_, List.getElem?_eq_getElem (by omega)⟩
      have dT := hat x t ht
      have hmem := List.mem_of_getElem? ht
      obtain ⟨hn, xs, hxl, hxs⟩ := hbl t hmem
      have hxs := hIJ _ _ _ hxs
      have hsnoc := take_snoc ht
      have f5 : x * 5 + 5 ≤ 20 := by omega
      have i0 : (0 : Int) ≤ (x : Int) := by omega
      have i1 : (x : Int) < 4 := by omega
      have w1 := w ((x : Int) + 1) (by omega) (by omega)
      cases hth : t.there with
      | false =>
        rw [hth] at dT
        simp (maxSteps := 2000000) -implicitDefEqProofs only [LL, dT, f5, i0, i1, w1, ↓Sz.s_loopi, ↓Sz.v_pq, ↓Sz.PRE, Sz.POST, Sz.of_int, Sz.of_bool, Sz.of_str, Sz.of_sl, Sz.of_p, Sz.of_agg, Int.cast_ofNat_Int, Nat.mul_one, Nat.reduceDiv, Nat.reduceMod, Int.reduceLT, Int.reduceLE, Int.reduceToNat, Int.reduceAdd, decide_true, decide_false, ↓reduceIte, List.map_cons, List.map_nil, List.length_cons, List.length_nil, List.cons_append, List.nil_append, List.getElem?_cons_zero, List.getElem?_cons_succ, List.getElem?_nil, List.take_succ_cons, List.take_zero, List.drop_succ_cons, List.drop_zero, List.all_cons, List.all_nil, List.set_cons_zero, List.set_cons_succ, List.append_nil, Option.map_some, Option.map_none, cond_true, cond_false, Bool.true_eq_false, Bool.false_eq_true, Bool.not_true, Bool.not_false, Nat.reduceEqDiff, Nat.reduceAdd, Nat.reduceMul, Nat.reduceSub, Nat.reduceLeDiff, Nat.reduceLT, true_and, and_true, reduceCtorEq, Nat.zero_add, Nat.add_zero, Nat.zero_mul, Nat.le_refl, Int.toNat_natCast, Bool.and_self, Bool.true_and, Bool.and_true, if_true, eq_self, forall_const, and_self, implies_true]
        simp only [decide_eq_true_eq, decide_eq_false_iff_not, bne_iff_ne, ne_eq, bne_eq_false_iff_eq, beq_iff_eq]
        repeat' split
        all_goals first | exact bad | skip
        refine ⟨(ss, es), ⟨by simp only; omega, by simp only; omega, fun t' ht' => ?_⟩, ⟨[0, 1, 2], by simp [Sz.NdL, Sz.NdA, Sz.oO_cells, Sz.oO_own, Sz.iL_nil], by simp only [FitM, ObLe, LeL, Le, List.cons_append, List.nil_append] <;> (try (simp (maxSteps := 2000000) -implicitDefEqProofs only [Sz.o_sl, Sz.o_grows, Sz.o_kill, Sz.o_len, Sz.o_cap, Sz.o_isl, Sz.o_le, Sz.o_cells, Sz.o_one, Sz.oOk_c, Sz.oOk_o, Sz.oO_cells, Sz.oO_own, Sz.oV_s, Sz.oV_0, Sz.oO_nil, Sz.oO_iL, Sz.iL_nil, Sz.iL_snoc, List.length_append, Sz.iL_fold, Sz.iL_over, Sz.iL_all, Sz.iL_get, Sz.iL_len, Sz.iL_take, Sz.iL_drop, Sz.iL_one, Sz.iL_plain, Sz.iL_le, List.length_set, leR, ↓Sz.s_loopi, ↓Sz.v_pq, ↓Sz.PRE, Sz.POST, Sz.of_int, Sz.of_bool, Sz.of_str, Sz.of_sl, Sz.of_p, Sz.of_agg, Int.cast_ofNat_Int, Nat.mul_one, Nat.reduceDiv, Nat.reduceMod, Int.reduceLT, Int.reduceLE, Int.reduceToNat, Int.reduceAdd, decide_true, decide_false, ↓reduceIte, List.map_cons, List.map_nil, List.length_cons, List.length_nil, List.cons_append, List.nil_append, List.getElem?_cons_zero, List.getElem?_cons_succ, List.getElem?_nil, List.take_succ_cons, List.take_zero, List.drop_succ_cons, List.drop_zero, List.all_cons, List.all_nil, List.set_cons_zero, List.set_cons_succ, List.append_nil, Option.map_some, Option.map_none, cond_true, cond_false, Bool.true_eq_false, Bool.false_eq_true, Bool.not_true, Bool.not_false, Nat.reduceEqDiff, Nat.reduceAdd, Nat.reduceMul, Nat.reduceSub, Nat.reduceLeDiff, Nat.reduceLT, true_and, and_true, reduceCtorEq, Nat.zero_add, Nat.add_zero, Nat.zero_mul, Nat.le_refl, Int.toNat_natCast, Bool.and_self, Bool.true_and, Bool.and_true, if_true, eq_self, forall_const, and_self, implies_true])) <;> (try simp), by simp only [FitE, Le, LeL, List.cons_append, List.nil_append] <;> (try (simp (maxSteps := 2000000) -implicitDefEqProofs only [Sz.o_sl, Sz.o_grows, Sz.o_kill, Sz.o_len, Sz.o_cap, Sz.o_isl, Sz.o_le, Sz.o_cells, Sz.o_one, Sz.oOk_c, Sz.oOk_o, Sz.oO_cells, Sz.oO_own, Sz.oV_s, Sz.oV_0, Sz.oO_nil, Sz.oO_iL, Sz.iL_nil, Sz.iL_snoc, List.length_append, Sz.iL_fold, Sz.iL_over, Sz.iL_all, Sz.iL_get, Sz.iL_len, Sz.iL_take, Sz.iL_drop, Sz.iL_one, Sz.iL_plain, Sz.iL_le, List.length_set, leR, ↓Sz.s_loopi, ↓Sz.v_pq, ↓Sz.PRE, Sz.POST, Sz.of_int, Sz.of_bool, Sz.of_str, Sz.of_sl, Sz.of_p, Sz.of_agg, Int.cast_ofNat_Int, Nat.mul_one, Nat.reduceDiv, Nat.reduceMod, Int.reduceLT, Int.reduceLE, Int.reduceToNat, Int.reduceAdd, decide_true, decide_false, ↓reduceIte, List.map_cons, List.map_nil, List.length_cons, List.length_nil, List.cons_append, List.nil_append, List.getElem?_cons_zero, List.getElem?_cons_succ, List.getElem?_nil, List.take_succ_cons, List.take_zero, List.drop_succ_cons, List.drop_zero, List.all_cons, List.all_nil, List.set_cons_zero, List.set_cons_succ, List.append_nil, Option.map_some, Option.map_none, cond_true, cond_false, Bool.true_eq_false, Bool.false_eq_true, Bool.not_true, Bool.not_false, Nat.reduceEqDiff, Nat.reduceAdd, Nat.reduceMul, Nat.reduceSub, Nat.reduceLeDiff, Nat.reduceLT, true_and, and_true, reduceCtorEq, Nat.zero_add, Nat.add_zero, Nat.zero_mul, Nat.le_refl, Int.toNat_natCast, Bool.and_self, Bool.true_and, Bool.and_true, if_true, eq_self, forall_const, and_self, implies_true])) <;> (try simp only [Sz.Le, Sz.LeL, List.getElem?_cons_zero, List.getElem?_cons_succ]) <;> (try simp), keep0 hJ⟩⟩
        rw [hsnoc] at ht'
        rcases List.mem_append.1 ht' with ht' | ht'
        · exact hs3 t' ht'
        · simp only [List.mem_singleton] at ht'
          subst ht'
          exact ⟨fun _ => ⟨by assumption, by assumption⟩, fun h => by rw [hth] at h; cases h⟩
      | true =>
        rw [hth] at dT
        have re : ∀ m : Sz.Mem, m[2]? = some (oO (iL es)) → rdI m (oV 2 1 es.length) = some es := fun m h => rdI_o h rfl
        have be : es.length ≤ 9223372036854775807 := by omega
        have ne : es.length + 1 ≤ maxLen := by rw [hml]; omega
        have ne2 : (es.length + 1) * 8 ≤ 140737488355328 := by omega
        simp (maxSteps := 2000000) -implicitDefEqProofs only [LL, dT, f5, i0, i1, w1, ↓G51, ↓d105, ↓d108, optK_some, re, be, ne, ne2, Sz.o_sl, Sz.o_grows, Sz.o_kill, Sz.o_len, Sz.o_cap, Sz.o_isl, Sz.o_le, Sz.o_cells, Sz.o_one, Sz.oOk_c, Sz.oOk_o, Sz.oO_cells, Sz.oO_own, Sz.oV_s, Sz.oV_0, Sz.oO_nil, Sz.oO_iL, Sz.iL_nil, Sz.iL_snoc, List.length_append, Sz.iL_fold, Sz.iL_over, Sz.iL_all, Sz.iL_get, Sz.iL_len, Sz.iL_take, Sz.iL_drop, Sz.iL_one, Sz.iL_plain, Sz.iL_le, List.length_set, ↓Sz.s_loopi, ↓Sz.v_pq, ↓Sz.PRE, Sz.POST, Sz.of_int, Sz.of_bool, Sz.of_str, Sz.of_sl, Sz.of_p, Sz.of_agg, Int.cast_ofNat_Int, Nat.mul_one, Nat.reduceDiv, Nat.reduceMod, Int.reduceLT, Int.reduceLE, Int.reduceToNat, Int.reduceAdd, decide_true, decide_false, ↓reduceIte, List.map_cons, List.map_nil, List.length_cons, List.length_nil, List.cons_append, List.nil_append, List.getElem?_cons_zero, List.getElem?_cons_succ, List.getElem?_nil, List.take_succ_cons, List.take_zero, List.drop_succ_cons, List.drop_zero, List.all_cons, List.all_nil, List.set_cons_zero, List.set_cons_succ, List.append_nil, Option.map_some, Option.map_none, cond_true, cond_false, Bool.true_eq_false, Bool.false_eq_true, Bool.not_true, Bool.not_false, Nat.reduceEqDiff, Nat.reduceAdd, Nat.reduceMul, Nat.reduceSub, Nat.reduceLeDiff, Nat.reduceLT, true_and, and_true, reduceCtorEq, Nat.zero_add, Nat.add_zero, Nat.zero_mul, Nat.le_refl, Int.toNat_natCast, Bool.and_self, Bool.true_and, Bool.and_true, if_true, eq_self, forall_const, and_self, implies_true]
        have w28 : IntKind.i64.wrap (30 - 2) = 28 := by decide
        rw [w28]
        simp only [decide_eq_true_eq, decide_eq_false_iff_not, beq_eq_false_iff_ne, ne_eq]
        repeat' split
        all_goals first | exact bad | skip
        rename_i q1 q2 q3 q4 q5 q6
        have hok : ∀ t ∈ ts.take (x + 1), okT t := fun t' ht' => by
          rw [hsnoc] at ht'
          rcases List.mem_append.1 ht' with ht' | ht'
          · exact hs3 t' ht'
          · simp only [List.mem_singleton] at ht'
            subst ht'
            exact ⟨fun h => (by rw [hth] at h; cases h), fun _ => q4⟩
        have hn28 : t.n ≤ 28 := by omega
        refine Sz.TXi_of (TX_countS (g51 _) t.n (σ := List Int) (fun y s => [(1, .v (.int .i64 30)), (2, .v (.int .i64 4)), (3, .ptr 0 0), (7, oV 1 1 s.length), (8, oV 2 1 (es ++ [t.epoch]).length), (33, .agg R), (34, .v (.int .i64 (x : Int))), (104, .v (.slice t.A t.n t.c)), (105, .v (.int .i64 (t.n : Int))), (106, .v (.int .i64 (y : Int)))])
          (fun y s => [⟨true, .v (.int .i64 g) :: .v (.int .i64 e) :: R⟩, oO (iL s), oO (iL (es ++ [t.epoch]))]) (fun y s => s.length ≤ 28 * x + y) ss ?_ ?_ ?_ ?_)
        · exact hs1
        · exact ⟨[0, 1, 5], by simp [Sz.NdL, Sz.NdA, Sz.oO_cells, Sz.oO_own, Sz.iL_nil], by simp only [FitM, ObLe, LeL, Le, List.cons_append, List.nil_append] <;> (try (simp (maxSteps := 2000000) -implicitDefEqProofs only [Sz.o_sl, Sz.o_grows, Sz.o_kill, Sz.o_len, Sz.o_cap, Sz.o_isl, Sz.o_le, Sz.o_cells, Sz.o_one, Sz.oOk_c, Sz.oOk_o, Sz.oO_cells, Sz.oO_own, Sz.oV_s, Sz.oV_0, Sz.oO_nil, Sz.oO_iL, Sz.iL_nil, Sz.iL_snoc, List.length_append, Sz.iL_fold, Sz.iL_over, Sz.iL_all, Sz.iL_get, Sz.iL_len, Sz.iL_take, Sz.iL_drop, Sz.iL_one, Sz.iL_plain, Sz.iL_le, List.length_set, leR, List.length_cons, List.length_nil, ↓Sz.s_loopi, ↓Sz.v_pq, ↓Sz.PRE, Sz.POST, Sz.of_int, Sz.of_bool, Sz.of_str, Sz.of_sl, Sz.of_p, Sz.of_agg, Int.cast_ofNat_Int, Nat.mul_one, Nat.reduceDiv, Nat.reduceMod, Int.reduceLT, Int.reduceLE, Int.reduceToNat, Int.reduceAdd, decide_true, decide_false, ↓reduceIte, List.map_cons, List.map_nil, List.length_cons, List.length_nil, List.cons_append, List.nil_append, List.getElem?_cons_zero, List.getElem?_cons_succ, List.getElem?_nil, List.take_succ_cons, List.take_zero, List.drop_succ_cons, List.drop_zero, List.all_cons, List.all_nil, List.set_cons_zero, List.set_cons_succ, List.append_nil, Option.map_some, Option.map_none, cond_true, cond_false, Bool.true_eq_false, Bool.false_eq_true, Bool.not_true, Bool.not_false, Nat.reduceEqDiff, Nat.reduceAdd, Nat.reduceMul, Nat.reduceSub, Nat.reduceLeDiff, Nat.reduceLT, true_and, and_true, reduceCtorEq, Nat.zero_add, Nat.add_zero, Nat.zero_mul, Nat.le_refl, Int.toNat_natCast, Bool.and_self, Bool.true_and, Bool.and_true, if_true, eq_self, forall_const, and_self, implies_true])) <;> (try simp), by simp only [FitE, Le, LeL, List.cons_append, List.nil_append] <;> (try (simp (maxSteps := 2000000) -implicitDefEqProofs only [Sz.o_sl, Sz.o_grows, Sz.o_kill, Sz.o_len, Sz.o_cap, Sz.o_isl, Sz.o_le, Sz.o_cells, Sz.o_one, Sz.oOk_c, Sz.oOk_o, Sz.oO_cells, Sz.oO_own, Sz.oV_s, Sz.oV_0, Sz.oO_nil, Sz.oO_iL, Sz.iL_nil, Sz.iL_snoc, List.length_append, Sz.iL_fold, Sz.iL_over, Sz.iL_all, Sz.iL_get, Sz.iL_len, Sz.iL_take, Sz.iL_drop, Sz.iL_one, Sz.iL_plain, Sz.iL_le, List.length_set, leR, List.length_cons, List.length_nil, ↓Sz.s_loopi, ↓Sz.v_pq, ↓Sz.PRE, Sz.POST, Sz.of_int, Sz.of_bool, Sz.of_str, Sz.of_sl, Sz.of_p, Sz.of_agg, Int.cast_ofNat_Int, Nat.mul_one, Nat.reduceDiv, Nat.reduceMod, Int.reduceLT, Int.reduceLE, Int.reduceToNat, Int.reduceAdd, decide_true, decide_false, ↓reduceIte, List.map_cons, List.map_nil, List.length_cons, List.length_nil, List.cons_append, List.nil_append, List.getElem?_cons_zero, List.getElem?_cons_succ, List.getElem?_nil, List.take_succ_cons, List.take_zero, List.drop_succ_cons, List.drop_zero, List.all_cons, List.all_nil, List.set_cons_zero, List.set_cons_succ, List.append_nil, Option.map_some, Option.map_none, cond_true, cond_false, Bool.true_eq_false, Bool.false_eq_true, Bool.not_true, Bool.not_false, Nat.reduceEqDiff, Nat.reduceAdd, Nat.reduceMul, Nat.reduceSub, Nat.reduceLeDiff, Nat.reduceLT, true_and, and_true, reduceCtorEq, Nat.zero_add, Nat.add_zero, Nat.zero_mul, Nat.le_refl, Int.toNat_natCast, Bool.and_self, Bool.true_and, Bool.and_true, if_true, eq_self, forall_const, and_self, implies_true])) <;> (try simp only [Sz.Le, Sz.LeL, List.getElem?_cons_zero, List.getElem?_cons_succ]) <;> (try simp), keep0 hJ⟩
        · intro y s hy hs
          have hy1 : y < xs.length := by omega
          obtain ⟨d, hd⟩ : ∃ d, xs[y]? = some d := ⟨_, List.getElem?_eq_getElem hy1⟩
          rw [← hxl] at hxs
          have f := inpI_at hxs hd
          have hp : t.A.isSome = true := inpL_isSome hxs (by omega)
          have j0 : (0 : Int) ≤ (y : Int) := by omega
          have j1 : (y : Int) < (t.n : Int) := by omega
          have w2 := w ((y : Int) + 1) (by omega) (by omega)
          have re : ∀ m : Sz.Mem, m[1]? = some (oO (iL s)) → rdI m (oV 1 1 s.length) = some s := fun m h => rdI_o h rfl
          have be : s.length ≤ 9223372036854775807 := by omega
          have ne : s.length + 1 ≤ maxLen := by rw [hml]; omega
          have ne2 : (s.length + 1) * 8 ≤ 140737488355328 := by omega
          have keepE : oO (iL (es ++ [t.epoch])) = ⟨true, iL (es ++ [t.epoch])⟩ := oO_iL
          simp (maxSteps := 2000000) -implicitDefEqProofs only [f, hp, j0, j1, w2, ↓G51, ↓d108, optK_some, re, be, ne, ne2, Sz.o_sl, Sz.o_grows, Sz.o_kill, Sz.o_len, Sz.o_cap, Sz.o_isl, Sz.o_le, Sz.o_cells, Sz.o_one, Sz.oOk_c, Sz.oOk_o, Sz.oO_cells, Sz.oO_own, Sz.oV_s, Sz.oV_0, Sz.oO_nil, Sz.oO_iL, Sz.iL_nil, Sz.iL_snoc, List.length_append, Sz.iL_fold, Sz.iL_over, Sz.iL_all, Sz.iL_get, Sz.iL_len, Sz.iL_take, Sz.iL_drop, Sz.iL_one, Sz.iL_plain, Sz.iL_le, List.length_set, ↓Sz.s_loopi, ↓Sz.v_pq, ↓Sz.PRE, Sz.POST, Sz.of_int, Sz.of_bool, Sz.of_str, Sz.of_sl, Sz.of_p, Sz.of_agg, Int.cast_ofNat_Int, Nat.mul_one, Nat.reduceDiv, Nat.reduceMod, Int.reduceLT, Int.reduceLE, Int.reduceToNat, Int.reduceAdd, decide_true, decide_false, ↓reduceIte, List.map_cons, List.map_nil, List.length_cons, List.length_nil, List.cons_append, List.nil_append, List.getElem?_cons_zero, List.getElem?_cons_succ, List.getElem?_nil, List.take_succ_cons, List.take_zero, List.drop_succ_cons, List.drop_zero, List.all_cons, List.all_nil, List.set_cons_zero, List.set_cons_succ, List.append_nil, Option.map_some, Option.map_none, cond_true, cond_false, Bool.true_eq_false, Bool.false_eq_true, Bool.not_true, Bool.not_false, Nat.reduceEqDiff, Nat.reduceAdd, Nat.reduceMul, Nat.reduceSub, Nat.reduceLeDiff, Nat.reduceLT, true_and, and_true, reduceCtorEq, Nat.zero_add, Nat.add_zero, Nat.zero_mul, Nat.le_refl, Int.toNat_natCast, Bool.and_self, Bool.true_and, Bool.and_true, if_true, eq_self, forall_const, and_self, implies_true]
          simp only [decide_eq_true_eq, decide_eq_false_iff_not]
          repeat' split
          all_goals first | exact bad | skip
          exact ⟨s ++ [d], by rw [List.length_append, List.length_cons, List.length_nil]; omega, ⟨[0, 4, 2], by simp [Sz.NdL, Sz.NdA, Sz.oO_cells, Sz.oO_own, Sz.iL_nil], by simp only [FitM, ObLe, LeL, Le, List.cons_append, List.nil_append] <;> (try (simp (maxSteps := 2000000) -implicitDefEqProofs only [Sz.o_sl, Sz.o_grows, Sz.o_kill, Sz.o_len, Sz.o_cap, Sz.o_isl, Sz.o_le, Sz.o_cells, Sz.o_one, Sz.oOk_c, Sz.oOk_o, Sz.oO_cells, Sz.oO_own, Sz.oV_s, Sz.oV_0, Sz.oO_nil, Sz.oO_iL, Sz.iL_nil, Sz.iL_snoc, List.length_append, Sz.iL_fold, Sz.iL_over, Sz.iL_all, Sz.iL_get, Sz.iL_len, Sz.iL_take, Sz.iL_drop, Sz.iL_one, Sz.iL_plain, Sz.iL_le, List.length_set, leR, List.length_cons, List.length_nil, ↓Sz.s_loopi, ↓Sz.v_pq, ↓Sz.PRE, Sz.POST, Sz.of_int, Sz.of_bool, Sz.of_str, Sz.of_sl, Sz.of_p, Sz.of_agg, Int.cast_ofNat_Int, Nat.mul_one, Nat.reduceDiv, Nat.reduceMod, Int.reduceLT, Int.reduceLE, Int.reduceToNat, Int.reduceAdd, decide_true, decide_false, ↓reduceIte, List.map_cons, List.map_nil, List.length_cons, List.length_nil, List.cons_append, List.nil_append, List.getElem?_cons_zero, List.getElem?_cons_succ, List.getElem?_nil, List.take_succ_cons, List.take_zero, List.drop_succ_cons, List.drop_zero, List.all_cons, List.all_nil, List.set_cons_zero, List.set_cons_succ, List.append_nil, Option.map_some, Option.map_none, cond_true, cond_false, Bool.true_eq_false, Bool.false_eq_true, Bool.not_true, Bool.not_false, Nat.reduceEqDiff, Nat.reduceAdd, Nat.reduceMul, Nat.reduceSub, Nat.reduceLeDiff, Nat.reduceLT, true_and, and_true, reduceCtorEq, Nat.zero_add, Nat.add_zero, Nat.zero_mul, Nat.le_refl, Int.toNat_natCast, Bool.and_self, Bool.true_and, Bool.and_true, if_true, eq_self, forall_const, and_self, implies_true])) <;> (try simp), by simp only [FitE, Le, LeL, List.cons_append, List.nil_append] <;> (try (simp (maxSteps := 2000000) -implicitDefEqProofs only [Sz.o_sl, Sz.o_grows, Sz.o_kill, Sz.o_len, Sz.o_cap, Sz.o_isl, Sz.o_le, Sz.o_cells, Sz.o_one, Sz.oOk_c, Sz.oOk_o, Sz.oO_cells, Sz.oO_own, Sz.oV_s, Sz.oV_0, Sz.oO_nil, Sz.oO_iL, Sz.iL_nil, Sz.iL_snoc, List.length_append, Sz.iL_fold, Sz.iL_over, Sz.iL_all, Sz.iL_get, Sz.iL_len, Sz.iL_take, Sz.iL_drop, Sz.iL_one, Sz.iL_plain, Sz.iL_le, List.length_set, leR, List.length_cons, List.length_nil, ↓Sz.s_loopi, ↓Sz.v_pq, ↓Sz.PRE, Sz.POST, Sz.of_int, Sz.of_bool, Sz.of_str, Sz.of_sl, Sz.of_p, Sz.of_agg, Int.cast_ofNat_Int, Nat.mul_one, Nat.reduceDiv, Nat.reduceMod, Int.reduceLT, Int.reduceLE, Int.reduceToNat, Int.reduceAdd, decide_true, decide_false, ↓reduceIte, List.map_cons, List.map_nil, List.length_cons, List.length_nil, List.cons_append, List.nil_append, List.getElem?_cons_zero, List.getElem?_cons_succ, List.getElem?_nil, List.take_succ_cons, List.take_zero, List.drop_succ_cons, List.drop_zero, List.all_cons, List.all_nil, List.set_cons_zero, List.set_cons_succ, List.append_nil, Option.map_some, Option.map_none, cond_true, cond_false, Bool.true_eq_false, Bool.false_eq_true, Bool.not_true, Bool.not_false, Nat.reduceEqDiff, Nat.reduceAdd, Nat.reduceMul, Nat.reduceSub, Nat.reduceLeDiff, Nat.reduceLT, true_and, and_true, reduceCtorEq, Nat.zero_add, Nat.add_zero, Nat.zero_mul, Nat.le_refl, Int.toNat_natCast, Bool.and_self, Bool.true_and, Bool.and_true, if_true, eq_self, forall_const, and_self, implies_true])) <;> (try simp only [Sz.Le, Sz.LeL, List.getElem?_cons_zero, List.getElem?_cons_succ]) <;> (try simp), keep0 hJ⟩⟩
        · intro s hs
          have j1 : ¬ (t.n : Int) < (t.n : Int) := by omega
          simp (maxSteps := 2000000) -implicitDefEqProofs only [j1, w1, ↓Sz.s_loopi, ↓Sz.v_pq, ↓Sz.PRE, Sz.POST, Sz.of_int, Sz.of_bool, Sz.of_str, Sz.of_sl, Sz.of_p, Sz.of_agg, Int.cast_ofNat_Int, Nat.mul_one, Nat.reduceDiv, Nat.reduceMod, Int.reduceLT, Int.reduceLE, Int.reduceToNat, Int.reduceAdd, decide_true, decide_false, ↓reduceIte, List.map_cons, List.map_nil, List.length_cons, List.length_nil, List.cons_append, List.nil_append, List.getElem?_cons_zero, List.getElem?_cons_succ, List.getElem?_nil, List.take_succ_cons, List.take_zero, List.drop_succ_cons, List.drop_zero, List.all_cons, List.all_nil, List.set_cons_zero, List.set_cons_succ, List.append_nil, Option.map_some, Option.map_none, cond_true, cond_false, Bool.true_eq_false, Bool.false_eq_true, Bool.not_true, Bool.not_false, Nat.reduceEqDiff, Nat.reduceAdd, Nat.reduceMul, Nat.reduceSub, Nat.reduceLeDiff, Nat.reduceLT, true_and, and_true, reduceCtorEq, Nat.zero_add, Nat.add_zero, Nat.zero_mul, Nat.le_refl, Int.toNat_natCast, Bool.and_self, Bool.true_and, Bool.and_true, if_true, eq_self, forall_const, and_self, implies_true]
          refine ⟨(s, es ++ [t.epoch]), ⟨by simp only; omega, by simp; omega, hok⟩, ⟨[0, 1, 2], by simp [Sz.NdL, Sz.NdA, Sz.oO_cells, Sz.oO_own, Sz.iL_nil], by simp only [FitM, ObLe, LeL, Le, List.cons_append, List.nil_append] <;> (try (simp (maxSteps := 2000000) -implicitDefEqProofs only [Sz.o_sl, Sz.o_grows, Sz.o_kill, Sz.o_len, Sz.o_cap, Sz.o_isl, Sz.o_le, Sz.o_cells, Sz.o_one, Sz.oOk_c, Sz.oOk_o, Sz.oO_cells, Sz.oO_own, Sz.oV_s, Sz.oV_0, Sz.oO_nil, Sz.oO_iL, Sz.iL_nil, Sz.iL_snoc, List.length_append, Sz.iL_fold, Sz.iL_over, Sz.iL_all, Sz.iL_get, Sz.iL_len, Sz.iL_take, Sz.iL_drop, Sz.iL_one, Sz.iL_plain, Sz.iL_le, List.length_set, leR, ↓Sz.s_loopi, ↓Sz.v_pq, ↓Sz.PRE, Sz.POST, Sz.of_int, Sz.of_bool, Sz.of_str, Sz.of_sl, Sz.of_p, Sz.of_agg, Int.cast_ofNat_Int, Nat.mul_one, Nat.reduceDiv, Nat.reduceMod, Int.reduceLT, Int.reduceLE, Int.reduceToNat, Int.reduceAdd, decide_true, decide_false, ↓reduceIte, List.map_cons, List.map_nil, List.length_cons, List.length_nil, List.cons_append, List.nil_append, List.getElem?_cons_zero, List.getElem?_cons_succ, List.getElem?_nil, List.take_succ_cons, List.take_zero, List.drop_succ_cons, List.drop_zero, List.all_cons, List.all_nil, List.set_cons_zero, List.set_cons_succ, List.append_nil, Option.map_some, Option.map_none, cond_true, cond_false, Bool.true_eq_false, Bool.false_eq_true, Bool.not_true, Bool.not_false, Nat.reduceEqDiff, Nat.reduceAdd, Nat.reduceMul, Nat.reduceSub, Nat.reduceLeDiff, Nat.reduceLT, true_and, and_true, reduceCtorEq, Nat.zero_add, Nat.add_zero, Nat.zero_mul, Nat.le_refl, Int.toNat_natCast, Bool.and_self, Bool.true_and, Bool.and_true, if_true, eq_self, forall_const, and_self, implies_true])) <;> (try simp), by simp only [FitE, Le, LeL, List.cons_append, List.nil_append] <;> (try (simp (maxSteps := 2000000) -implicitDefEqProofs only [Sz.o_sl, Sz.o_grows, Sz.o_kill, Sz.o_len, Sz.o_cap, Sz.o_isl, Sz.o_le, Sz.o_cells, Sz.o_one, Sz.oOk_c, Sz.oOk_o, Sz.oO_cells, Sz.oO_own, Sz.oV_s, Sz.oV_0, Sz.oO_nil, Sz.oO_iL, Sz.iL_nil, Sz.iL_snoc, List.length_append, Sz.iL_fold, Sz.iL_over, Sz.iL_all, Sz.iL_get, Sz.iL_len, Sz.iL_take, Sz.iL_drop, Sz.iL_one, Sz.iL_plain, Sz.iL_le, List.length_set, leR, ↓Sz.s_loopi, ↓Sz.v_pq, ↓Sz.PRE, Sz.POST, Sz.of_int, Sz.of_bool, Sz.of_str, Sz.of_sl, Sz.of_p, Sz.of_agg, Int.cast_ofNat_Int, Nat.mul_one, Nat.reduceDiv, Nat.reduceMod, Int.reduceLT, Int.reduceLE, Int.reduceToNat, Int.reduceAdd, decide_true, decide_false, ↓reduceIte, List.map_cons, List.map_nil, List.length_cons, List.length_nil, List.cons_append, List.nil_append, List.getElem?_cons_zero, List.getElem?_cons_succ, List.getElem?_nil, List.take_succ_cons, List.take_zero, List.drop_succ_cons, List.drop_zero, List.all_cons, List.all_nil, List.set_cons_zero, List.set_cons_succ, List.append_nil, Option.map_some, Option.map_none, cond_true, cond_false, Bool.true_eq_false, Bool.false_eq_true, Bool.not_true, Bool.not_false, Nat.reduceEqDiff, Nat.reduceAdd, Nat.reduceMul, Nat.reduceSub, Nat.reduceLeDiff, Nat.reduceLT, true_and, and_true, reduceCtorEq, Nat.zero_add, Nat.add_zero, Nat.zero_mul, Nat.le_refl, Int.toNat_natCast, Bool.and_self, Bool.true_and, Bool.and_true, if_true, eq_self, forall_const, and_self, implies_true])) <;> (try simp only [Sz.Le, Sz.LeL, List.getElem?_cons_zero, List.getElem?_cons_succ]) <;> (try simp), keep0 hJ⟩⟩
    · rintro ⟨ss, es⟩ ⟨_, _, hs3⟩
      rw [List.take_of_length_le (by omega)] at hs3
      simp (maxSteps := 2000000) -implicitDefEqProofs only [↓Sz.s_loopi, ↓Sz.v_pq, ↓Sz.PRE, Sz.POST, Sz.of_int, Sz.of_bool, Sz.of_str, Sz.of_sl, Sz.of_p, Sz.of_agg, Int.cast_ofNat_Int, Nat.mul_one, Nat.reduceDiv, Nat.reduceMod, Int.reduceLT, Int.reduceLE, Int.reduceToNat, Int.reduceAdd, decide_true, decide_false, ↓reduceIte, List.map_cons, List.map_nil, List.length_cons, List.length_nil, List.cons_append, List.nil_append, List.getElem?_cons_zero, List.getElem?_cons_succ, List.getElem?_nil, List.take_succ_cons, List.take_zero, List.drop_succ_cons, List.drop_zero, List.all_cons, List.all_nil, List.set_cons_zero, List.set_cons_succ, List.append_nil, Option.map_some, Option.map_none, cond_true, cond_false, Bool.true_eq_false, Bool.false_eq_true, Bool.not_true, Bool.not_false, Nat.reduceEqDiff, Nat.reduceAdd, Nat.reduceMul, Nat.reduceSub, Nat.reduceLeDiff, Nat.reduceLT, true_and, and_true, reduceCtorEq, Nat.zero_add, Nat.add_zero, Nat.zero_mul, Nat.le_refl, Int.toNat_natCast, Bool.and_self, Bool.true_and, Bool.and_true, if_true, eq_self, forall_const, and_self, implies_true]
      exact hk true fun _ => hs3
  · exact h.elim
end Go.Proofs.Ytppndeoiifkkkaa
