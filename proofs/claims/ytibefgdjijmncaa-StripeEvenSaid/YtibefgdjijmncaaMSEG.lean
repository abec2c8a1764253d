/- Walks and plain facts for the law StripeEven, part MSEG. No condition. -/
import Derived.Test.YtibefgdjijmncaaMSEF
import Derived.Test.YtibefgdjijmncaaMSEA
import Derived.ProofKit
import Derived.OpenShut
import Derived.Deep.Slices
import Derived.Test.YtibefgdjijmncaaMSEC
import Derived.SizedLaws
set_option linter.unusedVariables false
set_option linter.unusedSimpArgs false
section
namespace Go.Proofs.Ytibefgdjijmncaa
open Go.RowKit Sz
set_option maxHeartbeats 8000000
set_option maxRecDepth 20000
namespace St
-- almshouse/almshouselaw37.StripeEven (3 parameters)
def x7 : XC := (.seq (.tree (.seq ⟨some 3, none, (.box (.tmp 0))⟩
 (.seq ⟨some 6, none, (.ofA (.mv (.cst (.v (.bool false)))))⟩
 .done)))
 (.seq (.seq (.tree (.seq ⟨some 16, none, (.call (.cst (.fn 19 [])) [])⟩
 (.seq ⟨some 17, none, (.ofA (.un .not (.tmp 16)))⟩
 .done)))
 (.cond (.tmp 17)
 (.seq (.tree (.seq ⟨some 6, none, (.ofA (.mv (.cst (.v (.bool false)))))⟩
 .done))
 .ret)
 .skip))
 (.seq (.seq (.tree (.seq ⟨some 18, none, (.ofA (.mv (.tmp 1)))⟩
 (.seq ⟨some 19, none, (.ofA (.len (.tmp 18)))⟩
 (.seq ⟨some 20, none, (.ofA (.bin .gtr (.tmp 19) (.cst (.v (.int .i64 40)))))⟩
 (.seq ⟨some 21, none, (.ofA (.mv (.tmp 20)))⟩
 (.seq ⟨some 22, some (21, false), (.ofA (.load (some 4) (.tmp 3)))⟩
 (.seq ⟨some 23, some (21, false), (.call (.cst (.fn 21 [])) [(.tmp 22)])⟩
 (.seq ⟨some 24, some (21, false), (.ofA (.bin .neq (.tmp 23) (.cst (.v (.int .i64 0)))))⟩
 (.seq ⟨some 25, none, (.ofA (.pick (.tmp 21) (.cst (.v (.bool true))) (.tmp 24)))⟩
 .done)))))))))
 (.cond (.tmp 25)
 (.seq (.tree (.seq ⟨some 6, none, (.ofA (.mv (.cst (.v (.bool true)))))⟩
 .done))
 .ret)
 .skip))
 (.seq (.tree (.seq ⟨some 27, none, (.ofA (.load (some 4) (.tmp 3)))⟩
 (.seq ⟨some 28, none, (.ofA (.mv (.tmp 1)))⟩
 (.seq ⟨some 29, none, (.ofA (.mv (.tmp 2)))⟩
 (.seq ⟨some 30, none, (.ofA (.conv .i64 (.tmp 29)))⟩
 (.seq ⟨some 31, none, (.call (.cst (.fn 20 [])) [(.tmp 27), (.tmp 28), (.tmp 30)])⟩
 (.seq ⟨some 26, none, (.ofA (.mv (.tmp 31)))⟩
 (.seq ⟨some 32, none, (.ofA (.extract 0 (.tmp 26)))⟩
 (.seq ⟨some 33, none, (.ofA (.extract 1 (.tmp 26)))⟩
 (.seq ⟨some 7, none, (.ofA (.mv (.tmp 32)))⟩
 (.seq ⟨some 8, none, (.ofA (.mv (.tmp 33)))⟩
 .done)))))))))))
 (.seq (.tree (.seq ⟨some 9, none, (.ofA (.mv (.cst (.v (.int .i64 0)))))⟩
 .done))
 (.seq (.tree (.seq ⟨some 10, none, (.ofA (.mv (.cst (.v (.int .i64 0)))))⟩
 .done))
 (.seq (.seq (.tree (.seq ⟨some 34, none, (.ofA (.faddr 0 (.tmp 3)))⟩
 (.seq ⟨some 35, none, (.ofA (.load none (.tmp 34)))⟩
 (.seq ⟨some 36, none, (.ofA (.mv (.cst (.v (.int .i64 0)))))⟩
 .done))))
 (.block 0 (.loop (.seq (.tree (.seq ⟨some 37, none, (.ofA (.bin .lss (.tmp 36) (.tmp 35)))⟩
 .done))
 (.seq (.cond (.tmp 37)
 .skip
 (.exit 0))
 (.seq (.block 1 (.seq (.tree (.seq ⟨some 38, none, (.ofA (.mv (.tmp 36)))⟩
 (.seq ⟨some 11, none, (.ofA (.mv (.tmp 38)))⟩
 .done)))
 (.tree (.seq ⟨some 39, none, (.ofA (.mv (.tmp 9)))⟩
 (.seq ⟨some 40, none, (.ofA (.load (some 4) (.tmp 3)))⟩
 (.seq ⟨some 41, none, (.ofA (.mv (.tmp 1)))⟩
 (.seq ⟨some 42, none, (.ofA (.mv (.tmp 11)))⟩
 (.seq ⟨some 43, none, (.call (.cst (.fn 29 [])) [(.tmp 40), (.tmp 41), (.tmp 42)])⟩
 (.seq ⟨some 44, none, (.ofA (.len (.tmp 43)))⟩
 (.seq ⟨some 45, none, (.ofA (.bin .add (.tmp 39) (.tmp 44)))⟩
 (.seq ⟨some 9, none, (.ofA (.mv (.tmp 45)))⟩
 .done)))))))))))
 (.tree (.seq ⟨some 46, none, (.ofA (.bin .add (.tmp 36) (.cst (.v (.int .i64 1)))))⟩
 (.seq ⟨some 36, none, (.ofA (.mv (.tmp 46)))⟩
 .done)))))))))
 (.seq (.seq (.tree (.seq ⟨some 47, none, (.ofA (.mv (.tmp 8)))⟩
 (.seq ⟨some 48, none, (.ofA (.mv (.tmp 2)))⟩
 (.seq ⟨some 49, none, (.ofA (.conv .i64 (.tmp 48)))⟩
 (.seq ⟨some 50, none, (.ofA (.mv (.tmp 9)))⟩
 (.seq ⟨some 51, none, (.ofA (.bin .leq (.tmp 49) (.tmp 50)))⟩
 (.seq ⟨some 52, none, (.ofA (.eqb true (.tmp 47) (.tmp 51)))⟩
 .done)))))))
 (.cond (.tmp 52)
 (.seq (.tree (.seq ⟨some 6, none, (.ofA (.mv (.cst (.v (.bool false)))))⟩
 .done))
 .ret)
 .skip))
 (.seq (.seq (.tree (.seq ⟨some 53, none, (.ofA (.mv (.tmp 8)))⟩
 (.seq ⟨some 54, none, (.ofA (.un .not (.tmp 53)))⟩
 .done)))
 (.cond (.tmp 54)
 (.seq (.tree (.seq ⟨some 55, none, (.ofA (.mv (.tmp 7)))⟩
 (.seq ⟨some 56, none, (.ofA (.len (.tmp 55)))⟩
 (.seq ⟨some 57, none, (.ofA (.bin .eql (.tmp 56) (.cst (.v (.int .i64 0)))))⟩
 (.seq ⟨some 6, none, (.ofA (.mv (.tmp 57)))⟩
 .done)))))
 .ret)
 .skip))
 (.seq (.seq (.tree (.seq ⟨some 58, none, (.ofA (.load (some 4) (.tmp 3)))⟩
 (.seq ⟨some 59, none, (.ofA (.mv (.tmp 7)))⟩
 (.seq ⟨some 60, none, (.call (.cst (.fn 26 [])) [(.tmp 58), (.tmp 59)])⟩
 (.seq ⟨some 61, none, (.ofA (.len (.tmp 60)))⟩
 (.seq ⟨some 62, none, (.ofA (.mv (.cst (.v (.int .i64 0)))))⟩
 .done))))))
 (.block 2 (.loop (.seq (.tree (.seq ⟨some 63, none, (.ofA (.bin .lss (.tmp 62) (.tmp 61)))⟩
 .done))
 (.seq (.cond (.tmp 63)
 .skip
 (.exit 2))
 (.seq (.block 3 (.seq (.tree (.seq ⟨some 64, none, (.ofA (.isl 1 (.tmp 60) (.tmp 62)))⟩
 (.seq ⟨some 65, none, (.ofA (.load none (.tmp 64)))⟩
 (.seq ⟨some 13, none, (.ofA (.mv (.tmp 65)))⟩
 .done))))
 (.tree (.seq ⟨some 66, none, (.ofA (.mv (.tmp 10)))⟩
 (.seq ⟨some 67, none, (.ofA (.mv (.tmp 13)))⟩
 (.seq ⟨some 68, none, (.ofA (.mx true (.tmp 66) [(.tmp 67)]))⟩
 (.seq ⟨some 10, none, (.ofA (.mv (.tmp 68)))⟩
 .done)))))))
 (.tree (.seq ⟨some 69, none, (.ofA (.bin .add (.tmp 62) (.cst (.v (.int .i64 1)))))⟩
 (.seq ⟨some 62, none, (.ofA (.mv (.tmp 69)))⟩
 .done)))))))))
 (.seq (.tree (.seq ⟨some 14, none, (.ofA (.mv (.cst (.v (.int .i64 0)))))⟩
 .done))
 (.seq (.seq (.tree (.seq ⟨some 70, none, (.ofA (.faddr 0 (.tmp 3)))⟩
 (.seq ⟨some 71, none, (.ofA (.load none (.tmp 70)))⟩
 (.seq ⟨some 72, none, (.ofA (.mv (.cst (.v (.int .i64 0)))))⟩
 .done))))
 (.block 4 (.loop (.seq (.tree (.seq ⟨some 73, none, (.ofA (.bin .lss (.tmp 72) (.tmp 71)))⟩
 .done))
 (.seq (.cond (.tmp 73)
 .skip
 (.exit 4))
 (.seq (.block 5 (.seq (.tree (.seq ⟨some 74, none, (.ofA (.mv (.tmp 72)))⟩
 (.seq ⟨some 15, none, (.ofA (.mv (.tmp 74)))⟩
 .done)))
 (.tree (.seq ⟨some 75, none, (.ofA (.mv (.tmp 14)))⟩
 (.seq ⟨some 76, none, (.ofA (.load (some 4) (.tmp 3)))⟩
 (.seq ⟨some 77, none, (.ofA (.mv (.tmp 1)))⟩
 (.seq ⟨some 78, none, (.ofA (.mv (.tmp 15)))⟩
 (.seq ⟨some 79, none, (.call (.cst (.fn 29 [])) [(.tmp 76), (.tmp 77), (.tmp 78)])⟩
 (.seq ⟨some 80, none, (.ofA (.len (.tmp 79)))⟩
 (.seq ⟨some 81, none, (.ofA (.mv (.tmp 10)))⟩
 (.seq ⟨some 82, none, (.ofA (.bin .sub (.tmp 81) (.cst (.v (.int .i64 1)))))⟩
 (.seq ⟨some 83, none, (.ofA (.mx false (.tmp 80) [(.tmp 82)]))⟩
 (.seq ⟨some 84, none, (.ofA (.bin .add (.tmp 75) (.tmp 83)))⟩
 (.seq ⟨some 14, none, (.ofA (.mv (.tmp 84)))⟩
 .done))))))))))))))
 (.tree (.seq ⟨some 85, none, (.ofA (.bin .add (.tmp 72) (.cst (.v (.int .i64 1)))))⟩
 (.seq ⟨some 72, none, (.ofA (.mv (.tmp 85)))⟩
 .done)))))))))
 (.seq (.tree (.seq ⟨some 86, none, (.ofA (.mv (.tmp 7)))⟩
 (.seq ⟨some 87, none, (.ofA (.len (.tmp 86)))⟩
 (.seq ⟨some 88, none, (.ofA (.mv (.tmp 2)))⟩
 (.seq ⟨some 89, none, (.ofA (.conv .i64 (.tmp 88)))⟩
 (.seq ⟨some 90, none, (.ofA (.bin .eql (.tmp 87) (.tmp 89)))⟩
 (.seq ⟨some 91, none, (.ofA (.mv (.tmp 90)))⟩
 (.seq ⟨some 92, some (91, true), (.ofA (.mv (.tmp 10)))⟩
 (.seq ⟨some 93, some (91, true), (.ofA (.bin .eql (.tmp 92) (.cst (.v (.int .i64 0)))))⟩
 (.seq ⟨some 94, some (91, true), (.ofA (.mv (.tmp 93)))⟩
 (.seq ⟨some 95, some (94, false), (.ofA (.mv (.tmp 14)))⟩
 (.seq ⟨some 96, some (94, false), (.ofA (.mv (.tmp 2)))⟩
 (.seq ⟨some 97, some (94, false), (.ofA (.conv .i64 (.tmp 96)))⟩
 (.seq ⟨some 98, some (94, false), (.ofA (.bin .lss (.tmp 95) (.tmp 97)))⟩
 (.seq ⟨some 99, some (91, true), (.ofA (.pick (.tmp 94) (.cst (.v (.bool true))) (.tmp 98)))⟩
 (.seq ⟨some 100, none, (.ofA (.pick (.tmp 91) (.tmp 99) (.cst (.v (.bool false)))))⟩
 (.seq ⟨some 6, none, (.ofA (.mv (.tmp 100)))⟩
 .done)))))))))))))))))
 .ret)))))))))))))
def r7 : List XR := [.tmp 6]
theorem fn7 : FnX Try.prog 7 [64, 106] 101 x7 r7 := ⟨_, Try.func7, by kernel_rfl, by kernel_rfl, by kernel_rfl, by kernel_rfl⟩
theorem sumN_in {f : Nat → Int} (h : ∀ c, -1000000 ≤ f c ∧ f c ≤ 1000000) : ∀ n : Nat, -1000000 * (n : Int) ≤ sumN f n ∧ sumN f n ≤ 1000000 * (n : Int)
  | 0 => by simp [sumN]
  | n + 1 => by
    have h1 := sumN_in h n
    have h2 := h n
    unfold sumN
    omega
def c7 [Inp] : Trans := fun args m k => ∃ (g : Ge) (p : Option Addr) (n c : Nat) (bs : List Int) (many : Int), args = [.agg g.sv, .v (.slice p n c), .v (.int .u8 many)] ∧ inpL p n = some (bs.map (Value.int .i64)) ∧ bs.length = n ∧ n ≤ 140737488355328 ∧ (0 ≤ many ∧ many ≤ 255) ∧ k (.v (.bool true)) m
def G7 [Inp] : List CEntry := [⟨19, true, c19⟩, ⟨20, true, c20⟩, ⟨21, true, c21⟩, ⟨26, true, c26⟩, ⟨29, true, c29⟩]
theorem g7 [Inp] : GOk Try.prog G7 := GOk.cons c19_ok (GOk.cons c20_ok (GOk.cons c21_ok (GOk.cons c26_ok (GOk.cons c29_ok (g0 _)))))
theorem c7_ok [I : Inp] : Contract Try.prog 7 true c7 := by
  refine .readN fn7 (G := fun J => @G7 J) (fun J => @g7 J) _ fun args m k h => ?_
  obtain ⟨g, p, n, c, bs, many, rfl, hin0, rfl, hn, hmy, hk⟩ := h
  refine ⟨by simp [Ge.sv], fun J hJ us hus hI => ?_⟩
  obtain ⟨u, t1, rfl, hu1, u2, t2, rfl, hu2, u3, t3, rfl, hu3, rfl⟩ := hus
  have hin := hI _ _ _ hin0
  obtain rfl := hu1.2.1 g.vs rfl
  obtain rfl := hu2.1 _ rfl
  obtain rfl := hu3.1 _ rfl
  rw [List.map_cons, List.map_cons, List.map_cons, List.map_nil, show SV.of (.agg g.vs.toArray) = _ from ge_of g]
  have hrd : ∀ m', rdI m' (.v (.slice p bs.length c)) = some bs := fun m' => rdI_v hin
  obtain ⟨N, hN⟩ : ∃ N : Nat, many = (N : Int) := ⟨many.toNat, by omega⟩
  subst hN
  have wN : IntKind.i64.wrap (N : Int) = (N : Int) := Sz.w_64 (by omega) (by omega)
  simp (maxSteps := 2000000) -implicitDefEqProofs only [↓x7, ↓r7, ↓G7, ↓c19, s_alt, s_alt20, s_alt2t, s_alt2f, ↓s_loopi, ↓v_pq, ↓PRE, POST, CORE, Nat.reduceDiv, Nat.reduceMod, Int.reduceLT, Int.reduceLE, Int.reduceToNat, Int.reduceAdd, ↓reduceIte, Nat.reduceEqDiff, Nat.reduceAdd, Nat.reduceMul, Nat.reduceSub, Nat.reduceLeDiff, Nat.reduceLT, reduceCtorEq, if_true, eq_self, forall_const, implies_true]
  by_cases h40 : (40 : Int) < (bs.length : Int)
  · simp (maxSteps := 2000000) -implicitDefEqProofs only [h40, s_alt, s_alt20, s_alt2t, s_alt2f, ↓s_loopi, ↓v_pq, ↓PRE, POST, CORE, Nat.reduceDiv, Nat.reduceMod, Int.reduceLT, Int.reduceLE, Int.reduceToNat, Int.reduceAdd, ↓reduceIte, Nat.reduceEqDiff, Nat.reduceAdd, Nat.reduceMul, Nat.reduceSub, Nat.reduceLeDiff, Nat.reduceLT, reduceCtorEq, if_true, eq_self, forall_const, implies_true]
    exact hk
  have hb5 : bs.length ≤ 100000 := by omega
  simp (maxSteps := 2000000) -implicitDefEqProofs only [h40, ↓G7, ↓c21, s_alt, s_alt20, s_alt2t, s_alt2f, ↓s_loopi, ↓v_pq, ↓PRE, POST, CORE, Nat.reduceDiv, Nat.reduceMod, Int.reduceLT, Int.reduceLE, Int.reduceToNat, Int.reduceAdd, ↓reduceIte, Nat.reduceEqDiff, Nat.reduceAdd, Nat.reduceMul, Nat.reduceSub, Nat.reduceLeDiff, Nat.reduceLT, reduceCtorEq, if_true, eq_self, forall_const, implies_true]
  refine ⟨g, rfl, fun e he => ?_⟩
  by_cases h0 : e = 0
  case neg =>
    have hne : (e != 0) = true := by simpa using h0
    simp (maxSteps := 2000000) -implicitDefEqProofs only [hne, s_alt, s_alt20, s_alt2t, s_alt2f, ↓s_loopi, ↓v_pq, ↓PRE, POST, CORE, Nat.reduceDiv, Nat.reduceMod, Int.reduceLT, Int.reduceLE, Int.reduceToNat, Int.reduceAdd, ↓reduceIte, Nat.reduceEqDiff, Nat.reduceAdd, Nat.reduceMul, Nat.reduceSub, Nat.reduceLeDiff, Nat.reduceLT, reduceCtorEq, if_true, eq_self, forall_const, implies_true]
    exact hk
  subst h0
  have hg := he.1 rfl
  obtain ⟨⟨⟨m1, m1'⟩, ⟨m2, m2'⟩, ⟨m3, m3'⟩, m4, m4'⟩, m5, m6⟩ := chk_in.1 hg
  obtain ⟨C, hC⟩ : ∃ C : Nat, g.ch = (C : Int) := ⟨g.ch.toNat, by omega⟩
  have hCt : g.ch.toNat = C := by omega
  have hLR := @lanR_eq g bs C m1 (by omega)
  have hLl := lanR_len g bs C
  obtain ⟨f1, hf1e⟩ : ∃ f1 : Nat → Int, f1 = fun c => ((laneR g bs c).length : Int) := ⟨_, rfl⟩
  have hf1 : ∀ c, f1 c = ((laneR g bs c).length : Int) ∧ 0 ≤ f1 c ∧ f1 c ≤ 64 := fun c => by
    have := @laneR_len g bs c m1 m6
    rw [hf1e]
    exact ⟨rfl, by show (0 : Int) ≤ ((laneR g bs c).length : Int); omega, by show ((laneR g bs c).length : Int) ≤ 64; omega⟩
  have hsum1 : ∀ x : Nat, x ≤ 64 → -64000000 ≤ sumN f1 x ∧ sumN f1 x ≤ 64000000 := fun x hx => by
    have := sumN_in (f := f1) (fun c => by have := hf1 c; omega) x
    omega
  have hsl : sumN (lnI (lanR g bs C)) C = sumN f1 C := sumN_congr fun c hc => by
    rw [(hf1 c).1]
    unfold lnI
    rw [lnA_R hc]
  simp (maxSteps := 2000000) -implicitDefEqProofs only [bne_self_eq_false, Bool.false_eq_true, wN, ↓G7, ↓c20, s_alt, s_alt20, s_alt2t, s_alt2f, ↓s_loopi, ↓v_pq, ↓PRE, POST, CORE, Nat.reduceDiv, Nat.reduceMod, Int.reduceLT, Int.reduceLE, Int.reduceToNat, Int.reduceAdd, ↓reduceIte, Nat.reduceEqDiff, Nat.reduceAdd, Nat.reduceMul, Nat.reduceSub, Nat.reduceLeDiff, Nat.reduceLT, reduceCtorEq, if_true, eq_self, forall_const, implies_true]
  refine ⟨g, _, bs, (N : Int), rfl, hrd _, hb5, ⟨by omega, by omega⟩, fun h0 => ?_, fun _ _ => ⟨fun hnone => ?_, fun s hsome => ?_⟩⟩
  · exfalso
    rcases h0 with h0 | h0
    · rw [hg] at h0; cases h0
    · omega
  · rw [hCt, Int.toNat_natCast, ← hLR] at hnone
    have hno : ¬ (N : Int) ≤ sumN f1 C := fun hle => by
      rw [← hsl] at hle
      obtain ⟨s, hs⟩ := @pick_has (lanR g bs C) N (by rw [hLl]; exact hle)
      rw [hnone] at hs
      cases hs
    try simp (maxSteps := 2000000) -implicitDefEqProofs only [s_alt, s_alt20, s_alt2t, s_alt2f, ↓s_loopi, ↓v_pq, ↓PRE, POST, CORE, Nat.reduceDiv, Nat.reduceMod, Int.reduceLT, Int.reduceLE, Int.reduceToNat, Int.reduceAdd, ↓reduceIte, Nat.reduceEqDiff, Nat.reduceAdd, Nat.reduceMul, Nat.reduceSub, Nat.reduceLeDiff, Nat.reduceLT, reduceCtorEq, if_true, eq_self, forall_const, implies_true]
    refine TXi_of (TX_count (@g7 J) C (fun x => [(1, .v (.slice p bs.length c)), (2, .v (.int .u8 (N : Int))), (3, .ptr 0 0), (7, .v (.slice none 0 0)), (8, .v (.bool false)), (9, .v (.int .i64 (sumN f1 x))), (10, .v (.int .i64 0)), (35, .v (.int .i64 g.ch)), (36, .v (.int .i64 (x : Int)))]) (fun x => [⟨true, [.v (.int .i64 g.ch), .v (.int .i64 g.di), .v (.int .i64 g.bl), .v (.int .i64 g.pa)]⟩]) (fun _ => True) trivial ?_ ?_ ?_)
    · rw [show sumN f1 0 = 0 from rfl]
      exact (by refine ⟨[0], by simp [NdL, NdA, oO_cells, oO_own, iL_nil], ?_, ?_, keep0 hJ⟩ <;> simp only [FitM, FitE, ObLe, LeL, Le, List.cons_append, List.nil_append] <;> (try (simp (maxSteps := 2000000) -implicitDefEqProofs only [iL_fold, iL_over, iL_all, iL_get, iL_len, iL_take, iL_drop, iL_one, iL_plain, iL_le, List.length_set, s_alt, s_alt20, s_alt2t, s_alt2f, ↓s_loopi, ↓v_pq, ↓PRE, POST, CORE, Nat.reduceDiv, Nat.reduceMod, Int.reduceLT, Int.reduceLE, Int.reduceToNat, Int.reduceAdd, ↓reduceIte, Nat.reduceEqDiff, Nat.reduceAdd, Nat.reduceMul, Nat.reduceSub, Nat.reduceLeDiff, Nat.reduceLT, reduceCtorEq, if_true, eq_self, forall_const, implies_true])) <;> (try simp only [Sz.Le, Sz.LeL, List.getElem?_cons_zero, List.getElem?_cons_succ]) <;> (try simp))
    · intro x hx _
      have k1 : (x : Int) < g.ch := by omega
      have w1 : IntKind.i64.wrap ((x : Int) + 1) = (x : Int) + 1 := Sz.w_64 (by omega) (by omega)
      have hs1 := hf1 x
      have hs2 := hsum1 x (by omega)
      have hst : sumN f1 (x + 1) = sumN f1 x + f1 x := rfl
      have w2 : IntKind.i64.wrap (sumN f1 x + ((laneR g bs x).length : Int)) = sumN f1 (x + 1) := by rw [hst, hs1.1]; exact Sz.w_64 (by omega) (by omega)
      simp (maxSteps := 2000000) -implicitDefEqProofs only [k1, ↓G7, ↓c29, s_alt, s_alt20, s_alt2t, s_alt2f, ↓s_loopi, ↓v_pq, ↓PRE, POST, CORE, Nat.reduceDiv, Nat.reduceMod, Int.reduceLT, Int.reduceLE, Int.reduceToNat, Int.reduceAdd, ↓reduceIte, Nat.reduceEqDiff, Nat.reduceAdd, Nat.reduceMul, Nat.reduceSub, Nat.reduceLeDiff, Nat.reduceLT, reduceCtorEq, if_true, eq_self, forall_const, implies_true]
      refine ⟨g, _, bs, x, rfl, hrd _, hb5, hg, k1, ?_⟩
      simp (maxSteps := 2000000) -implicitDefEqProofs only [intS_len, w1, w2, s_alt, s_alt20, s_alt2t, s_alt2f, ↓s_loopi, ↓v_pq, ↓PRE, POST, CORE, Nat.reduceDiv, Nat.reduceMod, Int.reduceLT, Int.reduceLE, Int.reduceToNat, Int.reduceAdd, ↓reduceIte, Nat.reduceEqDiff, Nat.reduceAdd, Nat.reduceMul, Nat.reduceSub, Nat.reduceLeDiff, Nat.reduceLT, reduceCtorEq, if_true, eq_self, forall_const, implies_true]
      exact (by refine ⟨[0], by simp [NdL, NdA, oO_cells, oO_own, iL_nil], ?_, ?_, keep0 hJ⟩ <;> simp only [FitM, FitE, ObLe, LeL, Le, List.cons_append, List.nil_append] <;> (try (simp (maxSteps := 2000000) -implicitDefEqProofs only [iL_fold, iL_over, iL_all, iL_get, iL_len, iL_take, iL_drop, iL_one, iL_plain, iL_le, List.length_set, s_alt, s_alt20, s_alt2t, s_alt2f, ↓s_loopi, ↓v_pq, ↓PRE, POST, CORE, Nat.reduceDiv, Nat.reduceMod, Int.reduceLT, Int.reduceLE, Int.reduceToNat, Int.reduceAdd, ↓reduceIte, Nat.reduceEqDiff, Nat.reduceAdd, Nat.reduceMul, Nat.reduceSub, Nat.reduceLeDiff, Nat.reduceLT, reduceCtorEq, if_true, eq_self, forall_const, implies_true])) <;> (try simp only [Sz.Le, Sz.LeL, List.getElem?_cons_zero, List.getElem?_cons_succ]) <;> (try simp))
    · intro _
      have k1 : ¬ (C : Int) < g.ch := by omega
      have k2 : ¬ (N : Int) ≤ sumN f1 C := hno
      simp (maxSteps := 2000000) -implicitDefEqProofs only [k1, wN, k2, bne_self_eq_false, Bool.false_eq_true, s_alt, s_alt20, s_alt2t, s_alt2f, ↓s_loopi, ↓v_pq, ↓PRE, POST, CORE, Nat.reduceDiv, Nat.reduceMod, Int.reduceLT, Int.reduceLE, Int.reduceToNat, Int.reduceAdd, ↓reduceIte, Nat.reduceEqDiff, Nat.reduceAdd, Nat.reduceMul, Nat.reduceSub, Nat.reduceLeDiff, Nat.reduceLT, reduceCtorEq, if_true, eq_self, forall_const, implies_true]
      first | exact hk | (simp; exact hk)
  · rw [hCt, Int.toNat_natCast, ← hLR] at hsome
    have hyes : (N : Int) ≤ sumN f1 C := by
      have := pick_le hsome
      rwa [hLl, hsl] at this
    obtain ⟨a1, a2, a3⟩ := pickS_in hsome
    have hQ0 := pick_load m1 hC.symm hsome
    obtain ⟨Q, hQe⟩ : ∃ Q, s.2 = Q := ⟨_, rfl⟩
    obtain ⟨R, hR⟩ : ∃ R, srt s.1 = R := ⟨_, rfl⟩
    have hQ : loadF g R C = Q := by rw [← hR, load_perm (srt_perm s.1), ← hQ0, hQe]
    have hQl : Q.length = C := by rw [← hQe, a2, hLl]
    have hRl : R.length = N := by rw [← hR, srt_len, a1]
    obtain ⟨most, hmost⟩ : ∃ most, Q.foldl max 0 = most := ⟨_, rfl⟩
    have hmb : 0 ≤ most ∧ most ≤ 255 := by
      rw [← hmost]
      refine foldl_in (P := fun x => 0 ≤ x ∧ x ≤ (255 : Int)) (fun a b => by omega) (by omega) fun x hx => ?_
      obtain ⟨i, hi⟩ := List.getElem?_of_mem hx
      have := a3 i
      have e : tkA s.2 i = x := by unfold tkA; rw [hQe, List.getD_eq_getElem?_getD, hi]; rfl
      omega
    have hunder : most ≠ 0 → sumN (fun c => min ((laneR g bs c).length : Int) (most - 1)) C < (N : Int) := fun h => by
      have := pick_under hsome (by rw [hQe, hmost]) h
      rw [hLl] at this
      rwa [sumN_congr (h := fun c => min (lnI (lanR g bs C) c) (most - 1)) fun c hc => by unfold lnI; rw [lnA_R hc]]
    have wm : IntKind.i64.wrap (most - 1) = most - 1 := Sz.w_64 (by omega) (by omega)
    obtain ⟨f2, hf2e⟩ : ∃ f2 : Nat → Int, f2 = fun c => min ((laneR g bs c).length : Int) (most - 1) := ⟨_, rfl⟩
    have hf2 : ∀ c, -1 ≤ f2 c ∧ f2 c ≤ 255 := fun c => by
      have : f2 c = min ((laneR g bs c).length : Int) (most - 1) := by rw [hf2e]
      omega
    have hsum2 : ∀ x : Nat, x ≤ 64 → -64000000 ≤ sumN f2 x ∧ sumN f2 x ≤ 64000000 := fun x hx => by
      have := sumN_in (f := f2) (fun c => by have := hf2 c; omega) x
      omega
    rw [← hf2e] at hunder
    rw [hR]
    by_cases hRe : R = []
    · simp only [intS, intM, hRe, if_true]
      subst hRe
      have hN0 : N = 0 := hRl.symm
      try simp (maxSteps := 2000000) -implicitDefEqProofs only [s_alt, s_alt20, s_alt2t, s_alt2f, ↓s_loopi, ↓v_pq, ↓PRE, POST, CORE, Nat.reduceDiv, Nat.reduceMod, Int.reduceLT, Int.reduceLE, Int.reduceToNat, Int.reduceAdd, ↓reduceIte, Nat.reduceEqDiff, Nat.reduceAdd, Nat.reduceMul, Nat.reduceSub, Nat.reduceLeDiff, Nat.reduceLT, reduceCtorEq, if_true, eq_self, forall_const, implies_true]
      refine TXi_of (TX_count (@g7 J) C (fun x => [(1, .v (.slice p bs.length c)), (2, .v (.int .u8 (N : Int))), (3, .ptr 0 0), (7, .v (.slice none 0 0)), (8, .v (.bool true)), (9, .v (.int .i64 (sumN f1 x))), (10, .v (.int .i64 0)), (35, .v (.int .i64 g.ch)), (36, .v (.int .i64 (x : Int)))]) (fun x => [⟨true, [.v (.int .i64 g.ch), .v (.int .i64 g.di), .v (.int .i64 g.bl), .v (.int .i64 g.pa)]⟩]) (fun _ => True) trivial ?_ ?_ ?_)
      · rw [show sumN f1 0 = 0 from rfl]
        exact (by refine ⟨[0], by simp [NdL, NdA, oO_cells, oO_own, iL_nil], ?_, ?_, keep0 hJ⟩ <;> simp only [FitM, FitE, ObLe, LeL, Le, List.cons_append, List.nil_append] <;> (try (simp (maxSteps := 2000000) -implicitDefEqProofs only [iL_fold, iL_over, iL_all, iL_get, iL_len, iL_take, iL_drop, iL_one, iL_plain, iL_le, List.length_set, s_alt, s_alt20, s_alt2t, s_alt2f, ↓s_loopi, ↓v_pq, ↓PRE, POST, CORE, Nat.reduceDiv, Nat.reduceMod, Int.reduceLT, Int.reduceLE, Int.reduceToNat, Int.reduceAdd, ↓reduceIte, Nat.reduceEqDiff, Nat.reduceAdd, Nat.reduceMul, Nat.reduceSub, Nat.reduceLeDiff, Nat.reduceLT, reduceCtorEq, if_true, eq_self, forall_const, implies_true])) <;> (try simp only [Sz.Le, Sz.LeL, List.getElem?_cons_zero, List.getElem?_cons_succ]) <;> (try simp))
      · intro x hx _
        have k1 : (x : Int) < g.ch := by omega
        have w1 : IntKind.i64.wrap ((x : Int) + 1) = (x : Int) + 1 := Sz.w_64 (by omega) (by omega)
        have hs1 := hf1 x
        have hs2 := hsum1 x (by omega)
        have hst : sumN f1 (x + 1) = sumN f1 x + f1 x := rfl
        have w2 : IntKind.i64.wrap (sumN f1 x + ((laneR g bs x).length : Int)) = sumN f1 (x + 1) := by rw [hst, hs1.1]; exact Sz.w_64 (by omega) (by omega)
        simp (maxSteps := 2000000) -implicitDefEqProofs only [k1, ↓G7, ↓c29, s_alt, s_alt20, s_alt2t, s_alt2f, ↓s_loopi, ↓v_pq, ↓PRE, POST, CORE, Nat.reduceDiv, Nat.reduceMod, Int.reduceLT, Int.reduceLE, Int.reduceToNat, Int.reduceAdd, ↓reduceIte, Nat.reduceEqDiff, Nat.reduceAdd, Nat.reduceMul, Nat.reduceSub, Nat.reduceLeDiff, Nat.reduceLT, reduceCtorEq, if_true, eq_self, forall_const, implies_true]
        refine ⟨g, _, bs, x, rfl, hrd _, hb5, hg, k1, ?_⟩
        simp (maxSteps := 2000000) -implicitDefEqProofs only [intS_len, w1, w2, s_alt, s_alt20, s_alt2t, s_alt2f, ↓s_loopi, ↓v_pq, ↓PRE, POST, CORE, Nat.reduceDiv, Nat.reduceMod, Int.reduceLT, Int.reduceLE, Int.reduceToNat, Int.reduceAdd, ↓reduceIte, Nat.reduceEqDiff, Nat.reduceAdd, Nat.reduceMul, Nat.reduceSub, Nat.reduceLeDiff, Nat.reduceLT, reduceCtorEq, if_true, eq_self, forall_const, implies_true]
        exact (by refine ⟨[0], by simp [NdL, NdA, oO_cells, oO_own, iL_nil], ?_, ?_, keep0 hJ⟩ <;> simp only [FitM, FitE, ObLe, LeL, Le, List.cons_append, List.nil_append] <;> (try (simp (maxSteps := 2000000) -implicitDefEqProofs only [iL_fold, iL_over, iL_all, iL_get, iL_len, iL_take, iL_drop, iL_one, iL_plain, iL_le, List.length_set, s_alt, s_alt20, s_alt2t, s_alt2f, ↓s_loopi, ↓v_pq, ↓PRE, POST, CORE, Nat.reduceDiv, Nat.reduceMod, Int.reduceLT, Int.reduceLE, Int.reduceToNat, Int.reduceAdd, ↓reduceIte, Nat.reduceEqDiff, Nat.reduceAdd, Nat.reduceMul, Nat.reduceSub, Nat.reduceLeDiff, Nat.reduceLT, reduceCtorEq, if_true, eq_self, forall_const, implies_true])) <;> (try simp only [Sz.Le, Sz.LeL, List.getElem?_cons_zero, List.getElem?_cons_succ]) <;> (try simp))
      · intro _
        have k1 : ¬ (C : Int) < g.ch := by omega
        have k2 : (N : Int) ≤ sumN f1 C := hyes
        simp (maxSteps := 2000000) -implicitDefEqProofs only [k1, wN, k2, bne_self_eq_false, Bool.false_eq_true, ↓G7, ↓c26, s_alt, s_alt20, s_alt2t, s_alt2f, ↓s_loopi, ↓v_pq, ↓PRE, POST, CORE, Nat.reduceDiv, Nat.reduceMod, Int.reduceLT, Int.reduceLE, Int.reduceToNat, Int.reduceAdd, ↓reduceIte, Nat.reduceEqDiff, Nat.reduceAdd, Nat.reduceMul, Nat.reduceSub, Nat.reduceLeDiff, Nat.reduceLT, reduceCtorEq, if_true, eq_self, forall_const, implies_true]
        refine ⟨g, _, [], rfl, rdI_nil, by simp, hg, ?_⟩
        rw [hCt, hQ]
        try simp (maxSteps := 2000000) -implicitDefEqProofs only [s_alt, s_alt20, s_alt2t, s_alt2f, ↓s_loopi, ↓v_pq, ↓PRE, POST, CORE, Nat.reduceDiv, Nat.reduceMod, Int.reduceLT, Int.reduceLE, Int.reduceToNat, Int.reduceAdd, ↓reduceIte, Nat.reduceEqDiff, Nat.reduceAdd, Nat.reduceMul, Nat.reduceSub, Nat.reduceLeDiff, Nat.reduceLT, reduceCtorEq, if_true, eq_self, forall_const, implies_true]
        refine TXi_of (TX_count (@g7 J) C (fun x => [(1, .v (.slice p bs.length c)), (2, .v (.int .u8 (N : Int))), (3, .ptr 0 0), (7, .v (.slice none 0 0)), (10, .v (.int .i64 ((Q.take x).foldl max 0))), (60, .row 1 0 C 1), (61, .v (.int .i64 (C : Int))), (62, .v (.int .i64 (x : Int)))]) (fun x => [⟨true, [.v (.int .i64 g.ch), .v (.int .i64 g.di), .v (.int .i64 g.bl), .v (.int .i64 g.pa)]⟩, ⟨true, iL Q⟩]) (fun _ => True) trivial ?_ ?_ ?_)
        · exact (by refine ⟨[0, 1], by simp [NdL, NdA, oO_cells, oO_own, iL_nil], ?_, ?_, keep0 hJ⟩ <;> simp only [FitM, FitE, ObLe, LeL, Le, List.cons_append, List.nil_append] <;> (try (simp (maxSteps := 2000000) -implicitDefEqProofs only [iL_fold, iL_over, iL_all, iL_get, iL_len, iL_take, iL_drop, iL_one, iL_plain, iL_le, List.length_set, s_alt, s_alt20, s_alt2t, s_alt2f, ↓s_loopi, ↓v_pq, ↓PRE, POST, CORE, Nat.reduceDiv, Nat.reduceMod, Int.reduceLT, Int.reduceLE, Int.reduceToNat, Int.reduceAdd, ↓reduceIte, Nat.reduceEqDiff, Nat.reduceAdd, Nat.reduceMul, Nat.reduceSub, Nat.reduceLeDiff, Nat.reduceLT, reduceCtorEq, if_true, eq_self, forall_const, implies_true])) <;> (try simp only [Sz.Le, Sz.LeL, List.getElem?_cons_zero, List.getElem?_cons_succ]) <;> (try simp))
        · intro x hx _
          obtain ⟨y, hy⟩ : ∃ y, Q[x]? = some y := ⟨_, List.getElem?_eq_getElem (by omega)⟩
          have hyq : (iL Q)[x]? = some (.v (.int .i64 y)) := by unfold iL; rw [List.getElem?_map, hy]; rfl
          have k0 : (0 : Int) ≤ (x : Int) := by omega
          have k1 : (x : Int) < (C : Int) := by omega
          have k2 : x + 1 ≤ C := hx
          have w1 : IntKind.i64.wrap ((x : Int) + 1) = (x : Int) + 1 := Sz.w_64 (by omega) (by omega)
          rw [take_snoc hy, List.foldl_append]
          simp only [List.foldl_cons, List.foldl_nil]
          generalize (Q.take x).foldl max 0 = hi
          have e2 : (if hi < y then y else hi) = max hi y := by omega
          simp (maxSteps := 2000000) -implicitDefEqProofs only [k0, k1, k2, hyq, w1, hQl, iL_len, e2, s_alt, s_alt20, s_alt2t, s_alt2f, ↓s_loopi, ↓v_pq, ↓PRE, POST, CORE, Nat.reduceDiv, Nat.reduceMod, Int.reduceLT, Int.reduceLE, Int.reduceToNat, Int.reduceAdd, ↓reduceIte, Nat.reduceEqDiff, Nat.reduceAdd, Nat.reduceMul, Nat.reduceSub, Nat.reduceLeDiff, Nat.reduceLT, reduceCtorEq, if_true, eq_self, forall_const, implies_true]
          exact (by refine ⟨[0, 1], by simp [NdL, NdA, oO_cells, oO_own, iL_nil], ?_, ?_, keep0 hJ⟩ <;> simp only [FitM, FitE, ObLe, LeL, Le, List.cons_append, List.nil_append] <;> (try (simp (maxSteps := 2000000) -implicitDefEqProofs only [iL_fold, iL_over, iL_all, iL_get, iL_len, iL_take, iL_drop, iL_one, iL_plain, iL_le, List.length_set, s_alt, s_alt20, s_alt2t, s_alt2f, ↓s_loopi, ↓v_pq, ↓PRE, POST, CORE, Nat.reduceDiv, Nat.reduceMod, Int.reduceLT, Int.reduceLE, Int.reduceToNat, Int.reduceAdd, ↓reduceIte, Nat.reduceEqDiff, Nat.reduceAdd, Nat.reduceMul, Nat.reduceSub, Nat.reduceLeDiff, Nat.reduceLT, reduceCtorEq, if_true, eq_self, forall_const, implies_true])) <;> (try simp only [Sz.Le, Sz.LeL, List.getElem?_cons_zero, List.getElem?_cons_succ]) <;> (try simp))
        · intro _
          have k1 : ¬ (C : Int) < (C : Int) := by omega
          rw [← hQl, List.take_length, hQl, hmost]
          simp (maxSteps := 2000000) -implicitDefEqProofs only [k1, s_alt, s_alt20, s_alt2t, s_alt2f, ↓s_loopi, ↓v_pq, ↓PRE, POST, CORE, Nat.reduceDiv, Nat.reduceMod, Int.reduceLT, Int.reduceLE, Int.reduceToNat, Int.reduceAdd, ↓reduceIte, Nat.reduceEqDiff, Nat.reduceAdd, Nat.reduceMul, Nat.reduceSub, Nat.reduceLeDiff, Nat.reduceLT, reduceCtorEq, if_true, eq_self, forall_const, implies_true]
          refine TXi_of (TX_count (@g7 J) C (fun x => [(1, .v (.slice p bs.length c)), (2, .v (.int .u8 (N : Int))), (3, .ptr 0 0), (7, .v (.slice none 0 0)), (10, .v (.int .i64 most)), (14, .v (.int .i64 (sumN f2 x))), (71, .v (.int .i64 g.ch)), (72, .v (.int .i64 (x : Int)))]) (fun x => [⟨true, [.v (.int .i64 g.ch), .v (.int .i64 g.di), .v (.int .i64 g.bl), .v (.int .i64 g.pa)]⟩]) (fun _ => True) trivial ?_ ?_ ?_)
          · rw [show sumN f2 0 = 0 from rfl]
            exact (by refine ⟨[0], by simp [NdL, NdA, oO_cells, oO_own, iL_nil], ?_, ?_, keep0 hJ⟩ <;> simp only [FitM, FitE, ObLe, LeL, Le, List.cons_append, List.nil_append] <;> (try (simp (maxSteps := 2000000) -implicitDefEqProofs only [iL_fold, iL_over, iL_all, iL_get, iL_len, iL_take, iL_drop, iL_one, iL_plain, iL_le, List.length_set, s_alt, s_alt20, s_alt2t, s_alt2f, ↓s_loopi, ↓v_pq, ↓PRE, POST, CORE, Nat.reduceDiv, Nat.reduceMod, Int.reduceLT, Int.reduceLE, Int.reduceToNat, Int.reduceAdd, ↓reduceIte, Nat.reduceEqDiff, Nat.reduceAdd, Nat.reduceMul, Nat.reduceSub, Nat.reduceLeDiff, Nat.reduceLT, reduceCtorEq, if_true, eq_self, forall_const, implies_true])) <;> (try simp only [Sz.Le, Sz.LeL, List.getElem?_cons_zero, List.getElem?_cons_succ]) <;> (try simp))
          · intro x hx _
            have k1 : (x : Int) < g.ch := by omega
            have w1 : IntKind.i64.wrap ((x : Int) + 1) = (x : Int) + 1 := Sz.w_64 (by omega) (by omega)
            have hs1 := hf2 x
            have hs2 := hsum2 x (by omega)
            have hst : sumN f2 (x + 1) = sumN f2 x + f2 x := rfl
            have hfe : f2 x = min ((laneR g bs x).length : Int) (most - 1) := by rw [hf2e]
            have e3 : (if most - 1 < ((laneR g bs x).length : Int) then most - 1 else ((laneR g bs x).length : Int)) = f2 x := by rw [hfe]; omega
            have w2 : IntKind.i64.wrap (sumN f2 x + f2 x) = sumN f2 (x + 1) := by rw [hst]; exact Sz.w_64 (by omega) (by omega)
            simp (maxSteps := 2000000) -implicitDefEqProofs only [k1, ↓G7, ↓c29, s_alt, s_alt20, s_alt2t, s_alt2f, ↓s_loopi, ↓v_pq, ↓PRE, POST, CORE, Nat.reduceDiv, Nat.reduceMod, Int.reduceLT, Int.reduceLE, Int.reduceToNat, Int.reduceAdd, ↓reduceIte, Nat.reduceEqDiff, Nat.reduceAdd, Nat.reduceMul, Nat.reduceSub, Nat.reduceLeDiff, Nat.reduceLT, reduceCtorEq, if_true, eq_self, forall_const, implies_true]
            refine ⟨g, _, bs, x, rfl, hrd _, hb5, hg, k1, ?_⟩
            simp (maxSteps := 2000000) -implicitDefEqProofs only [intS_len, w1, wm, e3, w2, s_alt, s_alt20, s_alt2t, s_alt2f, ↓s_loopi, ↓v_pq, ↓PRE, POST, CORE, Nat.reduceDiv, Nat.reduceMod, Int.reduceLT, Int.reduceLE, Int.reduceToNat, Int.reduceAdd, ↓reduceIte, Nat.reduceEqDiff, Nat.reduceAdd, Nat.reduceMul, Nat.reduceSub, Nat.reduceLeDiff, Nat.reduceLT, reduceCtorEq, if_true, eq_self, forall_const, implies_true]
            exact (by refine ⟨[0], by simp [NdL, NdA, oO_cells, oO_own, iL_nil], ?_, ?_, keep0 hJ⟩ <;> simp only [FitM, FitE, ObLe, LeL, Le, List.cons_append, List.nil_append] <;> (try (simp (maxSteps := 2000000) -implicitDefEqProofs only [iL_fold, iL_over, iL_all, iL_get, iL_len, iL_take, iL_drop, iL_one, iL_plain, iL_le, List.length_set, s_alt, s_alt20, s_alt2t, s_alt2f, ↓s_loopi, ↓v_pq, ↓PRE, POST, CORE, Nat.reduceDiv, Nat.reduceMod, Int.reduceLT, Int.reduceLE, Int.reduceToNat, Int.reduceAdd, ↓reduceIte, Nat.reduceEqDiff, Nat.reduceAdd, Nat.reduceMul, Nat.reduceSub, Nat.reduceLeDiff, Nat.reduceLT, reduceCtorEq, if_true, eq_self, forall_const, implies_true])) <;> (try simp only [Sz.Le, Sz.LeL, List.getElem?_cons_zero, List.getElem?_cons_succ]) <;> (try simp))
          · intro _
            have k1 : ¬ (C : Int) < g.ch := by omega
            have hee : ((0 : Int) == (N : Int)) = true := by simp; omega
            by_cases hm0 : most = 0
            · have e0 : (most == 0) = true := by simpa using hm0
              simp (maxSteps := 2000000) -implicitDefEqProofs only [k1, wN, hee, e0, s_alt, s_alt20, s_alt2t, s_alt2f, ↓s_loopi, ↓v_pq, ↓PRE, POST, CORE, Nat.reduceDiv, Nat.reduceMod, Int.reduceLT, Int.reduceLE, Int.reduceToNat, Int.reduceAdd, ↓reduceIte, Nat.reduceEqDiff, Nat.reduceAdd, Nat.reduceMul, Nat.reduceSub, Nat.reduceLeDiff, Nat.reduceLT, reduceCtorEq, if_true, eq_self, forall_const, implies_true]
              exact hk
            · have e0 : (most == 0) = false := by simpa using hm0
              have hu := hunder hm0
              simp (maxSteps := 2000000) -implicitDefEqProofs only [k1, wN, hee, e0, hu, decide_true, s_alt, s_alt20, s_alt2t, s_alt2f, ↓s_loopi, ↓v_pq, ↓PRE, POST, CORE, Nat.reduceDiv, Nat.reduceMod, Int.reduceLT, Int.reduceLE, Int.reduceToNat, Int.reduceAdd, ↓reduceIte, Nat.reduceEqDiff, Nat.reduceAdd, Nat.reduceMul, Nat.reduceSub, Nat.reduceLeDiff, Nat.reduceLT, reduceCtorEq, if_true, eq_self, forall_const, implies_true]
              exact hk
    · simp only [intS, intM, hRe, if_false]
      try simp (maxSteps := 2000000) -implicitDefEqProofs only [s_alt, s_alt20, s_alt2t, s_alt2f, ↓s_loopi, ↓v_pq, ↓PRE, POST, CORE, Nat.reduceDiv, Nat.reduceMod, Int.reduceLT, Int.reduceLE, Int.reduceToNat, Int.reduceAdd, ↓reduceIte, Nat.reduceEqDiff, Nat.reduceAdd, Nat.reduceMul, Nat.reduceSub, Nat.reduceLeDiff, Nat.reduceLT, reduceCtorEq, if_true, eq_self, forall_const, implies_true]
      refine TXi_of (TX_count (@g7 J) C (fun x => [(1, .v (.slice p bs.length c)), (2, .v (.int .u8 (N : Int))), (3, .ptr 0 0), (7, .row 1 0 R.length 1), (8, .v (.bool true)), (9, .v (.int .i64 (sumN f1 x))), (10, .v (.int .i64 0)), (35, .v (.int .i64 g.ch)), (36, .v (.int .i64 (x : Int)))]) (fun x => [⟨true, [.v (.int .i64 g.ch), .v (.int .i64 g.di), .v (.int .i64 g.bl), .v (.int .i64 g.pa)]⟩, ⟨true, iL R⟩]) (fun _ => True) trivial ?_ ?_ ?_)
      · rw [show sumN f1 0 = 0 from rfl]
        exact (by refine ⟨[0, 1], by simp [NdL, NdA, oO_cells, oO_own, iL_nil], ?_, ?_, keep0 hJ⟩ <;> simp only [FitM, FitE, ObLe, LeL, Le, List.cons_append, List.nil_append] <;> (try (simp (maxSteps := 2000000) -implicitDefEqProofs only [iL_fold, iL_over, iL_all, iL_get, iL_len, iL_take, iL_drop, iL_one, iL_plain, iL_le, List.length_set, s_alt, s_alt20, s_alt2t, s_alt2f, ↓s_loopi, ↓v_pq, ↓PRE, POST, CORE, Nat.reduceDiv, Nat.reduceMod, Int.reduceLT, Int.reduceLE, Int.reduceToNat, Int.reduceAdd, ↓reduceIte, Nat.reduceEqDiff, Nat.reduceAdd, Nat.reduceMul, Nat.reduceSub, Nat.reduceLeDiff, Nat.reduceLT, reduceCtorEq, if_true, eq_self, forall_const, implies_true])) <;> (try simp only [Sz.Le, Sz.LeL, List.getElem?_cons_zero, List.getElem?_cons_succ]) <;> (try simp))
      · intro x hx _
        have k1 : (x : Int) < g.ch := by omega
        have w1 : IntKind.i64.wrap ((x : Int) + 1) = (x : Int) + 1 := Sz.w_64 (by omega) (by omega)
        have hs1 := hf1 x
        have hs2 := hsum1 x (by omega)
        have hst : sumN f1 (x + 1) = sumN f1 x + f1 x := rfl
        have w2 : IntKind.i64.wrap (sumN f1 x + ((laneR g bs x).length : Int)) = sumN f1 (x + 1) := by rw [hst, hs1.1]; exact Sz.w_64 (by omega) (by omega)
        simp (maxSteps := 2000000) -implicitDefEqProofs only [k1, ↓G7, ↓c29, s_alt, s_alt20, s_alt2t, s_alt2f, ↓s_loopi, ↓v_pq, ↓PRE, POST, CORE, Nat.reduceDiv, Nat.reduceMod, Int.reduceLT, Int.reduceLE, Int.reduceToNat, Int.reduceAdd, ↓reduceIte, Nat.reduceEqDiff, Nat.reduceAdd, Nat.reduceMul, Nat.reduceSub, Nat.reduceLeDiff, Nat.reduceLT, reduceCtorEq, if_true, eq_self, forall_const, implies_true]
        refine ⟨g, _, bs, x, rfl, hrd _, hb5, hg, k1, ?_⟩
        simp (maxSteps := 2000000) -implicitDefEqProofs only [intS_len, w1, w2, s_alt, s_alt20, s_alt2t, s_alt2f, ↓s_loopi, ↓v_pq, ↓PRE, POST, CORE, Nat.reduceDiv, Nat.reduceMod, Int.reduceLT, Int.reduceLE, Int.reduceToNat, Int.reduceAdd, ↓reduceIte, Nat.reduceEqDiff, Nat.reduceAdd, Nat.reduceMul, Nat.reduceSub, Nat.reduceLeDiff, Nat.reduceLT, reduceCtorEq, if_true, eq_self, forall_const, implies_true]
        exact (by refine ⟨[0, 1], by simp [NdL, NdA, oO_cells, oO_own, iL_nil], ?_, ?_, keep0 hJ⟩ <;> simp only [FitM, FitE, ObLe, LeL, Le, List.cons_append, List.nil_append] <;> (try (simp (maxSteps := 2000000) -implicitDefEqProofs only [iL_fold, iL_over, iL_all, iL_get, iL_len, iL_take, iL_drop, iL_one, iL_plain, iL_le, List.length_set, s_alt, s_alt20, s_alt2t, s_alt2f, ↓s_loopi, ↓v_pq, ↓PRE, POST, CORE, Nat.reduceDiv, Nat.reduceMod, Int.reduceLT, Int.reduceLE, Int.reduceToNat, Int.reduceAdd, ↓reduceIte, Nat.reduceEqDiff, Nat.reduceAdd, Nat.reduceMul, Nat.reduceSub, Nat.reduceLeDiff, Nat.reduceLT, reduceCtorEq, if_true, eq_self, forall_const, implies_true])) <;> (try simp only [Sz.Le, Sz.LeL, List.getElem?_cons_zero, List.getElem?_cons_succ]) <;> (try simp))
      · intro _
        have k1 : ¬ (C : Int) < g.ch := by omega
        have k2 : (N : Int) ≤ sumN f1 C := hyes
        simp (maxSteps := 2000000) -implicitDefEqProofs only [k1, wN, k2, bne_self_eq_false, Bool.false_eq_true, ↓G7, ↓c26, s_alt, s_alt20, s_alt2t, s_alt2f, ↓s_loopi, ↓v_pq, ↓PRE, POST, CORE, Nat.reduceDiv, Nat.reduceMod, Int.reduceLT, Int.reduceLE, Int.reduceToNat, Int.reduceAdd, ↓reduceIte, Nat.reduceEqDiff, Nat.reduceAdd, Nat.reduceMul, Nat.reduceSub, Nat.reduceLeDiff, Nat.reduceLT, reduceCtorEq, if_true, eq_self, forall_const, implies_true]
        refine ⟨g, _, R, rfl, rdI_row rfl rfl, by omega, hg, ?_⟩
        rw [hCt, hQ]
        try simp (maxSteps := 2000000) -implicitDefEqProofs only [s_alt, s_alt20, s_alt2t, s_alt2f, ↓s_loopi, ↓v_pq, ↓PRE, POST, CORE, Nat.reduceDiv, Nat.reduceMod, Int.reduceLT, Int.reduceLE, Int.reduceToNat, Int.reduceAdd, ↓reduceIte, Nat.reduceEqDiff, Nat.reduceAdd, Nat.reduceMul, Nat.reduceSub, Nat.reduceLeDiff, Nat.reduceLT, reduceCtorEq, if_true, eq_self, forall_const, implies_true]
        refine TXi_of (TX_count (@g7 J) C (fun x => [(1, .v (.slice p bs.length c)), (2, .v (.int .u8 (N : Int))), (3, .ptr 0 0), (7, .row 1 0 R.length 1), (10, .v (.int .i64 ((Q.take x).foldl max 0))), (60, .row 2 0 C 1), (61, .v (.int .i64 (C : Int))), (62, .v (.int .i64 (x : Int)))]) (fun x => [⟨true, [.v (.int .i64 g.ch), .v (.int .i64 g.di), .v (.int .i64 g.bl), .v (.int .i64 g.pa)]⟩, ⟨true, iL R⟩, ⟨true, iL Q⟩]) (fun _ => True) trivial ?_ ?_ ?_)
        · exact (by refine ⟨[0, 1, 2], by simp [NdL, NdA, oO_cells, oO_own, iL_nil], ?_, ?_, keep0 hJ⟩ <;> simp only [FitM, FitE, ObLe, LeL, Le, List.cons_append, List.nil_append] <;> (try (simp (maxSteps := 2000000) -implicitDefEqProofs only [iL_fold, iL_over, iL_all, iL_get, iL_len, iL_take, iL_drop, iL_one, iL_plain, iL_le, List.length_set, s_alt, s_alt20, s_alt2t, s_alt2f, ↓s_loopi, ↓v_pq, ↓PRE, POST, CORE, Nat.reduceDiv, Nat.reduceMod, Int.reduceLT, Int.reduceLE, Int.reduceToNat, Int.reduceAdd, ↓reduceIte, Nat.reduceEqDiff, Nat.reduceAdd, Nat.reduceMul, Nat.reduceSub, Nat.reduceLeDiff, Nat.reduceLT, reduceCtorEq, if_true, eq_self, forall_const, implies_true])) <;> (try simp only [Sz.Le, Sz.LeL, List.getElem?_cons_zero, List.getElem?_cons_succ]) <;> (try simp))
        · intro x hx _
          obtain ⟨y, hy⟩ : ∃ y, Q[x]? = some y := ⟨_, List.getElem?_eq_getElem (by omega)⟩
          have hyq : (iL Q)[x]? = some (.v (.int .i64 y)) := by unfold iL; rw [List.getElem?_map, hy]; rfl
          have k0 : (0 : Int) ≤ (x : Int) := by omega
          have k1 : (x : Int) < (C : Int) := by omega
          have k2 : x + 1 ≤ C := hx
          have w1 : IntKind.i64.wrap ((x : Int) + 1) = (x : Int) + 1 := Sz.w_64 (by omega) (by omega)
          rw [take_snoc hy, List.foldl_append]
          simp only [List.foldl_cons, List.foldl_nil]
          generalize (Q.take x).foldl max 0 = hi
          have e2 : (if hi < y then y else hi) = max hi y := by omega
          simp (maxSteps := 2000000) -implicitDefEqProofs only [k0, k1, k2, hyq, w1, hQl, iL_len, e2, s_alt, s_alt20, s_alt2t, s_alt2f, ↓s_loopi, ↓v_pq, ↓PRE, POST, CORE, Nat.reduceDiv, Nat.reduceMod, Int.reduceLT, Int.reduceLE, Int.reduceToNat, Int.reduceAdd, ↓reduceIte, Nat.reduceEqDiff, Nat.reduceAdd, Nat.reduceMul, Nat.reduceSub, Nat.reduceLeDiff, Nat.reduceLT, reduceCtorEq, if_true, eq_self, forall_const, implies_true]
          exact (by refine ⟨[0, 1, 2], by simp [NdL, NdA, oO_cells, oO_own, iL_nil], ?_, ?_, keep0 hJ⟩ <;> simp only [FitM, FitE, ObLe, LeL, Le, List.cons_append, List.nil_append] <;> (try (simp (maxSteps := 2000000) -implicitDefEqProofs only [iL_fold, iL_over, iL_all, iL_get, iL_len, iL_take, iL_drop, iL_one, iL_plain, iL_le, List.length_set, s_alt, s_alt20, s_alt2t, s_alt2f, ↓s_loopi, ↓v_pq, ↓PRE, POST, CORE, Nat.reduceDiv, Nat.reduceMod, Int.reduceLT, Int.reduceLE, Int.reduceToNat, Int.reduceAdd, ↓reduceIte, Nat.reduceEqDiff, Nat.reduceAdd, Nat.reduceMul, Nat.reduceSub, Nat.reduceLeDiff, Nat.reduceLT, reduceCtorEq, if_true, eq_self, forall_const, implies_true])) <;> (try simp only [Sz.Le, Sz.LeL, List.getElem?_cons_zero, List.getElem?_cons_succ]) <;> (try simp))
        · intro _
          have k1 : ¬ (C : Int) < (C : Int) := by omega
          rw [← hQl, List.take_length, hQl, hmost]
          simp (maxSteps := 2000000) -implicitDefEqProofs only [k1, s_alt, s_alt20, s_alt2t, s_alt2f, ↓s_loopi, ↓v_pq, ↓PRE, POST, CORE, Nat.reduceDiv, Nat.reduceMod, Int.reduceLT, Int.reduceLE, Int.reduceToNat, Int.reduceAdd, ↓reduceIte, Nat.reduceEqDiff, Nat.reduceAdd, Nat.reduceMul, Nat.reduceSub, Nat.reduceLeDiff, Nat.reduceLT, reduceCtorEq, if_true, eq_self, forall_const, implies_true]
          refine TXi_of (TX_count (@g7 J) C (fun x => [(1, .v (.slice p bs.length c)), (2, .v (.int .u8 (N : Int))), (3, .ptr 0 0), (7, .row 1 0 R.length 1), (10, .v (.int .i64 most)), (14, .v (.int .i64 (sumN f2 x))), (71, .v (.int .i64 g.ch)), (72, .v (.int .i64 (x : Int)))]) (fun x => [⟨true, [.v (.int .i64 g.ch), .v (.int .i64 g.di), .v (.int .i64 g.bl), .v (.int .i64 g.pa)]⟩, ⟨true, iL R⟩]) (fun _ => True) trivial ?_ ?_ ?_)
          · rw [show sumN f2 0 = 0 from rfl]
            exact (by refine ⟨[0, 1], by simp [NdL, NdA, oO_cells, oO_own, iL_nil], ?_, ?_, keep0 hJ⟩ <;> simp only [FitM, FitE, ObLe, LeL, Le, List.cons_append, List.nil_append] <;> (try (simp (maxSteps := 2000000) -implicitDefEqProofs only [iL_fold, iL_over, iL_all, iL_get, iL_len, iL_take, iL_drop, iL_one, iL_plain, iL_le, List.length_set, s_alt, s_alt20, s_alt2t, s_alt2f, ↓s_loopi, ↓v_pq, ↓PRE, POST, CORE, Nat.reduceDiv, Nat.reduceMod, Int.reduceLT, Int.reduceLE, Int.reduceToNat, Int.reduceAdd, ↓reduceIte, Nat.reduceEqDiff, Nat.reduceAdd, Nat.reduceMul, Nat.reduceSub, Nat.reduceLeDiff, Nat.reduceLT, reduceCtorEq, if_true, eq_self, forall_const, implies_true])) <;> (try simp only [Sz.Le, Sz.LeL, List.getElem?_cons_zero, List.getElem?_cons_succ]) <;> (try simp))
          · intro x hx _
            have k1 : (x : Int) < g.ch := by omega
            have w1 : IntKind.i64.wrap ((x : Int) + 1) = (x : Int) + 1 := Sz.w_64 (by omega) (by omega)
            have hs1 := hf2 x
            have hs2 := hsum2 x (by omega)
            have hst : sumN f2 (x + 1) = sumN f2 x + f2 x := rfl
            have hfe : f2 x = min ((laneR g bs x).length : Int) (most - 1) := by rw [hf2e]
            have e3 : (if most - 1 < ((laneR g bs x).length : Int) then most - 1 else ((laneR g bs x).length : Int)) = f2 x := by rw [hfe]; omega
            have w2 : IntKind.i64.wrap (sumN f2 x + f2 x) = sumN f2 (x + 1) := by rw [hst]; exact Sz.w_64 (by omega) (by omega)
            simp (maxSteps := 2000000) -implicitDefEqProofs only [k1, ↓G7, ↓c29, s_alt, s_alt20, s_alt2t, s_alt2f, ↓s_loopi, ↓v_pq, ↓PRE, POST, CORE, Nat.reduceDiv, Nat.reduceMod, Int.reduceLT, Int.reduceLE, Int.reduceToNat, Int.reduceAdd, ↓reduceIte, Nat.reduceEqDiff, Nat.reduceAdd, Nat.reduceMul, Nat.reduceSub, Nat.reduceLeDiff, Nat.reduceLT, reduceCtorEq, if_true, eq_self, forall_const, implies_true]
            refine ⟨g, _, bs, x, rfl, hrd _, hb5, hg, k1, ?_⟩
            simp (maxSteps := 2000000) -implicitDefEqProofs only [intS_len, w1, wm, e3, w2, s_alt, s_alt20, s_alt2t, s_alt2f, ↓s_loopi, ↓v_pq, ↓PRE, POST, CORE, Nat.reduceDiv, Nat.reduceMod, Int.reduceLT, Int.reduceLE, Int.reduceToNat, Int.reduceAdd, ↓reduceIte, Nat.reduceEqDiff, Nat.reduceAdd, Nat.reduceMul, Nat.reduceSub, Nat.reduceLeDiff, Nat.reduceLT, reduceCtorEq, if_true, eq_self, forall_const, implies_true]
            exact (by refine ⟨[0, 1], by simp [NdL, NdA, oO_cells, oO_own, iL_nil], ?_, ?_, keep0 hJ⟩ <;> simp only [FitM, FitE, ObLe, LeL, Le, List.cons_append, List.nil_append] <;> (try (simp (maxSteps := 2000000) -implicitDefEqProofs only [iL_fold, iL_over, iL_all, iL_get, iL_len, iL_take, iL_drop, iL_one, iL_plain, iL_le, List.length_set, s_alt, s_alt20, s_alt2t, s_alt2f, ↓s_loopi, ↓v_pq, ↓PRE, POST, CORE, Nat.reduceDiv, Nat.reduceMod, Int.reduceLT, Int.reduceLE, Int.reduceToNat, Int.reduceAdd, ↓reduceIte, Nat.reduceEqDiff, Nat.reduceAdd, Nat.reduceMul, Nat.reduceSub, Nat.reduceLeDiff, Nat.reduceLT, reduceCtorEq, if_true, eq_self, forall_const, implies_true])) <;> (try simp only [Sz.Le, Sz.LeL, List.getElem?_cons_zero, List.getElem?_cons_succ]) <;> (try simp))
          · intro _
            have k1 : ¬ (C : Int) < g.ch := by omega
            have hee : ((R.length : Int) == (N : Int)) = true := by simp; omega
            by_cases hm0 : most = 0
            · have e0 : (most == 0) = true := by simpa using hm0
              simp (maxSteps := 2000000) -implicitDefEqProofs only [k1, wN, hee, e0, s_alt, s_alt20, s_alt2t, s_alt2f, ↓s_loopi, ↓v_pq, ↓PRE, POST, CORE, Nat.reduceDiv, Nat.reduceMod, Int.reduceLT, Int.reduceLE, Int.reduceToNat, Int.reduceAdd, ↓reduceIte, Nat.reduceEqDiff, Nat.reduceAdd, Nat.reduceMul, Nat.reduceSub, Nat.reduceLeDiff, Nat.reduceLT, reduceCtorEq, if_true, eq_self, forall_const, implies_true]
              exact hk
            · have e0 : (most == 0) = false := by simpa using hm0
              have hu := hunder hm0
              simp (maxSteps := 2000000) -implicitDefEqProofs only [k1, wN, hee, e0, hu, decide_true, s_alt, s_alt20, s_alt2t, s_alt2f, ↓s_loopi, ↓v_pq, ↓PRE, POST, CORE, Nat.reduceDiv, Nat.reduceMod, Int.reduceLT, Int.reduceLE, Int.reduceToNat, Int.reduceAdd, ↓reduceIte, Nat.reduceEqDiff, Nat.reduceAdd, Nat.reduceMul, Nat.reduceSub, Nat.reduceLeDiff, Nat.reduceLT, reduceCtorEq, if_true, eq_self, forall_const, implies_true]
              exact hk
end St
end Go.Proofs.Ytibefgdjijmncaa
end
section
namespace Go.Proofs.Ytibefgdjijmncaa
open Go.ChangeShapes Go.WideShapes Go.ChangeAt Go.RowKit Go.Deep
theorem add_plain' (g o j : Nat) : (⟨g, o, none⟩ : Addr).add j = ⟨g, o + j, none⟩ := by unfold Addr.add; split <;> simp_all
inductive Sh where
  | nil
  | int (k : IntKind) (r : Sh)
  | bool (r : Sh)
  | str (r : Sh)
  | sl (e : Sh) (r : Sh)
def Sh.len : Sh → Nat
  | .nil => 0
  | .int _ r | .bool r | .str r | .sl _ r => r.len + 1
def Sh.app : Sh → Sh → Sh
  | .nil, b => b
  | .int k r, b => .int k (r.app b)
  | .bool r, b => .bool (r.app b)
  | .str r, b => .str (r.app b)
  | .sl e r, b => .sl e (r.app b)
def Sh.rep (a : Sh) : Nat → Sh
  | 0 => .nil
  | n + 1 => a.app (a.rep n)
def SlFits (w : World) (v : Value) (sz : Nat) (F : List Value → Prop) : Prop :=
  ∃ A n c, v = .slice A n c ∧ n ≤ c ∧ c ≤ maxLen ∧ (A = none → c = 0) ∧
    ∀ a, A = some a → ∀ i, i < n → ∃ cs : List Value, cs.length = sz ∧ (∀ j u, cs[j]? = some u → w.cell? ((a.add (i * sz)).add j) = some u) ∧ F cs
def Sh.fits (w : World) : Sh → List Value → Prop
  | .nil, cs => cs = []
  | .int k r, cs => ∃ n cs', cs = .int k n :: cs' ∧ (Lit.int k n).wf = true ∧ r.fits w cs'
  | .bool r, cs => ∃ b cs', cs = .bool b :: cs' ∧ r.fits w cs'
  | .str r, cs => ∃ s cs', cs = .string s :: cs' ∧ s.size ≤ maxLen ∧ r.fits w cs'
  | .sl e r, cs => ∃ v cs', cs = v :: cs' ∧ SlFits w v e.len (e.fits w) ∧ r.fits w cs'
theorem Sh.fits_len {w : World} : ∀ {s : Sh} {cs : List Value}, s.fits w cs → cs.length = s.len
  | .nil, cs, h => by simp only [Sh.fits] at h; simp [h, Sh.len]
  | .int k r, cs, h => by obtain ⟨n, cs', rfl, _, h'⟩ := h; simp [Sh.len, Sh.fits_len h']
  | .bool r, cs, h => by obtain ⟨n, cs', rfl, h'⟩ := h; simp [Sh.len, Sh.fits_len h']
  | .str r, cs, h => by obtain ⟨n, cs', rfl, _, h'⟩ := h; simp [Sh.len, Sh.fits_len h']
  | .sl e r, cs, h => by obtain ⟨n, cs', rfl, _, h'⟩ := h; simp [Sh.len, Sh.fits_len h']
theorem Sh.fits_app {w : World} {b : Sh} {ds : List Value} (hb : b.fits w ds) : ∀ {a : Sh} {cs : List Value}, a.fits w cs → (a.app b).fits w (cs ++ ds)
  | .nil, cs, h => by simp only [Sh.fits] at h; subst h; simpa [Sh.app] using hb
  | .int k r, cs, h => by obtain ⟨n, cs', rfl, h1, h'⟩ := h; exact ⟨n, cs' ++ ds, rfl, h1, Sh.fits_app hb h'⟩
  | .bool r, cs, h => by obtain ⟨n, cs', rfl, h'⟩ := h; exact ⟨n, cs' ++ ds, rfl, Sh.fits_app hb h'⟩
  | .str r, cs, h => by obtain ⟨n, cs', rfl, h1, h'⟩ := h; exact ⟨n, cs' ++ ds, rfl, h1, Sh.fits_app hb h'⟩
  | .sl e r, cs, h => by obtain ⟨n, cs', rfl, h1, h'⟩ := h; exact ⟨n, cs' ++ ds, rfl, h1, Sh.fits_app hb h'⟩
theorem Sh.app_len : ∀ {a b : Sh}, (a.app b).len = a.len + b.len
  | .nil, b => by simp [Sh.app, Sh.len]
  | .int k r, b => by simp [Sh.app, Sh.len, Sh.app_len (a := r)]; omega
  | .bool r, b => by simp [Sh.app, Sh.len, Sh.app_len (a := r)]; omega
  | .str r, b => by simp [Sh.app, Sh.len, Sh.app_len (a := r)]; omega
  | .sl e r, b => by simp [Sh.app, Sh.len, Sh.app_len (a := r)]; omega
section
variable (P : Program)
def shFields (one : TypeId → Option Sh) : Nat → List Field → Option Sh
  | _, [] => some .nil
  | off, f :: fs => (one f.type).bind fun a => if f.offset = off ∧ P.cellsOf f.type = a.len then (shFields one (off + a.len) fs).map (a.app ·) else none
def shOf : Nat → TypeId → Option Sh
  | 0, _ => none
  | n + 1, t => match P.underlying t with
    | some .bool => some (.bool .nil)
    | some (.int k) => some (.int k .nil)
    | some .string => some (.str .nil)
    | some (.slice e) => (shOf n e).bind fun a => if P.cellsOf e = a.len then some (.sl a .nil) else none
    | some (.struct fs) => (shFields P (shOf n) 0 fs.toList).bind fun a => if P.cellsOf t = a.len then some a else none
    | some (.array k e) => (shOf n e).bind fun a => if P.cellsOf e = a.len ∧ P.cellsOf t = k * a.len then some (a.rep k) else none
    | _ => none
end
section
variable {P : Program} {H : Type} {enc : TypeId × Value → H} {w : World} {base : Nat} {spare : Nat → Bool} {held : Bool}
def isAggT (P : Program) (t : TypeId) : Bool := match P.underlying t with
  | some (.struct _) | some (.array _ _) => true
  | _ => false
end
theorem sl_open {w : World} {v : Value} {sz : Nat} {F : List Value → Prop} (h : SlFits w v sz F) (hsz : 0 < sz) :
    ∃ A n c, v = .slice A n c ∧ n ≤ c ∧ c ≤ maxLen ∧ (n = 0 ∨ ∃ g o, A = some ⟨g, o, none⟩ ∧ ∀ i, i < n → ∃ cs : List Value, cs.length = sz ∧ (∀ j u, cs[j]? = some u → w.cell? ⟨g, o + i * sz + j, none⟩ = some u) ∧ F cs) := by
  obtain ⟨A, n, c, rfl, hn, hc, hA, hcell⟩ := h
  refine ⟨A, n, c, rfl, hn, hc, ?_⟩
  rcases Nat.eq_zero_or_pos n with h0 | h0
  · exact .inl h0
  · right
    cases A with
    | none => have := hA rfl; omega
    | some a =>
      obtain ⟨g, o, spot⟩ := a
      obtain ⟨cs, hl, hg, _⟩ := hcell _ rfl 0 h0
      obtain ⟨x, hx⟩ : ∃ x, cs[0]? = some x := ⟨_, List.getElem?_eq_getElem (by omega)⟩
      have hc0 := hg 0 x hx
      have hspot : spot = Option.none := by simpa [Addr.add] using World.cell?_spot hc0
      subst hspot
      refine ⟨g, o, rfl, fun i hi => ?_⟩
      obtain ⟨cs, hl, hg, hF⟩ := hcell _ rfl i hi
      refine ⟨cs, hl, fun j u hj => ?_, hF⟩
      have := hg j u hj
      rwa [add_plain', add_plain'] at this
theorem list_of {α : Type} {p : Nat → α → Prop} : ∀ (n : Nat), (∀ i, i < n → ∃ x, p i x) → ∃ l : List α, l.length = n ∧ ∀ i x, l[i]? = some x → p i x
  | 0, _ => ⟨[], rfl, fun i x h => by simp at h⟩
  | n + 1, h => by
    obtain ⟨l, hl, hp⟩ := list_of n (fun i hi => h i (by omega))
    obtain ⟨x, hx⟩ := h n (by omega)
    refine ⟨l ++ [x], by simp [hl], fun i y hy => ?_⟩
    rcases Nat.lt_or_ge i n with hi | hi
    · rw [List.getElem?_append_left (by omega)] at hy; exact hp i y hy
    · rw [List.getElem?_append_right (by omega)] at hy
      have : i - l.length = 0 := by
        rcases Nat.eq_zero_or_pos (i - l.length) with h | h
        · exact h
        · rw [List.getElem?_eq_none (by simp; omega)] at hy; cases hy
      rw [this] at hy
      simp at hy
      subst hy
      have : i = n := by omega
      subst this; exact hx
theorem wf_bounds_u8 {n : Int} (h : (Lit.int .u8 n).wf = true) : 0 ≤ n ∧ n ≤ 255 := by
  simpa [Lit.wf, IntKind.min, IntKind.max, IntKind.signed, IntKind.bits] using h
end Go.Proofs.Ytibefgdjijmncaa
end
section
namespace Go.Proofs.Ytibefgdjijmncaa.Sz
open Go.RowKit
theorem rowV_get {α : Type} {cs : α → List Value} {z : Nat} (hz : ∀ x, (cs x).length = z) (h0 : 0 < z) : ∀ {l : List α} {j : Nat} {u : Value}, (rowV cs l)[j]? = some u → ∃ x, l[j / z]? = some x ∧ (cs x)[j % z]? = some u
  | [], j, u, h => by simp [rowV] at h
  | x :: l, j, u, h => by
    have e : rowV cs (x :: l) = cs x ++ rowV cs l := rfl
    rw [e] at h
    by_cases hj : j < z
    · rw [List.getElem?_append_left (by rw [hz]; exact hj)] at h
      exact ⟨x, by rw [Nat.div_eq_of_lt hj]; rfl, by rw [Nat.mod_eq_of_lt hj]; exact h⟩
    · rw [List.getElem?_append_right (by rw [hz]; omega), hz] at h
      obtain ⟨y, h1, h2⟩ := rowV_get hz h0 h
      refine ⟨y, ?_, ?_⟩
      · rw [Nat.div_eq_sub_div h0 (by omega)]
        simpa using h1
      · rw [Nat.mod_eq_sub_mod (by omega)]; exact h2
theorem rows_of_sl {α : Type} {cs : α → List Value} {z : Nat} (hz : ∀ x, (cs x).length = z) (h0 : 0 < z) {W : World} {v : Value} {F : List Value → Prop} {Q : α → Prop} (h : SlFits W v z F) (hF : ∀ l, F l → ∃ x, cs x = l ∧ Q x) :
    ∃ A n c l, v = .slice A n c ∧ n ≤ c ∧ c ≤ 9223372036854775807 ∧ l.length = n ∧ (∀ x ∈ l, Q x) ∧ @inpL (inpOf W) A (n * z) = some (rowV cs l) := by
  obtain ⟨A, n, c, rfl, hn, hc, hh⟩ := sl_open h h0
  have hc' : c ≤ 9223372036854775807 := by simpa [maxLen] using hc
  rcases hh with rfl | ⟨g, o, rfl, hcell⟩
  · exact ⟨A, 0, c, [], rfl, hn, hc', rfl, by simp, by simp [inpL, rowV]⟩
  · obtain ⟨l, hl, hp⟩ := list_of (p := fun i x => Q x ∧ ∀ j u, (cs x)[j]? = some u → W.cell? ⟨g, o + i * z + j, none⟩ = some u) n (fun i hi => by
      obtain ⟨us, _, h1, h2⟩ := hcell i hi
      obtain ⟨x, rfl, hq⟩ := hF us h2
      exact ⟨x, hq, h1⟩)
    refine ⟨_, n, c, l, rfl, hn, hc', hl, fun x hx => ?_, inpL_of (I := inpOf W) (by rw [rowV_len hz, hl]) fun _ => ⟨_, rfl, rfl, fun j u hj => ?_⟩⟩
    · obtain ⟨i, hi⟩ := List.getElem?_of_mem hx
      exact (hp i x hi).1
    · obtain ⟨x, h1, h2⟩ := rowV_get hz h0 hj
      have := (hp _ x h1).2 _ u h2
      show W.cell? ((⟨g, o, none⟩ : Addr).add j) = some u
      rw [Addr.add_lit]
      have e : o + j / z * z + j % z = o + j := by rw [Nat.add_assoc, Nat.mul_comm, Nat.div_add_mod]
      rwa [e] at this
end Go.Proofs.Ytibefgdjijmncaa.Sz
end
section
namespace Go.Proofs.Ytibefgdjijmncaa
open Go.ChangeShapes Go.WideShapes Go.ChangeAt Go.RowKit Go.Deep
inductive ShR where
  | nil
  | int (k : IntKind) (r : ShR)
  | bool (r : ShR)
  | str (r : ShR)
  | sl (b : Nat) (e : ShR) (r : ShR)
def ShR.len : ShR → Nat
  | .nil => 0
  | .int _ r | .bool r | .str r | .sl _ _ r => r.len + 1
def ShR.app : ShR → ShR → ShR
  | .nil, b => b
  | .int k r, b => .int k (r.app b)
  | .bool r, b => .bool (r.app b)
  | .str r, b => .str (r.app b)
  | .sl q e r, b => .sl q e (r.app b)
def ShR.rep (a : ShR) : Nat → ShR
  | 0 => .nil
  | n + 1 => a.app (a.rep n)
def SlFitsR (w : World) (v : Value) (sz b : Nat) (F : List Value → Prop) : Prop :=
  SlFits w v sz F ∧ ∀ A n c, v = .slice A n c → n * b ≤ reachBytes
def ShR.fits (w : World) : ShR → List Value → Prop
  | .nil, cs => cs = []
  | .int k r, cs => ∃ n cs', cs = .int k n :: cs' ∧ (Lit.int k n).wf = true ∧ r.fits w cs'
  | .bool r, cs => ∃ b cs', cs = .bool b :: cs' ∧ r.fits w cs'
  | .str r, cs => ∃ s cs', cs = .string s :: cs' ∧ s.size ≤ reachBytes ∧ r.fits w cs'
  | .sl q e r, cs => ∃ v cs', cs = v :: cs' ∧ SlFitsR w v e.len q (e.fits w) ∧ r.fits w cs'
theorem ShR.fits_len {w : World} : ∀ {s : ShR} {cs : List Value}, s.fits w cs → cs.length = s.len
  | .nil, cs, h => by simp only [ShR.fits] at h; simp [h, ShR.len]
  | .int k r, cs, h => by obtain ⟨n, cs', rfl, _, h'⟩ := h; simp [ShR.len, ShR.fits_len h']
  | .bool r, cs, h => by obtain ⟨n, cs', rfl, h'⟩ := h; simp [ShR.len, ShR.fits_len h']
  | .str r, cs, h => by obtain ⟨n, cs', rfl, _, h'⟩ := h; simp [ShR.len, ShR.fits_len h']
  | .sl q e r, cs, h => by obtain ⟨n, cs', rfl, _, h'⟩ := h; simp [ShR.len, ShR.fits_len h']
theorem ShR.fits_app {w : World} {b : ShR} {ds : List Value} (hb : b.fits w ds) : ∀ {a : ShR} {cs : List Value}, a.fits w cs → (a.app b).fits w (cs ++ ds)
  | .nil, cs, h => by simp only [ShR.fits] at h; subst h; simpa [ShR.app] using hb
  | .int k r, cs, h => by obtain ⟨n, cs', rfl, h1, h'⟩ := h; exact ⟨n, cs' ++ ds, rfl, h1, ShR.fits_app hb h'⟩
  | .bool r, cs, h => by obtain ⟨n, cs', rfl, h'⟩ := h; exact ⟨n, cs' ++ ds, rfl, ShR.fits_app hb h'⟩
  | .str r, cs, h => by obtain ⟨n, cs', rfl, h1, h'⟩ := h; exact ⟨n, cs' ++ ds, rfl, h1, ShR.fits_app hb h'⟩
  | .sl q e r, cs, h => by obtain ⟨n, cs', rfl, h1, h'⟩ := h; exact ⟨n, cs' ++ ds, rfl, h1, ShR.fits_app hb h'⟩
theorem ShR.app_len : ∀ {a b : ShR}, (a.app b).len = a.len + b.len
  | .nil, b => by simp [ShR.app, ShR.len]
  | .int k r, b => by simp [ShR.app, ShR.len, ShR.app_len (a := r)]; omega
  | .bool r, b => by simp [ShR.app, ShR.len, ShR.app_len (a := r)]; omega
  | .str r, b => by simp [ShR.app, ShR.len, ShR.app_len (a := r)]; omega
  | .sl q e r, b => by simp [ShR.app, ShR.len, ShR.app_len (a := r)]; omega
section
variable (P : Program)
def shFieldsR (one : TypeId → Option ShR) : Nat → List Field → Option ShR
  | _, [] => some .nil
  | off, f :: fs => (one f.type).bind fun a => if f.offset = off ∧ P.cellsOf f.type = a.len then (shFieldsR one (off + a.len) fs).map (a.app ·) else none
def shOfR : Nat → TypeId → Option ShR
  | 0, _ => none
  | n + 1, t => match P.underlying t with
    | some .bool => some (.bool .nil)
    | some (.int k) => some (.int k .nil)
    | some .string => some (.str .nil)
    | some (.slice e) => (shOfR n e).bind fun a => if P.cellsOf e = a.len then some (.sl (P.bytesOf e) a .nil) else none
    | some (.struct fs) => (shFieldsR P (shOfR n) 0 fs.toList).bind fun a => if P.cellsOf t = a.len then some a else none
    | some (.array k e) => (shOfR n e).bind fun a => if P.cellsOf e = a.len ∧ P.cellsOf t = k * a.len then some (a.rep k) else none
    | _ => none
end
section
variable {P : Program} {H : Type} {enc : TypeId × Value → H} {w : World} {base : Nat} {spare : Nat → Bool} {held : Bool}
theorem weightsAll_mem {e : TypeId} : ∀ {l : List (DataW H)} {d : DataW H}, d ∈ l → ∀ {q : Nat}, q ∈ d.weights P e → q ∈ DataW.weightsAll P e l
  | [], d, h, q, hq => by simp at h
  | x :: l, d, h, q, hq => by
    simp only [DataW.weightsAll, List.mem_append]
    rcases List.mem_cons.1 h with rfl | h
    · exact .inl hq
    · exact .inr (weightsAll_mem h hq)
theorem fieldsR_fit {one : TypeId → Option ShR} {m : Nat} {cs : List Value} (ih : ∀ t sh ds x, one t = some sh → DataW.trod enc P w base spare held m t ds = some x → (∀ q ∈ x.1.weights P t, q ≤ reachBytes) → sh.fits w ds) :
    ∀ (fs : List Field) (off : Nat) (sh : ShR), shFieldsR P one off fs = some sh → (∀ f ∈ fs, ∃ y, DataW.trod enc P w base spare held m f.type ((cs.drop f.offset).take (P.cellsOf f.type)) = some y ∧ (∀ q ∈ y.1.weights P f.type, q ≤ reachBytes)) →
      cs.length = off + sh.len → sh.fits w (cs.drop off)
  | [], off, sh, h, _, hl => by
    simp only [shFieldsR, Option.some.injEq] at h
    subst h
    simp only [ShR.len, Nat.add_zero] at hl
    show cs.drop off = []
    rw [List.drop_eq_nil_iff]; omega
  | f :: fs, off, sh, h, hf, hl => by
    simp only [shFieldsR, Option.bind_eq_some_iff] at h
    obtain ⟨a, ha, h⟩ := h
    split at h
    · rename_i hc
      obtain ⟨ho, hk⟩ := hc
      simp only [Option.map_eq_some_iff] at h
      obtain ⟨b, hb, rfl⟩ := h
      rw [ShR.app_len] at hl
      obtain ⟨y, hy, hyw⟩ := hf f (by simp)
      rw [ho, hk] at hy
      have h1 := ih _ _ _ _ ha hy hyw
      have h2 := fieldsR_fit ih fs (off + a.len) b hb (fun g hg => hf g (by simp [hg])) (by omega)
      have e : cs.drop off = (cs.drop off).take a.len ++ cs.drop (off + a.len) := by
        rw [← List.drop_drop, List.take_append_drop]
      rw [e]
      exact ShR.fits_app h2 h1
    · cases h
theorem arrayR_fit {m : Nat} {cs : List Value} {e : TypeId} {a : ShR} (ih : ∀ ds x, DataW.trod enc P w base spare held m e ds = some x → (∀ q ∈ x.1.weights P e, q ≤ reachBytes) → a.fits w ds) :
    ∀ (k i : Nat), (∀ j, i ≤ j → j < i + k → ∃ y, DataW.trod enc P w base spare held m e ((cs.drop (j * a.len)).take a.len) = some y ∧ (∀ q ∈ y.1.weights P e, q ≤ reachBytes)) → cs.length = (i + k) * a.len → (a.rep k).fits w (cs.drop (i * a.len))
  | 0, i, _, hl => by
    show cs.drop _ = []
    rw [List.drop_eq_nil_iff]; simp at hl; omega
  | k + 1, i, hf, hl => by
    obtain ⟨y, hy, hyw⟩ := hf i (Nat.le_refl _) (by omega)
    have h1 := ih _ _ hy hyw
    have h2 := arrayR_fit ih k (i + 1) (fun j h1 h2 => hf j (by omega) (by omega)) (by rw [hl]; congr 1; omega)
    have e : cs.drop (i * a.len) = (cs.drop (i * a.len)).take a.len ++ cs.drop ((i + 1) * a.len) := by
      rw [Nat.add_mul, Nat.one_mul, ← List.drop_drop, List.take_append_drop]
    rw [e]
    exact ShR.fits_app h2 h1
theorem fitsR_of_trod : ∀ (n : Nat) (t : TypeId) (sh : ShR) (fuel : Nat) (cs : List Value) (x : DataW H × List MemPlace), shOfR P n t = some sh → DataW.trod enc P w base spare held fuel t cs = some x → (∀ q ∈ x.1.weights P t, q ≤ reachBytes) → sh.fits w cs
  | 0, _, _, _, _, _, h, _, _ => by simp [shOfR] at h
  | n + 1, t, sh, fuel, cs, x, h, ht, hz => by
    unfold shOfR at h
    split at h
    · rename_i hu
      obtain ⟨b, rfl, _⟩ := DataW.trod_bool hu ht
      simp only [Option.some.injEq] at h; subst h
      exact ⟨b, [], rfl, rfl⟩
    · rename_i k hu
      obtain ⟨z, rfl, _, hw⟩ := DataW.trod_int hu ht
      simp only [Option.some.injEq] at h; subst h
      exact ⟨z, [], rfl, hw, rfl⟩
    · rename_i hu
      obtain ⟨z, rfl, rfl, hw⟩ := DataW.trod_string hu ht
      simp only [Option.some.injEq] at h; subst h
      have hz1 := hz z.data.toList.length (by simp [DataW.weights])
      exact ⟨z, [], rfl, by rw [Array.length_toList] at hz1; exact hz1, rfl⟩
    · rename_i e hu
      simp only [Option.bind_eq_some_iff] at h
      obtain ⟨a, ha, h⟩ := h
      split at h
      · rename_i hc
        simp only [Option.some.injEq] at h; subst h
        rcases open_slice hu ht with ⟨rfl, _⟩ | ⟨ad, len, cap, m, f, D, Pl, rfl, _, hl, hm, hmm, rfl, hi⟩
        · exact ⟨_, [], rfl, ⟨⟨Option.none, 0, 0, rfl, Nat.le_refl _, Nat.zero_le _, fun _ => rfl, fun a ha => by cases ha⟩, fun A n c hv => by cases hv; omega⟩, rfl⟩
        · have hzl : len * P.bytesOf e ≤ reachBytes := by
            have h1 := hz ((((List.range len).map D).length + ((List.range (m - len)).map fun j => D (len + j)).length) * P.bytesOf e) (by simp [DataW.weights, hu])
            refine Nat.le_trans (Nat.mul_le_mul_right _ ?_) h1
            simp
          refine ⟨_, [], rfl, ⟨⟨some ad, len, cap, rfl, hl, hm, ?_, fun a' ha' i hilt => ?_⟩, fun A n c hv => by cases hv; exact hzl⟩, rfl⟩
          · intro h; cases h
          simp only [Option.some.injEq] at ha'
          subst ha'
          have him : i < m := by rw [hmm]; split <;> omega
          obtain ⟨cs', hc', ht'⟩ := hi i him
          obtain ⟨_, hlen, hget⟩ := World.cells?_some hc'
          rw [hc] at hlen hget
          refine ⟨cs', hlen, fun j u hj => ?_, fitsR_of_trod n e a f cs' _ ha ht' fun q hq => hz q ?_⟩
          rotate_left
          · simp only [DataW.weights, hu, List.mem_cons, List.mem_append]
            exact .inr (.inl (weightsAll_mem (List.mem_map.2 ⟨i, by simpa using hilt, rfl⟩) hq))
          have hjl : j < cs'.length := (List.getElem?_eq_some_iff.1 hj).1
          rw [hget j (by omega)]; exact hj
      · cases h
    · rename_i fs hu
      simp only [Option.bind_eq_some_iff] at h
      obtain ⟨a, ha, h⟩ := h
      split at h
      · rename_i hc
        simp only [Option.some.injEq] at h; subst h
        obtain ⟨xs, m, _, rfl, hl, hxl, hf⟩ := DataW.trod_struct hu ht
        have := fieldsR_fit (cs := cs) (m := m) (enc := enc) (base := base) (spare := spare) (held := held) (w := w) (fun t sh ds x h1 h2 h3 => fitsR_of_trod n t sh m ds x h1 h2 h3) fs.toList 0 a ha (fun f hf' => ?_) (by omega)
        · simpa using this
        · obtain ⟨i, hi, hfi⟩ := List.getElem_of_mem hf'
          have hfi' : fs[i]? = some f := by rw [← hfi, Array.getElem_toList, Array.getElem?_eq_getElem]
          have h3 := hf i f hfi'
          have hlt : i < xs.length := by rw [hxl]; simpa using hi
          refine ⟨xs[i], by rw [h3]; exact List.getElem?_eq_getElem hlt, fun q hq => hz q ?_⟩
          simp only [DataW.weights, hu]
          exact DataW.weights_mem_each (j := i) (t := f.type) (d := xs[i].1) (by simp [hfi']) (by simp [hlt]) q hq
      · cases h
    · rename_i k e hu
      simp only [Option.bind_eq_some_iff] at h
      obtain ⟨a, ha, h⟩ := h
      split at h
      · rename_i hc
        obtain ⟨hc1, hc2⟩ := hc
        simp only [Option.some.injEq] at h; subst h
        obtain ⟨xs, m, _, rfl, hl, hxl, hf⟩ := DataW.trod_array hu ht
        rw [hc1] at hf
        have := arrayR_fit (cs := cs) (m := m) (enc := enc) (base := base) (spare := spare) (held := held) (w := w) (P := P) (fun ds x h2 h3 => fitsR_of_trod n e a m ds x ha h2 h3) k 0 (fun j _ hj => ?_) (by rw [hl, hc2, Nat.zero_add])
        · simpa using this
        · have hlt : j < xs.length := by omega
          refine ⟨xs[j], by rw [hf j (by omega)]; exact List.getElem?_eq_getElem hlt, fun q hq => hz q ?_⟩
          simp only [DataW.weights, hu]
          exact weightsAll_mem (List.mem_map.2 ⟨xs[j], List.getElem_mem _, rfl⟩) hq
      · cases h
    · cases h
theorem openR_any {t : TypeId} {v : Value} {d : DataW H} {p : List MemPlace} {n : Nat} {sh : ShR} (hs : shOfR P n t = some sh) (h : DataW.Trod enc P w base spare held t v d p) (hz : ∀ q ∈ d.weights P t, q ≤ reachBytes) : sh.fits w v.cells.toList := by
  obtain ⟨fuel, hf⟩ := h
  exact fitsR_of_trod n t sh fuel _ _ hs hf hz
theorem openR_aggs {t : TypeId} {v : Value} {d : DataW H} {p : List MemPlace} {n b : Nat} {r : Reach} {sh : ShR} (hu : isAggT P t = true) (hs : shOfR P n t = some sh) (hv : Value.okWide P w r b t v) (h : DataW.Trod enc P w base spare held t v d p) (hz : ∀ q ∈ d.weights P t, q ≤ reachBytes) :
    ∃ cs : List Value, v = .agg cs.toArray ∧ sh.fits w cs := by
  have hf := openR_any hs h hz
  unfold Value.okWide at hv
  unfold isAggT at hu
  split at hv
  · obtain ⟨cs, rfl, _⟩ := hv
    exact ⟨cs.toList, by simp, hf⟩
  · obtain ⟨cs, rfl, _⟩ := hv
    exact ⟨cs.toList, by simp, hf⟩
  · split at hu <;> simp_all
theorem openR_sls {t e : TypeId} {v : Value} {d : DataW H} {p : List MemPlace} {n b : Nat} {r : Reach} {a : ShR} {y : Nat} (hu : P.underlying t = some (.slice e)) (hs : shOfR P n t = some (.sl y a .nil)) (hv : Value.okWide P w r b t v) (h : DataW.Trod enc P w base spare held t v d p) (hz : ∀ q ∈ d.weights P t, q ≤ reachBytes) :
    SlFitsR w v a.len y (a.fits w) := by
  have hf := openR_any hs h hz
  obtain ⟨A, l, c, rfl⟩ := okWide_slice hu hv
  obtain ⟨x, cs', he, hx, _⟩ := hf
  simp only [Value.cells, List.cons.injEq] at he
  rw [he.1]; exact hx
end
end Go.Proofs.Ytibefgdjijmncaa
end
