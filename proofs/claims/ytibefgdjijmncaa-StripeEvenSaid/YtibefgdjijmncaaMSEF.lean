/- Walks and plain facts for the law StripeEven, part MSEF. No condition. -/
import Derived.Test.YtibefgdjijmncaaMSEE
import Derived.Test.YtibefgdjijmncaaMSED
set_option linter.unusedVariables false
set_option linter.unusedSimpArgs false
section
namespace Go.Proofs.Ytibefgdjijmncaa
open Go.RowKit Sz
set_option maxHeartbeats 8000000
set_option maxRecDepth 20000
namespace St
-- almshouse/almshouseref37.has (2 parameters)
def x67 : XC := (.seq (.tree (.seq ⟨some 4, none, (.ofA (.mv (.cst (.v (.bool false)))))⟩
 .done))
 (.seq (.seq (.tree (.seq ⟨some 7, none, (.ofA (.mv (.tmp 0)))⟩
 (.seq ⟨some 8, none, (.ofA (.len (.tmp 7)))⟩
 (.seq ⟨some 9, none, (.ofA (.mv (.cst (.v (.int .i64 0)))))⟩
 .done))))
 (.block 0 (.loop (.seq (.tree (.seq ⟨some 10, none, (.ofA (.bin .lss (.tmp 9) (.tmp 8)))⟩
 .done))
 (.seq (.cond (.tmp 10)
 .skip
 (.exit 0))
 (.seq (.block 1 (.seq (.tree (.seq ⟨some 11, none, (.ofA (.isl 1 (.tmp 7) (.tmp 9)))⟩
 (.seq ⟨some 12, none, (.ofA (.load none (.tmp 11)))⟩
 (.seq ⟨some 6, none, (.ofA (.mv (.tmp 12)))⟩
 .done))))
 (.seq (.tree (.seq ⟨some 13, none, (.ofA (.mv (.tmp 6)))⟩
 (.seq ⟨some 14, none, (.ofA (.mv (.tmp 1)))⟩
 (.seq ⟨some 15, none, (.ofA (.bin .eql (.tmp 13) (.tmp 14)))⟩
 .done))))
 (.cond (.tmp 15)
 (.seq (.tree (.seq ⟨some 4, none, (.ofA (.mv (.cst (.v (.bool true)))))⟩
 .done))
 .ret)
 .skip))))
 (.tree (.seq ⟨some 16, none, (.ofA (.bin .add (.tmp 9) (.cst (.v (.int .i64 1)))))⟩
 (.seq ⟨some 9, none, (.ofA (.mv (.tmp 16)))⟩
 .done)))))))))
 (.seq (.tree (.seq ⟨some 4, none, (.ofA (.mv (.cst (.v (.bool false)))))⟩
 .done))
 .ret)))
def r67 : List XR := [.tmp 4]
theorem fn67 : FnX Try.prog 67 [64, 106] 17 x67 r67 := ⟨_, Try.func67, by kernel_rfl, by kernel_rfl, by kernel_rfl, by kernel_rfl⟩
-- almshouse/almshouseref37.Lane (3 parameters)
def x29 : XC := (.seq (.tree (.seq ⟨some 3, none, (.box (.tmp 0))⟩
 (.seq ⟨some 6, none, (.ofA (.mv (.cst (.v (.slice none 0 0)))))⟩
 .done)))
 (.seq (.tree (.seq ⟨some 7, none, (.ofA (.mv (.cst (.v (.slice none 0 0)))))⟩
 .done))
 (.seq (.seq (.tree (.seq ⟨some 9, none, (.ofA (.mv (.tmp 2)))⟩
 (.seq ⟨some 8, none, (.ofA (.mv (.tmp 9)))⟩
 .done)))
 (.block 0 (.loop (.seq (.seq (.tree (.seq ⟨some 10, none, (.ofA (.mv (.tmp 8)))⟩
 (.seq ⟨some 11, none, (.ofA (.faddr 0 (.tmp 3)))⟩
 (.seq ⟨some 12, none, (.ofA (.load none (.tmp 11)))⟩
 (.seq ⟨some 13, none, (.ofA (.faddr 1 (.tmp 3)))⟩
 (.seq ⟨some 14, none, (.ofA (.load none (.tmp 13)))⟩
 (.seq ⟨some 15, none, (.ofA (.bin .mul (.tmp 12) (.tmp 14)))⟩
 (.seq ⟨some 16, none, (.ofA (.faddr 2 (.tmp 3)))⟩
 (.seq ⟨some 17, none, (.ofA (.load none (.tmp 16)))⟩
 (.seq ⟨some 18, none, (.ofA (.bin .mul (.tmp 15) (.tmp 17)))⟩
 (.seq ⟨some 19, none, (.ofA (.bin .lss (.tmp 10) (.tmp 18)))⟩
 .done)))))))))))
 (.cond (.tmp 19)
 .skip
 (.exit 0)))
 (.seq (.block 1 (.seq (.tree (.seq ⟨some 24, none, (.ofA (.mv (.tmp 1)))⟩
 (.seq ⟨some 25, none, (.ofA (.mv (.tmp 8)))⟩
 (.seq ⟨some 26, none, (.call (.cst (.fn 67 [])) [(.tmp 24), (.tmp 25)])⟩
 .done))))
 (.cond (.tmp 26)
 (.tree (.seq ⟨some 27, none, (.ofA (.mv (.tmp 7)))⟩
 (.seq ⟨some 28, none, (.ofA (.mv (.tmp 8)))⟩
 (.seq ⟨some 29, none, (.buildSl 1 1 [(.v (.int .i64 0))] [(0, 1, (.tmp 28))])⟩
 (.seq ⟨some 30, none, (.app 1 8 (.tmp 27) (.tmp 29))⟩
 (.seq ⟨some 7, none, (.ofA (.mv (.tmp 30)))⟩
 .done))))))
 .skip)))
 (.tree (.seq ⟨some 20, none, (.ofA (.mv (.tmp 8)))⟩
 (.seq ⟨some 21, none, (.ofA (.faddr 0 (.tmp 3)))⟩
 (.seq ⟨some 22, none, (.ofA (.load none (.tmp 21)))⟩
 (.seq ⟨some 23, none, (.ofA (.bin .add (.tmp 20) (.tmp 22)))⟩
 (.seq ⟨some 8, none, (.ofA (.mv (.tmp 23)))⟩
 .done)))))))))))
 (.seq (.tree (.seq ⟨some 31, none, (.ofA (.mv (.tmp 7)))⟩
 (.seq ⟨some 6, none, (.ofA (.mv (.tmp 31)))⟩
 .done)))
 .ret))))
def r29 : List XR := [.tmp 6]
theorem fn29 : FnX Try.prog 29 [64, 106] 32 x29 r29 := ⟨_, Try.func29, by kernel_rfl, by kernel_rfl, by kernel_rfl, by kernel_rfl⟩
-- almshouse/almshouseref37.Loads (2 parameters)
def x26 : XC := (.seq (.tree (.seq ⟨some 2, none, (.box (.tmp 0))⟩
 (.seq ⟨some 4, none, (.ofA (.mv (.cst (.v (.slice none 0 0)))))⟩
 .done)))
 (.seq (.tree (.seq ⟨some 8, none, (.ofA (.faddr 0 (.tmp 2)))⟩
 (.seq ⟨some 9, none, (.ofA (.load none (.tmp 8)))⟩
 (.seq ⟨some 10, none, (.mkSl 1 8 [(.v (.int .i64 0))] (.tmp 9) (.tmp 9))⟩
 (.seq ⟨some 5, none, (.ofA (.mv (.tmp 10)))⟩
 .done)))))
 (.seq (.seq (.tree (.seq ⟨some 11, none, (.ofA (.mv (.tmp 1)))⟩
 (.seq ⟨some 12, none, (.ofA (.len (.tmp 11)))⟩
 (.seq ⟨some 13, none, (.ofA (.mv (.cst (.v (.int .i64 0)))))⟩
 .done))))
 (.block 0 (.loop (.seq (.tree (.seq ⟨some 14, none, (.ofA (.bin .lss (.tmp 13) (.tmp 12)))⟩
 .done))
 (.seq (.cond (.tmp 14)
 .skip
 (.exit 0))
 (.seq (.block 1 (.seq (.tree (.seq ⟨some 15, none, (.ofA (.isl 1 (.tmp 11) (.tmp 13)))⟩
 (.seq ⟨some 16, none, (.ofA (.load none (.tmp 15)))⟩
 (.seq ⟨some 7, none, (.ofA (.mv (.tmp 16)))⟩
 .done))))
 (.seq (.tree (.seq ⟨some 17, none, (.ofA (.mv (.tmp 7)))⟩
 (.seq ⟨some 18, none, (.ofA (.bin .geq (.tmp 17) (.cst (.v (.int .i64 0)))))⟩
 (.seq ⟨some 19, none, (.ofA (.mv (.tmp 18)))⟩
 (.seq ⟨some 20, some (19, true), (.ofA (.mv (.tmp 7)))⟩
 (.seq ⟨some 21, some (19, true), (.ofA (.faddr 0 (.tmp 2)))⟩
 (.seq ⟨some 22, some (19, true), (.ofA (.load none (.tmp 21)))⟩
 (.seq ⟨some 23, some (19, true), (.ofA (.faddr 1 (.tmp 2)))⟩
 (.seq ⟨some 24, some (19, true), (.ofA (.load none (.tmp 23)))⟩
 (.seq ⟨some 25, some (19, true), (.ofA (.bin .mul (.tmp 22) (.tmp 24)))⟩
 (.seq ⟨some 26, some (19, true), (.ofA (.faddr 2 (.tmp 2)))⟩
 (.seq ⟨some 27, some (19, true), (.ofA (.load none (.tmp 26)))⟩
 (.seq ⟨some 28, some (19, true), (.ofA (.bin .mul (.tmp 25) (.tmp 27)))⟩
 (.seq ⟨some 29, some (19, true), (.ofA (.bin .lss (.tmp 20) (.tmp 28)))⟩
 (.seq ⟨some 30, none, (.ofA (.pick (.tmp 19) (.tmp 29) (.cst (.v (.bool false)))))⟩
 .done)))))))))))))))
 (.cond (.tmp 30)
 (.tree (.take ⟨some 31, none, (.ofA (.mv (.tmp 5)))⟩
 (.take ⟨some 32, none, (.ofA (.mv (.tmp 7)))⟩
 (.take ⟨some 33, none, (.ofA (.faddr 0 (.tmp 2)))⟩
 (.take ⟨some 34, none, (.ofA (.load none (.tmp 33)))⟩
 (.take ⟨some 35, none, (.ofA (.bin .rem (.tmp 32) (.tmp 34)))⟩
 (.take ⟨some 36, none, (.ofA (.mv (.tmp 5)))⟩
 (.take ⟨some 37, none, (.ofA (.mv (.tmp 7)))⟩
 (.take ⟨some 38, none, (.ofA (.faddr 0 (.tmp 2)))⟩
 (.take ⟨some 39, none, (.ofA (.load none (.tmp 38)))⟩
 (.take ⟨some 40, none, (.ofA (.bin .rem (.tmp 37) (.tmp 39)))⟩
 (.take ⟨some 41, none, (.ofA (.isl 1 (.tmp 36) (.tmp 40)))⟩
 (.take ⟨some 42, none, (.ofA (.load none (.tmp 41)))⟩
 (.take ⟨some 43, none, (.ofA (.bin .add (.tmp 42) (.cst (.v (.int .i64 1)))))⟩
 (.take ⟨some 44, none, (.ofA (.isl 1 (.tmp 31) (.tmp 35)))⟩
 (.alt [false] [(⟨none, none, (.store 1 (.tmp 44) (.tmp 43))⟩,
 .done)]))))))))))))))))
 .skip))))
 (.tree (.seq ⟨some 45, none, (.ofA (.bin .add (.tmp 13) (.cst (.v (.int .i64 1)))))⟩
 (.seq ⟨some 13, none, (.ofA (.mv (.tmp 45)))⟩
 .done)))))))))
 (.seq (.tree (.seq ⟨some 46, none, (.ofA (.mv (.tmp 5)))⟩
 (.seq ⟨some 4, none, (.ofA (.mv (.tmp 46)))⟩
 .done)))
 .ret))))
def r26 : List XR := [.tmp 4]
theorem fn26 : FnX Try.prog 26 [64, 106] 47 x26 r26 := ⟨_, Try.func26, by kernel_rfl, by kernel_rfl, by kernel_rfl, by kernel_rfl⟩
-- almshouse/almshouselaw37.same (2 parameters)
def x27 : XC := (.seq (.tree (.seq ⟨some 4, none, (.ofA (.mv (.cst (.v (.bool false)))))⟩
 .done))
 (.seq (.seq (.tree (.seq ⟨some 6, none, (.ofA (.mv (.tmp 0)))⟩
 (.seq ⟨some 7, none, (.ofA (.len (.tmp 6)))⟩
 (.seq ⟨some 8, none, (.ofA (.mv (.tmp 1)))⟩
 (.seq ⟨some 9, none, (.ofA (.len (.tmp 8)))⟩
 (.seq ⟨some 10, none, (.ofA (.bin .neq (.tmp 7) (.tmp 9)))⟩
 .done))))))
 (.cond (.tmp 10)
 (.seq (.tree (.seq ⟨some 4, none, (.ofA (.mv (.cst (.v (.bool false)))))⟩
 .done))
 .ret)
 .skip))
 (.seq (.seq (.tree (.seq ⟨some 11, none, (.ofA (.mv (.tmp 0)))⟩
 (.seq ⟨some 12, none, (.ofA (.len (.tmp 11)))⟩
 (.seq ⟨some 13, none, (.ofA (.mv (.cst (.v (.int .i64 0)))))⟩
 .done))))
 (.block 0 (.loop (.seq (.tree (.seq ⟨some 14, none, (.ofA (.bin .lss (.tmp 13) (.tmp 12)))⟩
 .done))
 (.seq (.cond (.tmp 14)
 .skip
 (.exit 0))
 (.seq (.block 1 (.seq (.tree (.seq ⟨some 15, none, (.ofA (.mv (.tmp 13)))⟩
 (.seq ⟨some 5, none, (.ofA (.mv (.tmp 15)))⟩
 .done)))
 (.seq (.tree (.take ⟨some 16, none, (.ofA (.mv (.tmp 0)))⟩
 (.take ⟨some 17, none, (.ofA (.mv (.tmp 5)))⟩
 (.take ⟨some 18, none, (.ofA (.isl 1 (.tmp 16) (.tmp 17)))⟩
 (.take ⟨some 19, none, (.ofA (.load none (.tmp 18)))⟩
 (.take ⟨some 20, none, (.ofA (.mv (.tmp 1)))⟩
 (.take ⟨some 21, none, (.ofA (.mv (.tmp 5)))⟩
 (.take ⟨some 22, none, (.ofA (.isl 1 (.tmp 20) (.tmp 21)))⟩
 (.take ⟨some 23, none, (.ofA (.load none (.tmp 22)))⟩
 (.take ⟨some 24, none, (.ofA (.bin .neq (.tmp 19) (.tmp 23)))⟩
 .done))))))))))
 (.cond (.tmp 24)
 (.seq (.tree (.seq ⟨some 4, none, (.ofA (.mv (.cst (.v (.bool false)))))⟩
 .done))
 .ret)
 .skip))))
 (.tree (.seq ⟨some 25, none, (.ofA (.bin .add (.tmp 13) (.cst (.v (.int .i64 1)))))⟩
 (.seq ⟨some 13, none, (.ofA (.mv (.tmp 25)))⟩
 .done)))))))))
 (.seq (.tree (.seq ⟨some 4, none, (.ofA (.mv (.cst (.v (.bool true)))))⟩
 .done))
 .ret))))
def r27 : List XR := [.tmp 4]
theorem fn27 : FnX Try.prog 27 [64, 106] 26 x27 r27 := ⟨_, Try.func27, by kernel_rfl, by kernel_rfl, by kernel_rfl, by kernel_rfl⟩
def c67 [Inp] : Trans := fun args m k => ∃ (s : SV) (bs : List Int) (n : Int), args = [s, .v (.int .i64 n)] ∧ rdI m s = some bs ∧ bs.length ≤ 1000000 ∧ k (.v (.bool (decide (n ∈ bs)))) m
theorem c67_ok [I : Inp] : Contract Try.prog 67 true c67 := by
  refine .read fn67 (G := fun J => []) (fun J => @g0 J _) _ fun args m k h => ?_
  obtain ⟨s, bs, n, rfl, hb, hmax, hk⟩ := h
  refine ⟨by simp, fun J hJ us hus => ?_⟩
  obtain ⟨u, t1, rfl, hu1, u2, t2, rfl, hu2, rfl⟩ := hus
  obtain ⟨p, cc, rfl, hin⟩ := rdI_knows hb hu1
  obtain rfl := hu2.1 _ rfl
  rw [List.map_cons, List.map_cons, List.map_nil]
  simp (maxSteps := 2000000) -implicitDefEqProofs only [↓x67, ↓r67, s_alt, s_alt20, s_alt2t, s_alt2f, ↓s_loopi, ↓v_pq, ↓PRE, POST, CORE, Nat.reduceDiv, Nat.reduceMod, Int.reduceLT, Int.reduceLE, Int.reduceToNat, Int.reduceAdd, ↓reduceIte, Nat.reduceEqDiff, Nat.reduceAdd, Nat.reduceMul, Nat.reduceSub, Nat.reduceLeDiff, Nat.reduceLT, reduceCtorEq, if_true, eq_self, forall_const, implies_true]
  refine TXi_of (TX_count (g0 _) bs.length (fun x => [(1, .v (.int .i64 n)), (7, .v (.slice p bs.length cc)), (8, .v (.int .i64 (bs.length : Int))), (9, .v (.int .i64 (x : Int)))]) (fun _ => []) (fun x => ¬ n ∈ bs.take x) (by simp) (by refine ⟨[], by simp [NdL, NdA, oO_cells, oO_own, iL_nil], ?_, ?_, keep0 hJ⟩ <;> simp only [FitM, FitE, ObLe, LeL, Le, List.cons_append, List.nil_append] <;> (try (simp (maxSteps := 2000000) -implicitDefEqProofs only [s_alt, s_alt20, s_alt2t, s_alt2f, ↓s_loopi, ↓v_pq, ↓PRE, POST, CORE, Nat.reduceDiv, Nat.reduceMod, Int.reduceLT, Int.reduceLE, Int.reduceToNat, Int.reduceAdd, ↓reduceIte, Nat.reduceEqDiff, Nat.reduceAdd, Nat.reduceMul, Nat.reduceSub, Nat.reduceLeDiff, Nat.reduceLT, reduceCtorEq, if_true, eq_self, forall_const, implies_true])) <;> (try simp only [Sz.Le, Sz.LeL, List.getElem?_cons_zero, List.getElem?_cons_succ]) <;> (try simp)) ?_ ?_)
  · intro x hx hno
    obtain ⟨b, hb0⟩ : ∃ b, bs[x]? = some b := ⟨_, List.getElem?_eq_getElem hx⟩
    have f : inpL (plusA p x) 1 = some [.int .i64 b] := inpI_at hin hb0
    have hp : p.isSome = true := inpL_isSome hin (by omega)
    have j0 : (0 : Int) ≤ (x : Int) := by omega
    have j1 : (x : Int) < (bs.length : Int) := by omega
    have w1 : IntKind.i64.wrap ((x : Int) + 1) = (x : Int) + 1 := Sz.w_64 (by omega) (by omega)
    rw [take_snoc hb0]
    by_cases e : b = n
    · have he : (b == n) = true := by simpa using e
      have hmem : n ∈ bs := e ▸ List.mem_of_getElem? hb0
      rw [decide_eq_true hmem] at hk
      simp (maxSteps := 2000000) -implicitDefEqProofs only [j0, j1, f, hp, he, s_alt, s_alt20, s_alt2t, s_alt2f, ↓s_loopi, ↓v_pq, ↓PRE, POST, CORE, Nat.reduceDiv, Nat.reduceMod, Int.reduceLT, Int.reduceLE, Int.reduceToNat, Int.reduceAdd, ↓reduceIte, Nat.reduceEqDiff, Nat.reduceAdd, Nat.reduceMul, Nat.reduceSub, Nat.reduceLeDiff, Nat.reduceLT, reduceCtorEq, if_true, eq_self, forall_const, implies_true]
      exact hk
    · have he : (b == n) = false := by simpa using e
      simp (maxSteps := 2000000) -implicitDefEqProofs only [j0, j1, f, hp, he, w1, s_alt, s_alt20, s_alt2t, s_alt2f, ↓s_loopi, ↓v_pq, ↓PRE, POST, CORE, Nat.reduceDiv, Nat.reduceMod, Int.reduceLT, Int.reduceLE, Int.reduceToNat, Int.reduceAdd, ↓reduceIte, Nat.reduceEqDiff, Nat.reduceAdd, Nat.reduceMul, Nat.reduceSub, Nat.reduceLeDiff, Nat.reduceLT, reduceCtorEq, if_true, eq_self, forall_const, implies_true]
      exact ⟨by simp only [List.mem_append, List.mem_singleton, not_or]; exact ⟨hno, fun q => e q.symm⟩, (by refine ⟨[], by simp [NdL, NdA, oO_cells, oO_own, iL_nil], ?_, ?_, keep0 hJ⟩ <;> simp only [FitM, FitE, ObLe, LeL, Le, List.cons_append, List.nil_append] <;> (try (simp (maxSteps := 2000000) -implicitDefEqProofs only [s_alt, s_alt20, s_alt2t, s_alt2f, ↓s_loopi, ↓v_pq, ↓PRE, POST, CORE, Nat.reduceDiv, Nat.reduceMod, Int.reduceLT, Int.reduceLE, Int.reduceToNat, Int.reduceAdd, ↓reduceIte, Nat.reduceEqDiff, Nat.reduceAdd, Nat.reduceMul, Nat.reduceSub, Nat.reduceLeDiff, Nat.reduceLT, reduceCtorEq, if_true, eq_self, forall_const, implies_true])) <;> (try simp only [Sz.Le, Sz.LeL, List.getElem?_cons_zero, List.getElem?_cons_succ]) <;> (try simp))⟩
  · intro hno
    have j1 : ¬ (bs.length : Int) < (bs.length : Int) := by omega
    rw [List.take_length] at hno
    rw [decide_eq_false hno] at hk
    simp (maxSteps := 2000000) -implicitDefEqProofs only [j1, s_alt, s_alt20, s_alt2t, s_alt2f, ↓s_loopi, ↓v_pq, ↓PRE, POST, CORE, Nat.reduceDiv, Nat.reduceMod, Int.reduceLT, Int.reduceLE, Int.reduceToNat, Int.reduceAdd, ↓reduceIte, Nat.reduceEqDiff, Nat.reduceAdd, Nat.reduceMul, Nat.reduceSub, Nat.reduceLeDiff, Nat.reduceLT, reduceCtorEq, if_true, eq_self, forall_const, implies_true]
    exact hk
def laneN (g : Ge) (bs : List Int) (c n : Nat) : List Int := ((List.range n).map fun i : Nat => (c : Int) + (i : Int) * g.ch).filter fun b => decide (b ∈ bs)
def laneK (g : Ge) (c : Nat) : Nat := ((nG g - c + g.ch - 1) / g.ch).toNat
def laneR (g : Ge) (bs : List Int) (c : Nat) : List Int := laneN g bs c (laneK g c)
theorem laneN_succ (g : Ge) (bs : List Int) (c n : Nat) : laneN g bs c (n + 1) = laneN g bs c n ++ (if decide ((c : Int) + (n : Int) * g.ch ∈ bs) = true then [(c : Int) + (n : Int) * g.ch] else []) := by
  unfold laneN
  rw [List.range_succ, List.map_append, List.filter_append]
  congr 1
  by_cases h : decide ((c : Int) + (n : Int) * g.ch ∈ bs) = true <;> simp [h]
theorem laneN_len (g : Ge) (bs : List Int) (c n : Nat) : (laneN g bs c n).length ≤ n := by
  unfold laneN
  refine Nat.le_trans (List.length_filter_le _ _) ?_
  simp
theorem laneK_lt {g : Ge} {c x : Nat} (h1 : 1 ≤ g.ch) : x < laneK g c ↔ (c : Int) + (x : Int) * g.ch < nG g := by
  unfold laneK
  constructor
  · intro h
    have h2 : ((x : Int) + 1) ≤ (nG g - c + g.ch - 1) / g.ch := by omega
    have h3 := (Int.le_ediv_iff_mul_le (by omega)).1 h2
    rw [Int.add_mul, Int.one_mul] at h3
    omega
  · intro h
    have h3 : ((x : Int) + 1) * g.ch ≤ nG g - c + g.ch - 1 := by rw [Int.add_mul, Int.one_mul]; omega
    have h2 := (Int.le_ediv_iff_mul_le (by omega)).2 h3
    omega
theorem laneK_le {g : Ge} {c : Nat} (h1 : 1 ≤ g.ch) (h2 : nG g ≤ 64) : laneK g c ≤ 64 := by
  rcases Nat.lt_or_ge 64 (laneK g c) with h | h
  · have h3 := (laneK_lt h1).1 h
    have : (64 : Int) * 1 ≤ 64 * g.ch := Int.mul_le_mul_of_nonneg_left h1 (by omega)
    omega
  · exact h
def c29 [Inp] : Trans := fun args m k => ∃ (g : Ge) (s : SV) (bs : List Int) (c : Nat), args = [.agg g.sv, s, .v (.int .i64 (c : Int))] ∧ rdI m s = some bs ∧ bs.length ≤ 100000 ∧ chkG g = true ∧ (c : Int) < g.ch ∧
  k (intS m.length (laneR g bs c)) (m ++ intM (laneR g bs c))
theorem g67 [Inp] : GOk Try.prog [⟨67, true, c67⟩] := GOk.cons c67_ok (g0 _)
theorem c29_ok [I : Inp] : Contract Try.prog 29 true c29 := by
  refine .readF fn29 (G := fun J => [⟨67, true, @c67 J⟩]) (fun J => @g67 J) _ fun args m k h => ?_
  obtain ⟨g, s, bs, c, rfl, hb, hmax, hg, hc, hk⟩ := h
  refine ⟨by simp [Ge.sv], fun J hJ us hus => ?_⟩
  obtain ⟨u, t1, rfl, hu1, u2, t2, rfl, hu2, u3, t3, rfl, hu3, rfl⟩ := hus
  obtain rfl := hu1.2.1 g.vs rfl
  obtain rfl := hu3.1 _ rfl
  obtain ⟨p, cc, rfl, hin⟩ := rdI_knows hb hu2
  rw [List.map_cons, List.map_cons, List.map_cons, List.map_nil, show SV.of (.agg g.vs.toArray) = _ from ge_of g]
  obtain ⟨⟨⟨m1, m1'⟩, ⟨m2, m2'⟩, ⟨m3, m3'⟩, m4, m4'⟩, m5, m6⟩ := chk_in.1 hg
  obtain ⟨⟨q1, q2⟩, q3, q4⟩ := in_mul (chk_in.1 hg).1
  have w1 : IntKind.i64.wrap (g.ch * g.di) = g.ch * g.di := Sz.w_64 (by omega) (by omega)
  have w2 : IntKind.i64.wrap (g.ch * g.di * g.bl) = g.ch * g.di * g.bl := Sz.w_64 (by omega) (by omega)
  have hK := @laneK_le g c m1 m6
  have hKl := fun x => @laneK_lt g c x m1
  unfold nG at hKl
  simp (maxSteps := 2000000) -implicitDefEqProofs only [↓x29, ↓r29, s_alt, s_alt20, s_alt2t, s_alt2f, ↓s_loopi, ↓v_pq, ↓PRE, POST, CORE, Nat.reduceDiv, Nat.reduceMod, Int.reduceLT, Int.reduceLE, Int.reduceToNat, Int.reduceAdd, ↓reduceIte, Nat.reduceEqDiff, Nat.reduceAdd, Nat.reduceMul, Nat.reduceSub, Nat.reduceLeDiff, Nat.reduceLT, reduceCtorEq, if_true, eq_self, forall_const, implies_true]
  unfold laneR at hk
  refine TXi_of (TX_count (@g67 J) (laneK g c) (fun x => [(1, .v (.slice p bs.length cc)), (3, .ptr 0 0), (7, oV 1 1 (laneN g bs c x).length), (8, .v (.int .i64 ((c : Int) + (x : Int) * g.ch)))]) (fun x => [⟨true, [.v (.int .i64 g.ch), .v (.int .i64 g.di), .v (.int .i64 g.bl), .v (.int .i64 g.pa)]⟩, oO (iL (laneN g bs c x))]) (fun _ => True) trivial ?_ ?_ ?_)
  · have e0 : laneN g bs c 0 = [] := rfl
    rw [e0]
    have e1 : (c : Int) + ((0 : Nat) : Int) * g.ch = (c : Int) := by simp
    rw [e1]
    exact (by refine ⟨[0, 0], by simp [NdL, NdA, oO_cells, oO_own, iL_nil], ?_, ?_, keep0 hJ⟩ <;> simp only [FitM, FitE, ObLe, LeL, Le, List.cons_append, List.nil_append] <;> (try (simp (maxSteps := 2000000) -implicitDefEqProofs only [extO, extO2, extLe_no, or_true, o_sl, o_grows, o_kill, o_len, o_cap, o_isl, o_le, o_cells, o_one, oOk_c, oOk_o, oO_cells, oO_own, oV_s, oV_0, oO_nil, oO_iL, iL_nil, iL_snoc, List.length_append, iL_fold, iL_over, iL_all, iL_get, iL_len, iL_take, iL_drop, iL_one, iL_plain, iL_le, List.length_set, List.length_nil, s_alt, s_alt20, s_alt2t, s_alt2f, ↓s_loopi, ↓v_pq, ↓PRE, POST, CORE, Nat.reduceDiv, Nat.reduceMod, Int.reduceLT, Int.reduceLE, Int.reduceToNat, Int.reduceAdd, ↓reduceIte, Nat.reduceEqDiff, Nat.reduceAdd, Nat.reduceMul, Nat.reduceSub, Nat.reduceLeDiff, Nat.reduceLT, reduceCtorEq, if_true, eq_self, forall_const, implies_true])) <;> (try simp only [Sz.Le, Sz.LeL, List.getElem?_cons_zero, List.getElem?_cons_succ]) <;> (try simp))
  · intro x hx _
    have j1 := (hKl x).1 hx
    have hx64 : x < 64 := by omega
    have w3 : IntKind.i64.wrap ((c : Int) + (x : Int) * g.ch + g.ch) = (c : Int) + ((x + 1 : Nat) : Int) * g.ch := by
      have e : (c : Int) + (x : Int) * g.ch + g.ch = (c : Int) + ((x + 1 : Nat) : Int) * g.ch := by
        rw [Int.natCast_add, Int.add_mul]
        simp
        omega
      have : 0 ≤ (x : Int) * g.ch := Int.mul_nonneg (by omega) (by omega)
      rw [← e]
      exact Sz.w_64 (by omega) (by omega)
    have hls := laneN_succ g bs c x
    have hll := laneN_len g bs c x
    simp (maxSteps := 2000000) -implicitDefEqProofs only [w1, w2, j1, ↓c67, s_alt, s_alt20, s_alt2t, s_alt2f, ↓s_loopi, ↓v_pq, ↓PRE, POST, CORE, Nat.reduceDiv, Nat.reduceMod, Int.reduceLT, Int.reduceLE, Int.reduceToNat, Int.reduceAdd, ↓reduceIte, Nat.reduceEqDiff, Nat.reduceAdd, Nat.reduceMul, Nat.reduceSub, Nat.reduceLeDiff, Nat.reduceLT, reduceCtorEq, if_true, eq_self, forall_const, implies_true]
    refine ⟨.v (.slice p bs.length cc), bs, _, rfl, rdI_v hin, by omega, ?_⟩
    generalize laneN g bs c x = O at hls hll ⊢
    cases hd : decide ((c : Int) + (x : Int) * g.ch ∈ bs) with
    | false =>
      rw [hd] at hls
      simp only [Bool.false_eq_true, if_false, List.append_nil] at hls
      rw [hls]
      simp (maxSteps := 2000000) -implicitDefEqProofs only [w3, s_alt, s_alt20, s_alt2t, s_alt2f, ↓s_loopi, ↓v_pq, ↓PRE, POST, CORE, Nat.reduceDiv, Nat.reduceMod, Int.reduceLT, Int.reduceLE, Int.reduceToNat, Int.reduceAdd, ↓reduceIte, Nat.reduceEqDiff, Nat.reduceAdd, Nat.reduceMul, Nat.reduceSub, Nat.reduceLeDiff, Nat.reduceLT, reduceCtorEq, if_true, eq_self, forall_const, implies_true]
      exact (by refine ⟨[0, 1], by simp [NdL, NdA, oO_cells, oO_own, iL_nil], ?_, ?_, keep0 hJ⟩ <;> simp only [FitM, FitE, ObLe, LeL, Le, List.cons_append, List.nil_append] <;> (try (simp (maxSteps := 2000000) -implicitDefEqProofs only [extO, extO2, extLe_no, or_true, o_sl, o_grows, o_kill, o_len, o_cap, o_isl, o_le, o_cells, o_one, oOk_c, oOk_o, oO_cells, oO_own, oV_s, oV_0, oO_nil, oO_iL, iL_nil, iL_snoc, List.length_append, iL_fold, iL_over, iL_all, iL_get, iL_len, iL_take, iL_drop, iL_one, iL_plain, iL_le, List.length_set, s_alt, s_alt20, s_alt2t, s_alt2f, ↓s_loopi, ↓v_pq, ↓PRE, POST, CORE, Nat.reduceDiv, Nat.reduceMod, Int.reduceLT, Int.reduceLE, Int.reduceToNat, Int.reduceAdd, ↓reduceIte, Nat.reduceEqDiff, Nat.reduceAdd, Nat.reduceMul, Nat.reduceSub, Nat.reduceLeDiff, Nat.reduceLT, reduceCtorEq, if_true, eq_self, forall_const, implies_true])) <;> (try simp only [Sz.Le, Sz.LeL, List.getElem?_cons_zero, List.getElem?_cons_succ]) <;> (try simp))
    | true =>
      rw [hd] at hls
      simp only [if_true] at hls
      rw [hls]
      simp (maxSteps := 2000000) -implicitDefEqProofs only [w3, o_sl, o_grows, o_kill, o_len, o_cap, o_isl, o_le, o_cells, o_one, oOk_c, oOk_o, oO_cells, oO_own, oV_s, oV_0, oO_nil, oO_iL, iL_nil, iL_snoc, List.length_append, iL_fold, iL_over, iL_all, iL_get, iL_len, iL_take, iL_drop, iL_one, iL_plain, iL_le, List.length_set, s_alt, s_alt20, s_alt2t, s_alt2f, ↓s_loopi, ↓v_pq, ↓PRE, POST, CORE, Nat.reduceDiv, Nat.reduceMod, Int.reduceLT, Int.reduceLE, Int.reduceToNat, Int.reduceAdd, ↓reduceIte, Nat.reduceEqDiff, Nat.reduceAdd, Nat.reduceMul, Nat.reduceSub, Nat.reduceLeDiff, Nat.reduceLT, reduceCtorEq, if_true, eq_self, forall_const, implies_true]
      exact ⟨⟨by unfold maxLen; omega, by omega⟩, (by refine ⟨[0, 3], by simp [NdL, NdA, oO_cells, oO_own, iL_nil], ?_, ?_, keep0 hJ⟩ <;> simp only [FitM, FitE, ObLe, LeL, Le, List.cons_append, List.nil_append] <;> (try (simp (maxSteps := 2000000) -implicitDefEqProofs only [extO, extO2, extLe_no, or_true, o_sl, o_grows, o_kill, o_len, o_cap, o_isl, o_le, o_cells, o_one, oOk_c, oOk_o, oO_cells, oO_own, oV_s, oV_0, oO_nil, oO_iL, iL_nil, iL_snoc, List.length_append, iL_fold, iL_over, iL_all, iL_get, iL_len, iL_take, iL_drop, iL_one, iL_plain, iL_le, List.length_set, List.length_cons, List.length_nil, s_alt, s_alt20, s_alt2t, s_alt2f, ↓s_loopi, ↓v_pq, ↓PRE, POST, CORE, Nat.reduceDiv, Nat.reduceMod, Int.reduceLT, Int.reduceLE, Int.reduceToNat, Int.reduceAdd, ↓reduceIte, Nat.reduceEqDiff, Nat.reduceAdd, Nat.reduceMul, Nat.reduceSub, Nat.reduceLeDiff, Nat.reduceLT, reduceCtorEq, if_true, eq_self, forall_const, implies_true])) <;> (try simp only [Sz.Le, Sz.LeL, List.getElem?_cons_zero, List.getElem?_cons_succ]) <;> (try simp))⟩
  · intro _
    have j1 : ¬ (c : Int) + ((laneK g c : Nat) : Int) * g.ch < g.ch * g.di * g.bl := fun h => Nat.lt_irrefl _ ((hKl _).2 h)
    simp (maxSteps := 2000000) -implicitDefEqProofs only [w1, w2, j1, s_alt, s_alt20, s_alt2t, s_alt2f, ↓s_loopi, ↓v_pq, ↓PRE, POST, CORE, Nat.reduceDiv, Nat.reduceMod, Int.reduceLT, Int.reduceLE, Int.reduceToNat, Int.reduceAdd, ↓reduceIte, Nat.reduceEqDiff, Nat.reduceAdd, Nat.reduceMul, Nat.reduceSub, Nat.reduceLeDiff, Nat.reduceLT, reduceCtorEq, if_true, eq_self, forall_const, implies_true]
    refine fin_int (laneN g bs c (laneK g c)) _ _ 1 (fun h => by rw [h]; rfl) (fun h => ⟨by unfold oV; rw [if_neg (fun q => h (List.length_eq_zero_iff.1 q))], ?_⟩) hk
    simp only [List.getElem?_cons_zero, List.getElem?_cons_succ]
    rw [oO_al h]
def c26 [Inp] : Trans := fun args m k => ∃ (g : Ge) (s : SV) (bs : List Int), args = [.agg g.sv, s] ∧ rdI m s = some bs ∧ bs.length ≤ 100000 ∧ chkG g = true ∧
  k (.row m.length 0 g.ch.toNat 1) (m ++ [⟨true, iL (loadF g bs g.ch.toNat)⟩])
theorem c26_ok [I : Inp] : Contract Try.prog 26 true c26 := by
  refine .readF fn26 (G := fun J => []) (fun J => @g0 J _) _ fun args m k h => ?_
  obtain ⟨g, s, bs, rfl, hb, hmax, hg, hk⟩ := h
  refine ⟨by simp [Ge.sv], fun J hJ us hus => ?_⟩
  obtain ⟨u, t1, rfl, hu1, u2, t2, rfl, hu2, rfl⟩ := hus
  obtain rfl := hu1.2.1 g.vs rfl
  obtain ⟨p, cc, rfl, hin⟩ := rdI_knows hb hu2
  rw [List.map_cons, List.map_cons, List.map_nil, show SV.of (.agg g.vs.toArray) = _ from ge_of g]
  obtain ⟨⟨⟨m1, m1'⟩, ⟨m2, m2'⟩, ⟨m3, m3'⟩, m4, m4'⟩, m5, m6⟩ := chk_in.1 hg
  obtain ⟨⟨q1, q2⟩, q3, q4⟩ := in_mul (chk_in.1 hg).1
  have v1 : IntKind.i64.wrap (g.ch * g.di) = g.ch * g.di := Sz.w_64 (by omega) (by omega)
  have v2 : IntKind.i64.wrap (g.ch * g.di * g.bl) = g.ch * g.di * g.bl := Sz.w_64 (by omega) (by omega)
  have hnG : nG g = g.ch * g.di * g.bl := rfl
  have i1 : (0 : Int) ≤ g.ch := by omega
  have i2 : 8 * g.ch ≤ (281474976710656 : Int) := by omega
  have i3 : g.ch ≤ (9223372036854775807 : Int) := by omega
  simp (maxSteps := 2000000) -implicitDefEqProofs only [↓x26, ↓r26, i1, i2, i3, rep_iL, Int.le_refl, s_alt, s_alt20, s_alt2t, s_alt2f, ↓s_loopi, ↓v_pq, ↓PRE, POST, CORE, Nat.reduceDiv, Nat.reduceMod, Int.reduceLT, Int.reduceLE, Int.reduceToNat, Int.reduceAdd, ↓reduceIte, Nat.reduceEqDiff, Nat.reduceAdd, Nat.reduceMul, Nat.reduceSub, Nat.reduceLeDiff, Nat.reduceLT, reduceCtorEq, if_true, eq_self, forall_const, implies_true]
  obtain ⟨C, hC⟩ : ∃ C : Nat, g.ch = (C : Int) := ⟨g.ch.toNat, by omega⟩
  have hCt : g.ch.toNat = C := by omega
  rw [hCt] at hk ⊢
  refine TXi_of (TX_count (g0 _) bs.length (fun x => [(2, .ptr 0 0), (5, .row 1 0 C 1), (11, .v (.slice p bs.length cc)), (12, .v (.int .i64 (bs.length : Int))), (13, .v (.int .i64 (x : Int)))]) (fun x => [⟨true, [.v (.int .i64 g.ch), .v (.int .i64 g.di), .v (.int .i64 g.bl), .v (.int .i64 g.pa)]⟩, ⟨true, iL (loadF g (bs.take x) C)⟩]) (fun _ => True) trivial ?_ ?_ ?_)
  · rw [List.take_zero, loadF_nil]
    exact (by refine ⟨[0, 1], by simp [NdL, NdA, oO_cells, oO_own, iL_nil], ?_, ?_, keep0 hJ⟩ <;> simp only [FitM, FitE, ObLe, LeL, Le, List.cons_append, List.nil_append] <;> (try (simp (maxSteps := 2000000) -implicitDefEqProofs only [iL_fold, iL_over, iL_all, iL_get, iL_len, iL_take, iL_drop, iL_one, iL_plain, iL_le, List.length_set, s_alt, s_alt20, s_alt2t, s_alt2f, ↓s_loopi, ↓v_pq, ↓PRE, POST, CORE, Nat.reduceDiv, Nat.reduceMod, Int.reduceLT, Int.reduceLE, Int.reduceToNat, Int.reduceAdd, ↓reduceIte, Nat.reduceEqDiff, Nat.reduceAdd, Nat.reduceMul, Nat.reduceSub, Nat.reduceLeDiff, Nat.reduceLT, reduceCtorEq, if_true, eq_self, forall_const, implies_true])) <;> (try simp only [Sz.Le, Sz.LeL, List.getElem?_cons_zero, List.getElem?_cons_succ]) <;> (try simp))
  · intro x hx _
    obtain ⟨b, hb0⟩ : ∃ b, bs[x]? = some b := ⟨_, List.getElem?_eq_getElem hx⟩
    have f : inpL (plusA p x) 1 = some [.int .i64 b] := inpI_at hin hb0
    have hp : p.isSome = true := inpL_isSome hin (by omega)
    have j0 : (0 : Int) ≤ (x : Int) := by omega
    have j1 : (x : Int) < (bs.length : Int) := by omega
    have w1 : IntKind.i64.wrap ((x : Int) + 1) = (x : Int) + 1 := Sz.w_64 (by omega) (by omega)
    rw [take_snoc hb0]
    have hSl : (bs.take x).length ≤ 100000 := by rw [List.length_take]; omega
    generalize bs.take x = S at hSl ⊢
    by_cases hb1 : 0 ≤ b
    · by_cases hb2 : b < g.ch * g.di * g.bl
      · have hok : okB g b = true := by unfold okB; simp [hb1, hb2, hnG]
        obtain ⟨c0, hc0, hc0C⟩ : ∃ c0 : Nat, b.tmod g.ch = (c0 : Int) ∧ c0 < C := by
          have h1 := Int.tmod_nonneg g.ch hb1
          have h2 := Int.tmod_lt_of_pos b (b := g.ch) (by omega)
          exact ⟨(b.tmod g.ch).toNat, by omega, by omega⟩
        rw [loadF_at hok hc0]
        have hq := @loadF_get g S C c0 hc0C
        have hql := loadF_len g S C
        have hl1 := lan_le g S c0
        have w2 : IntKind.i64.wrap (((lan g S c0).length : Int) + 1) = ((lan g S c0).length : Int) + 1 := Sz.w_64 (by omega) (by omega)
        generalize loadF g S C = Q at hq hql ⊢
        have hq2 : (iL Q)[c0]? = some (.v (.int .i64 ((lan g S c0).length : Int))) := by unfold iL; rw [List.getElem?_map, hq]; rfl
        have hov := @iL_over Q c0 (((lan g S c0).length : Int) + 1) (by omega)
        have k0 : (0 : Int) ≤ (c0 : Int) := by omega
        have k1 : (c0 : Int) < (C : Int) := by omega
        have k2 : c0 + 1 ≤ C := hc0C
        have k3 : ¬ g.ch = 0 := by omega
        have k4 : g.ch ≠ 0 := k3
        simp (maxSteps := 2000000) -implicitDefEqProofs only [j0, j1, f, hp, hb1, v1, v2, hb2, hc0, k0, k1, k2, k3, k4, hq2, hov, hql, w1, w2, iL_len, s_alt, s_alt20, s_alt2t, s_alt2f, ↓s_loopi, ↓v_pq, ↓PRE, POST, CORE, Nat.reduceDiv, Nat.reduceMod, Int.reduceLT, Int.reduceLE, Int.reduceToNat, Int.reduceAdd, ↓reduceIte, Nat.reduceEqDiff, Nat.reduceAdd, Nat.reduceMul, Nat.reduceSub, Nat.reduceLeDiff, Nat.reduceLT, reduceCtorEq, if_true, eq_self, forall_const, implies_true]
        first | exact ⟨k4, k4, (by refine ⟨[0, 1], by simp [NdL, NdA, oO_cells, oO_own, iL_nil], ?_, ?_, keep0 hJ⟩ <;> simp only [FitM, FitE, ObLe, LeL, Le, List.cons_append, List.nil_append] <;> (try (simp (maxSteps := 2000000) -implicitDefEqProofs only [iL_fold, iL_over, iL_all, iL_get, iL_len, iL_take, iL_drop, iL_one, iL_plain, iL_le, List.length_set, s_alt, s_alt20, s_alt2t, s_alt2f, ↓s_loopi, ↓v_pq, ↓PRE, POST, CORE, Nat.reduceDiv, Nat.reduceMod, Int.reduceLT, Int.reduceLE, Int.reduceToNat, Int.reduceAdd, ↓reduceIte, Nat.reduceEqDiff, Nat.reduceAdd, Nat.reduceMul, Nat.reduceSub, Nat.reduceLeDiff, Nat.reduceLT, reduceCtorEq, if_true, eq_self, forall_const, implies_true])) <;> (try simp only [Sz.Le, Sz.LeL, List.getElem?_cons_zero, List.getElem?_cons_succ]) <;> (try simp))⟩ | exact ⟨k4, (by refine ⟨[0, 1], by simp [NdL, NdA, oO_cells, oO_own, iL_nil], ?_, ?_, keep0 hJ⟩ <;> simp only [FitM, FitE, ObLe, LeL, Le, List.cons_append, List.nil_append] <;> (try (simp (maxSteps := 2000000) -implicitDefEqProofs only [iL_fold, iL_over, iL_all, iL_get, iL_len, iL_take, iL_drop, iL_one, iL_plain, iL_le, List.length_set, s_alt, s_alt20, s_alt2t, s_alt2f, ↓s_loopi, ↓v_pq, ↓PRE, POST, CORE, Nat.reduceDiv, Nat.reduceMod, Int.reduceLT, Int.reduceLE, Int.reduceToNat, Int.reduceAdd, ↓reduceIte, Nat.reduceEqDiff, Nat.reduceAdd, Nat.reduceMul, Nat.reduceSub, Nat.reduceLeDiff, Nat.reduceLT, reduceCtorEq, if_true, eq_self, forall_const, implies_true])) <;> (try simp only [Sz.Le, Sz.LeL, List.getElem?_cons_zero, List.getElem?_cons_succ]) <;> (try simp))⟩
      · have hok : okB g b = false := by unfold okB; simp [hb2, hnG]
        rw [loadF_no hok]
        simp (maxSteps := 2000000) -implicitDefEqProofs only [j0, j1, f, hp, hb1, v1, v2, hb2, w1, s_alt, s_alt20, s_alt2t, s_alt2f, ↓s_loopi, ↓v_pq, ↓PRE, POST, CORE, Nat.reduceDiv, Nat.reduceMod, Int.reduceLT, Int.reduceLE, Int.reduceToNat, Int.reduceAdd, ↓reduceIte, Nat.reduceEqDiff, Nat.reduceAdd, Nat.reduceMul, Nat.reduceSub, Nat.reduceLeDiff, Nat.reduceLT, reduceCtorEq, if_true, eq_self, forall_const, implies_true]
        exact (by refine ⟨[0, 1], by simp [NdL, NdA, oO_cells, oO_own, iL_nil], ?_, ?_, keep0 hJ⟩ <;> simp only [FitM, FitE, ObLe, LeL, Le, List.cons_append, List.nil_append] <;> (try (simp (maxSteps := 2000000) -implicitDefEqProofs only [iL_fold, iL_over, iL_all, iL_get, iL_len, iL_take, iL_drop, iL_one, iL_plain, iL_le, List.length_set, s_alt, s_alt20, s_alt2t, s_alt2f, ↓s_loopi, ↓v_pq, ↓PRE, POST, CORE, Nat.reduceDiv, Nat.reduceMod, Int.reduceLT, Int.reduceLE, Int.reduceToNat, Int.reduceAdd, ↓reduceIte, Nat.reduceEqDiff, Nat.reduceAdd, Nat.reduceMul, Nat.reduceSub, Nat.reduceLeDiff, Nat.reduceLT, reduceCtorEq, if_true, eq_self, forall_const, implies_true])) <;> (try simp only [Sz.Le, Sz.LeL, List.getElem?_cons_zero, List.getElem?_cons_succ]) <;> (try simp))
    · have hok : okB g b = false := by unfold okB; simp [hb1]
      rw [loadF_no hok]
      simp (maxSteps := 2000000) -implicitDefEqProofs only [j0, j1, f, hp, hb1, w1, s_alt, s_alt20, s_alt2t, s_alt2f, ↓s_loopi, ↓v_pq, ↓PRE, POST, CORE, Nat.reduceDiv, Nat.reduceMod, Int.reduceLT, Int.reduceLE, Int.reduceToNat, Int.reduceAdd, ↓reduceIte, Nat.reduceEqDiff, Nat.reduceAdd, Nat.reduceMul, Nat.reduceSub, Nat.reduceLeDiff, Nat.reduceLT, reduceCtorEq, if_true, eq_self, forall_const, implies_true]
      exact (by refine ⟨[0, 1], by simp [NdL, NdA, oO_cells, oO_own, iL_nil], ?_, ?_, keep0 hJ⟩ <;> simp only [FitM, FitE, ObLe, LeL, Le, List.cons_append, List.nil_append] <;> (try (simp (maxSteps := 2000000) -implicitDefEqProofs only [iL_fold, iL_over, iL_all, iL_get, iL_len, iL_take, iL_drop, iL_one, iL_plain, iL_le, List.length_set, s_alt, s_alt20, s_alt2t, s_alt2f, ↓s_loopi, ↓v_pq, ↓PRE, POST, CORE, Nat.reduceDiv, Nat.reduceMod, Int.reduceLT, Int.reduceLE, Int.reduceToNat, Int.reduceAdd, ↓reduceIte, Nat.reduceEqDiff, Nat.reduceAdd, Nat.reduceMul, Nat.reduceSub, Nat.reduceLeDiff, Nat.reduceLT, reduceCtorEq, if_true, eq_self, forall_const, implies_true])) <;> (try simp only [Sz.Le, Sz.LeL, List.getElem?_cons_zero, List.getElem?_cons_succ]) <;> (try simp))
  · intro _
    have j1 : ¬ (bs.length : Int) < (bs.length : Int) := by omega
    rw [List.take_length]
    simp (maxSteps := 2000000) -implicitDefEqProofs only [j1, s_alt, s_alt20, s_alt2t, s_alt2f, ↓s_loopi, ↓v_pq, ↓PRE, POST, CORE, Nat.reduceDiv, Nat.reduceMod, Int.reduceLT, Int.reduceLE, Int.reduceToNat, Int.reduceAdd, ↓reduceIte, Nat.reduceEqDiff, Nat.reduceAdd, Nat.reduceMul, Nat.reduceSub, Nat.reduceLeDiff, Nat.reduceLT, reduceCtorEq, if_true, eq_self, forall_const, implies_true]
    refine ⟨[1], .row 0 0 C 1, [⟨true, iL (loadF g bs C)⟩], by simp, ?_, by simp, by simp only [Le]; rfl, ?_⟩
    · simp [FitM, ObLe, iL_le]
    · simpa [SV.up, SObj.up, iL_up] using hk
def c27 [Inp] : Trans := fun args m k => ∃ (s1 s2 : SV) (a b : List Int), args = [s1, s2] ∧ rdI m s1 = some a ∧ rdI m s2 = some b ∧ a.length ≤ 100000000 ∧ k (.v (.bool (a == b))) m
theorem c27_ok [I : Inp] : Contract Try.prog 27 true c27 := by
  refine .read fn27 (G := fun J => []) (fun J => @g0 J _) _ fun args m k h => ?_
  obtain ⟨s1, s2, a, b, rfl, ha, hb, hmax, hk⟩ := h
  refine ⟨by simp, fun J hJ us hus => ?_⟩
  obtain ⟨u, t1, rfl, hu1, u2, t2, rfl, hu2, rfl⟩ := hus
  obtain ⟨p, cc, rfl, hin⟩ := rdI_knows ha hu1
  obtain ⟨p', cc', rfl, hin'⟩ := rdI_knows hb hu2
  rw [List.map_cons, List.map_cons, List.map_nil]
  by_cases hl : a.length = b.length
  · have hl1 : ((a.length : Int) != (b.length : Int)) = false := by simp [hl]
    simp (maxSteps := 2000000) -implicitDefEqProofs only [↓x27, ↓r27, hl1, s_alt, s_alt20, s_alt2t, s_alt2f, ↓s_loopi, ↓v_pq, ↓PRE, POST, CORE, Nat.reduceDiv, Nat.reduceMod, Int.reduceLT, Int.reduceLE, Int.reduceToNat, Int.reduceAdd, ↓reduceIte, Nat.reduceEqDiff, Nat.reduceAdd, Nat.reduceMul, Nat.reduceSub, Nat.reduceLeDiff, Nat.reduceLT, reduceCtorEq, if_true, eq_self, forall_const, implies_true]
    refine TXi_of (TX_count (g0 _) a.length (fun x => [(0, .v (.slice p a.length cc)), (1, .v (.slice p' b.length cc')), (12, .v (.int .i64 (a.length : Int))), (13, .v (.int .i64 (x : Int)))]) (fun _ => []) (fun x => a.take x = b.take x) rfl (by refine ⟨[], by simp [NdL, NdA, oO_cells, oO_own, iL_nil], ?_, ?_, keep0 hJ⟩ <;> simp only [FitM, FitE, ObLe, LeL, Le, List.cons_append, List.nil_append] <;> (try (simp (maxSteps := 2000000) -implicitDefEqProofs only [s_alt, s_alt20, s_alt2t, s_alt2f, ↓s_loopi, ↓v_pq, ↓PRE, POST, CORE, Nat.reduceDiv, Nat.reduceMod, Int.reduceLT, Int.reduceLE, Int.reduceToNat, Int.reduceAdd, ↓reduceIte, Nat.reduceEqDiff, Nat.reduceAdd, Nat.reduceMul, Nat.reduceSub, Nat.reduceLeDiff, Nat.reduceLT, reduceCtorEq, if_true, eq_self, forall_const, implies_true])) <;> (try simp only [Sz.Le, Sz.LeL, List.getElem?_cons_zero, List.getElem?_cons_succ]) <;> (try simp)) ?_ ?_)
    · intro x hx he
      obtain ⟨y, hy⟩ : ∃ y, a[x]? = some y := ⟨_, List.getElem?_eq_getElem hx⟩
      obtain ⟨z, hz⟩ : ∃ z, b[x]? = some z := ⟨_, List.getElem?_eq_getElem (by omega)⟩
      have f : inpL (plusA p x) 1 = some [.int .i64 y] := inpI_at hin hy
      have f' : inpL (plusA p' x) 1 = some [.int .i64 z] := inpI_at hin' hz
      have hp : p.isSome = true := inpL_isSome hin (by omega)
      have hp' : p'.isSome = true := inpL_isSome hin' (by omega)
      have j0 : (0 : Int) ≤ (x : Int) := by omega
      have j1 : (x : Int) < (a.length : Int) := by omega
      have j2 : (x : Int) < (b.length : Int) := by omega
      have w1 : IntKind.i64.wrap ((x : Int) + 1) = (x : Int) + 1 := Sz.w_64 (by omega) (by omega)
      by_cases e : y = z
      · have hne : (y != z) = false := by simp [e]
        simp (maxSteps := 2000000) -implicitDefEqProofs only [j0, j1, j2, f, f', hp, hp', hne, w1, s_alt, s_alt20, s_alt2t, s_alt2f, ↓s_loopi, ↓v_pq, ↓PRE, POST, CORE, Nat.reduceDiv, Nat.reduceMod, Int.reduceLT, Int.reduceLE, Int.reduceToNat, Int.reduceAdd, ↓reduceIte, Nat.reduceEqDiff, Nat.reduceAdd, Nat.reduceMul, Nat.reduceSub, Nat.reduceLeDiff, Nat.reduceLT, reduceCtorEq, if_true, eq_self, forall_const, implies_true]
        exact ⟨by rw [take_snoc hy, take_snoc hz, he, e], (by refine ⟨[], by simp [NdL, NdA, oO_cells, oO_own, iL_nil], ?_, ?_, keep0 hJ⟩ <;> simp only [FitM, FitE, ObLe, LeL, Le, List.cons_append, List.nil_append] <;> (try (simp (maxSteps := 2000000) -implicitDefEqProofs only [s_alt, s_alt20, s_alt2t, s_alt2f, ↓s_loopi, ↓v_pq, ↓PRE, POST, CORE, Nat.reduceDiv, Nat.reduceMod, Int.reduceLT, Int.reduceLE, Int.reduceToNat, Int.reduceAdd, ↓reduceIte, Nat.reduceEqDiff, Nat.reduceAdd, Nat.reduceMul, Nat.reduceSub, Nat.reduceLeDiff, Nat.reduceLT, reduceCtorEq, if_true, eq_self, forall_const, implies_true])) <;> (try simp only [Sz.Le, Sz.LeL, List.getElem?_cons_zero, List.getElem?_cons_succ]) <;> (try simp))⟩
      · have hne : (y != z) = true := by simpa using e
        have hab : (a == b) = false := by
          simp only [beq_eq_false_iff_ne, ne_eq]
          intro q
          subst q
          rw [hy] at hz
          injection hz with hz
          exact e hz
        rw [hab] at hk
        simp (maxSteps := 2000000) -implicitDefEqProofs only [j0, j1, j2, f, f', hp, hp', hne, s_alt, s_alt20, s_alt2t, s_alt2f, ↓s_loopi, ↓v_pq, ↓PRE, POST, CORE, Nat.reduceDiv, Nat.reduceMod, Int.reduceLT, Int.reduceLE, Int.reduceToNat, Int.reduceAdd, ↓reduceIte, Nat.reduceEqDiff, Nat.reduceAdd, Nat.reduceMul, Nat.reduceSub, Nat.reduceLeDiff, Nat.reduceLT, reduceCtorEq, if_true, eq_self, forall_const, implies_true]
        exact hk
    · intro he
      have j1 : ¬ (a.length : Int) < (a.length : Int) := by omega
      have hab : (a == b) = true := by
        rw [List.take_length, hl, List.take_length] at he
        simpa using he
      rw [hab] at hk
      simp (maxSteps := 2000000) -implicitDefEqProofs only [j1, s_alt, s_alt20, s_alt2t, s_alt2f, ↓s_loopi, ↓v_pq, ↓PRE, POST, CORE, Nat.reduceDiv, Nat.reduceMod, Int.reduceLT, Int.reduceLE, Int.reduceToNat, Int.reduceAdd, ↓reduceIte, Nat.reduceEqDiff, Nat.reduceAdd, Nat.reduceMul, Nat.reduceSub, Nat.reduceLeDiff, Nat.reduceLT, reduceCtorEq, if_true, eq_self, forall_const, implies_true]
      exact hk
  · have hl1 : ((a.length : Int) != (b.length : Int)) = true := by simp; omega
    have hab : (a == b) = false := by
      simp only [beq_eq_false_iff_ne, ne_eq]
      intro q
      exact hl (by rw [q])
    rw [hab] at hk
    simp (maxSteps := 2000000) -implicitDefEqProofs only [↓x27, ↓r27, hl1, s_alt, s_alt20, s_alt2t, s_alt2f, ↓s_loopi, ↓v_pq, ↓PRE, POST, CORE, Nat.reduceDiv, Nat.reduceMod, Int.reduceLT, Int.reduceLE, Int.reduceToNat, Int.reduceAdd, ↓reduceIte, Nat.reduceEqDiff, Nat.reduceAdd, Nat.reduceMul, Nat.reduceSub, Nat.reduceLeDiff, Nat.reduceLT, reduceCtorEq, if_true, eq_self, forall_const, implies_true]
    exact hk
end St
end Go.Proofs.Ytibefgdjijmncaa
end
section
namespace Go.Proofs.Ytibefgdjijmncaa
open Go.RowKit Sz
namespace St
theorem strict_eq : ∀ {a b : List Int}, a.Pairwise (· < ·) → b.Pairwise (· < ·) → (∀ x, x ∈ a ↔ x ∈ b) → a = b
  | [], [], _, _, _ => rfl
  | [], y :: b, _, _, h => by have := (h y).2 (by simp); simp at this
  | x :: a, [], _, _, h => by have := (h x).1 (by simp); simp at this
  | x :: a, y :: b, ha, hb, h => by
    rw [List.pairwise_cons] at ha hb
    have hxy : x = y := by
      have h1 := (h x).1 (by simp)
      have h2 := (h y).2 (by simp)
      rcases List.mem_cons.1 h1 with e | h1
      · exact e
      · rcases List.mem_cons.1 h2 with e | h2
        · exact e.symm
        · have := hb.1 x h1
          have := ha.1 y h2
          omega
    subst hxy
    rw [strict_eq ha.2 hb.2 fun z => ?_]
    constructor
    · intro hz
      rcases List.mem_cons.1 ((h z).1 (by simp [hz])) with e | h1
      · subst e
        have := ha.1 z hz
        omega
      · exact h1
    · intro hz
      rcases List.mem_cons.1 ((h z).2 (by simp [hz])) with e | h1
      · subst e
        have := hb.1 z hz
        omega
      · exact h1
theorem srt_sorted (zs : List Int) : (srt zs).Pairwise (· ≤ ·) := by
  have := List.pairwise_mergeSort (le := fun x y : Int => decide (x ≤ y)) (fun a b c h1 h2 => by simp only [decide_eq_true_eq] at *; omega) (fun a b => by simp only [Bool.or_eq_true, decide_eq_true_eq]; omega) zs
  refine this.imp fun h => ?_
  simpa using h
theorem srt_perm (zs : List Int) : (srt zs).Perm zs := List.mergeSort_perm _ _
theorem sorted_eq {a b : List Int} (ha : a.Pairwise (· ≤ ·)) (hb : b.Pairwise (· ≤ ·)) (h : a.Perm b) : a = b :=
  List.Perm.eq_of_pairwise (le := (· ≤ ·)) (fun x y _ _ h1 h2 => by omega) ha hb h
theorem srt_of {a b : List Int} (ha : a.Pairwise (· ≤ ·)) (h : a.Perm b) : a = srt b := sorted_eq ha (srt_sorted b) (h.trans (srt_perm b).symm)
theorem take_mem {zs : List Int} {m : Nat} {x : Int} (hm : m < zs.length) : x ∈ zs.take (m + 1) ↔ x ∈ zs.take m ∨ x = zs[m] := by
  rw [List.take_succ_eq_append_getElem hm, List.mem_append, List.mem_singleton]
theorem compact_up {zs : List Int} (hs : zs.Pairwise (· ≤ ·)) : ∀ m, m ≤ zs.length → (Lib.compactUpTo zs.toArray m).Pairwise (· < ·) ∧ ∀ x, x ∈ Lib.compactUpTo zs.toArray m ↔ x ∈ zs.take m
  | 0, _ => ⟨by simp [Lib.compactUpTo], by simp [Lib.compactUpTo]⟩
  | m + 1, hm => by
    obtain ⟨h1, h2⟩ := compact_up hs m (by omega)
    have hlt : m < zs.length := by omega
    have hget : ∀ k (hk : k < zs.length), zs.toArray[k]! = zs[k] := fun k hk => by rw [getElem!_pos _ k (by simpa using hk)]; simp
    rw [Lib.compactUpTo_succ, hget m hlt]
    have hle : ∀ x ∈ zs.take m, x ≤ zs[m] := fun x hx => by
      obtain ⟨i, hi⟩ := List.getElem?_of_mem hx
      have him : i < m := by
        have := (List.getElem?_eq_some_iff.1 hi).1
        rw [List.length_take] at this
        omega
      rw [List.getElem?_take_of_lt him, List.getElem?_eq_getElem (by omega)] at hi
      injection hi with hi
      rw [← hi]
      exact List.pairwise_iff_getElem.1 hs i m (by omega) hlt him
    by_cases hk : Lib.keeps zs.toArray m = true
    · rw [if_pos hk]
      refine ⟨?_, fun x => ?_⟩
      · rw [List.pairwise_append]
        refine ⟨h1, by simp, fun a ha b hb => ?_⟩
        rw [List.mem_singleton] at hb
        subst hb
        have ha' := (h2 a).1 ha
        have hm0 : m ≠ 0 := fun e => by subst e; simp at ha'
        have hne : zs[m] ≠ zs[m - 1] := by
          unfold Lib.keeps at hk
          rw [hget m hlt, hget (m - 1) (by omega)] at hk
          simpa [hm0] using hk
        have h3 : a ≤ zs[m - 1] := by
          obtain ⟨i, hi⟩ := List.getElem?_of_mem ha'
          have him : i < m := by
            have := (List.getElem?_eq_some_iff.1 hi).1
            rw [List.length_take] at this
            omega
          rw [List.getElem?_take_of_lt him, List.getElem?_eq_getElem (by omega)] at hi
          injection hi with hi
          rw [← hi]
          by_cases e : i = m - 1
          · subst e; exact Int.le_refl _
          · exact List.pairwise_iff_getElem.1 hs i (m - 1) (by omega) (by omega) (by omega)
        have h4 : zs[m - 1] ≤ zs[m] := List.pairwise_iff_getElem.1 hs (m - 1) m (by omega) hlt (by omega)
        omega
      · rw [List.mem_append, h2, List.mem_singleton, take_mem hlt]
    · rw [if_neg hk, List.append_nil]
      refine ⟨h1, fun x => ?_⟩
      rw [h2, take_mem hlt]
      refine ⟨.inl, fun h => h.elim id fun e => ?_⟩
      have hm0 : m ≠ 0 := fun e => by subst e; simp [Lib.keeps] at hk
      have heq : zs[m] = zs[m - 1] := by
        unfold Lib.keeps at hk
        rw [hget m hlt, hget (m - 1) (by omega)] at hk
        simpa [hm0] using hk
      rw [e, heq]
      refine List.mem_of_getElem? (i := m - 1) ?_
      rw [List.getElem?_take_of_lt (by omega), List.getElem?_eq_getElem (by omega)]
theorem set_strict (bs : List Int) : (setF bs).Pairwise (· < ·) := (compact_up (srt_sorted bs) _ (Nat.le_refl _)).1
theorem set_mem (bs : List Int) (x : Int) : x ∈ setF bs ↔ x ∈ bs := by
  unfold setF Lib.compact
  rw [(compact_up (srt_sorted bs) _ (Nat.le_refl _)).2, List.take_length]
  exact (srt_perm bs).mem_iff
theorem lan_strict (g : Ge) (bs : List Int) (c : Nat) : (lan g (setF bs) c).Pairwise (· < ·) := (set_strict bs).filter _
theorem lan_mem {g : Ge} {bs : List Int} {c : Nat} {x : Int} : x ∈ lan g (setF bs) c ↔ x ∈ bs ∧ laneB g c x = true := by
  unfold lan
  rw [List.mem_filter, set_mem]
theorem laneR_strict {g : Ge} (bs : List Int) (c : Nat) (h1 : 1 ≤ g.ch) : (laneR g bs c).Pairwise (· < ·) := by
  unfold laneR laneN
  refine List.Pairwise.filter _ ?_
  rw [List.pairwise_map]
  refine List.pairwise_lt_range.imp fun {a b} hab => ?_
  have : (a : Int) * g.ch < (b : Int) * g.ch := Int.mul_lt_mul_of_pos_right (by omega) (by omega)
  omega
theorem laneR_mem {g : Ge} {bs : List Int} {c : Nat} {x : Int} (h1 : 1 ≤ g.ch) (hc : (c : Int) < g.ch) : x ∈ laneR g bs c ↔ x ∈ bs ∧ laneB g c x = true := by
  unfold laneR laneN
  rw [List.mem_filter, List.mem_map]
  simp only [decide_eq_true_eq, List.mem_range]
  constructor
  · rintro ⟨⟨i, hi, rfl⟩, hx⟩
    refine ⟨hx, ?_⟩
    have h2 := (laneK_lt h1).1 hi
    have h3 : 0 ≤ (i : Int) * g.ch := Int.mul_nonneg (by omega) (by omega)
    unfold laneB okB
    simp only [Bool.and_eq_true, decide_eq_true_eq, beq_iff_eq]
    refine ⟨⟨by omega, h2⟩, ?_⟩
    rw [Int.tmod_eq_emod_of_nonneg (by omega), Int.add_mul_emod_self_right]
    exact Int.emod_eq_of_lt (by omega) hc
  · rintro ⟨hx, hb⟩
    unfold laneB okB at hb
    simp only [Bool.and_eq_true, decide_eq_true_eq, beq_iff_eq] at hb
    obtain ⟨⟨h2, h3⟩, h4⟩ := hb
    rw [Int.tmod_eq_emod_of_nonneg h2] at h4
    have h5 := Int.emod_add_mul_ediv x g.ch
    have h6 : 0 ≤ x / g.ch := Int.ediv_nonneg h2 (by omega)
    have h7 : (((x / g.ch).toNat : Nat) : Int) = x / g.ch := Int.toNat_of_nonneg h6
    have h8 : (c : Int) + (((x / g.ch).toNat : Nat) : Int) * g.ch = x := by
      rw [h7, Int.mul_comm]
      omega
    exact ⟨⟨(x / g.ch).toNat, (laneK_lt h1).2 (by rw [h8]; exact h3), h8⟩, hx⟩
theorem laneR_eq {g : Ge} {bs : List Int} {c : Nat} (h1 : 1 ≤ g.ch) (hc : (c : Int) < g.ch) : laneR g bs c = lan g (setF bs) c :=
  strict_eq (laneR_strict bs c h1) (lan_strict g bs c) fun x => by rw [laneR_mem h1 hc, lan_mem]
def lanR (g : Ge) (bs : List Int) (C : Nat) : List (List Int) := (List.range C).map (laneR g bs)
theorem lanR_eq {g : Ge} {bs : List Int} {C : Nat} (h1 : 1 ≤ g.ch) (hC : (C : Int) ≤ g.ch) : lanR g bs C = lanF g (setF bs) C := by
  unfold lanR lanF
  refine List.map_congr_left fun c hc => laneR_eq h1 ?_
  have := List.mem_range.1 hc
  omega
theorem lanR_len (g : Ge) (bs : List Int) (C : Nat) : (lanR g bs C).length = C := by simp [lanR]
theorem lanR_get {g : Ge} {bs : List Int} {C c : Nat} (h : c < C) : (lanR g bs C)[c]? = some (laneR g bs c) := by
  unfold lanR
  rw [List.getElem?_map, List.getElem?_range h]
  rfl
theorem laneR_len {g : Ge} {bs : List Int} {c : Nat} (h1 : 1 ≤ g.ch) (h2 : nG g ≤ 64) : (laneR g bs c).length ≤ 64 :=
  Nat.le_trans (laneN_len g bs c _) (laneK_le h1 h2)
def bub (v : Int) (P : List Int) : List Int × Int := P.foldl (fun s p => if s.2 < p then (s.1 ++ [s.2], p) else (s.1 ++ [p], s.2)) ([], v)
theorem bub_snoc (v : Int) (P : List Int) (p : Int) : bub v (P ++ [p]) = if (bub v P).2 < p then ((bub v P).1 ++ [(bub v P).2], p) else ((bub v P).1 ++ [p], (bub v P).2) := by
  unfold bub
  rw [List.foldl_append]
  rfl
def bubF (s : List Int × Int) (p : Int) : List Int × Int := if s.2 < p then (s.1 ++ [s.2], p) else (s.1 ++ [p], s.2)
theorem bub_len0 : ∀ (P : List Int) (s : List Int × Int), (P.foldl bubF s).1.length = s.1.length + P.length
  | [], s => by simp
  | p :: P, s => by
    rw [List.foldl_cons, bub_len0 P, List.length_cons]
    unfold bubF
    split <;> simp <;> omega
theorem bub_len (v : Int) (P : List Int) : (bub v P).1.length = P.length := by
  have := bub_len0 P ([], v)
  rw [List.length_nil, Nat.zero_add] at this
  exact this
theorem bub_inv : ∀ (P acc : List Int) (c : Int), (acc ++ [c]).Pairwise (· ≤ ·) → P.Pairwise (· ≤ ·) → (∀ x ∈ acc, ∀ p ∈ P, x ≤ p) →
    ((P.foldl bubF (acc, c)).1 ++ [(P.foldl bubF (acc, c)).2]).Pairwise (· ≤ ·) ∧ ((P.foldl bubF (acc, c)).1 ++ [(P.foldl bubF (acc, c)).2]).Perm ((acc ++ [c]) ++ P)
  | [], acc, c, h1, _, _ => ⟨h1, by rw [List.append_nil]; exact List.Perm.refl _⟩
  | p :: P, acc, c, h1, h2, h3 => by
    rw [List.pairwise_cons] at h2
    rw [List.foldl_cons]
    have hacc := (List.pairwise_append.1 h1)
    unfold bubF
    simp only
    by_cases hp : c < p
    · rw [if_pos hp]
      obtain ⟨a1, a2⟩ := bub_inv P (acc ++ [c]) p (by
        rw [List.pairwise_append]
        refine ⟨h1, by simp, fun a ha b hb => ?_⟩
        rw [List.mem_singleton] at hb
        subst hb
        rcases List.mem_append.1 ha with ha | ha
        · exact h3 a ha _ (by simp)
        · rw [List.mem_singleton] at ha; omega) h2.2 (fun x hx q hq => by
        rcases List.mem_append.1 hx with hx | hx
        · exact h3 x hx q (by simp [hq])
        · rw [List.mem_singleton] at hx
          have := h2.1 q hq
          omega)
      refine ⟨a1, a2.trans ?_⟩
      rw [List.append_assoc (acc ++ [c])]
      exact List.Perm.refl _
    · rw [if_neg hp]
      obtain ⟨a1, a2⟩ := bub_inv P (acc ++ [p]) c (by
        rw [List.pairwise_append]
        refine ⟨?_, by simp, fun a ha b hb => ?_⟩
        · rw [List.pairwise_append]
          refine ⟨hacc.1, by simp, fun a ha b hb => ?_⟩
          rw [List.mem_singleton] at hb
          subst hb
          exact h3 a ha _ (by simp)
        · rw [List.mem_singleton] at hb
          subst hb
          rcases List.mem_append.1 ha with ha | ha
          · exact hacc.2.2 a ha _ (by simp)
          · rw [List.mem_singleton] at ha; omega) h2.2 (fun x hx q hq => by
        rcases List.mem_append.1 hx with hx | hx
        · exact h3 x hx q (by simp [hq])
        · rw [List.mem_singleton] at hx
          have := h2.1 q hq
          omega)
      refine ⟨a1, a2.trans ?_⟩
      have e1 : acc ++ [p] ++ [c] ++ P = acc ++ (p :: c :: P) := by simp
      have e2 : acc ++ [c] ++ p :: P = acc ++ (c :: p :: P) := by simp
      rw [e1, e2]
      exact (List.Perm.swap c p P).append_left acc
def bsN (out : List Int) : Nat → List Int
  | 0 => []
  | i + 1 => (bub (out.getD i 0) (bsN out i)).1 ++ [(bub (out.getD i 0) (bsN out i)).2]
theorem bsN_len (out : List Int) : ∀ i, (bsN out i).length = i
  | 0 => rfl
  | i + 1 => by
    unfold bsN
    rw [List.length_append, bub_len, bsN_len out i]
    rfl
theorem bsN_ok (out : List Int) : ∀ i, i ≤ out.length → (bsN out i).Pairwise (· ≤ ·) ∧ (bsN out i).Perm (out.take i)
  | 0, _ => ⟨by simp [bsN], by simp [bsN]⟩
  | i + 1, hi => by
    obtain ⟨h1, h2⟩ := bsN_ok out i (by omega)
    obtain ⟨a1, a2⟩ := bub_inv (bsN out i) [] (out.getD i 0) (by simp) h1 (by simp)
    refine ⟨a1, a2.trans ?_⟩
    rw [List.nil_append, List.take_succ_eq_append_getElem (by omega)]
    have e : out.getD i 0 = out[i] := by rw [List.getD_eq_getElem?_getD, List.getElem?_eq_getElem (by omega)]; rfl
    rw [e]
    exact (List.perm_append_comm (l₁ := [out[i]]) (l₂ := bsN out i)).trans (h2.append_right _)
theorem bsN_srt (out : List Int) : bsN out out.length = srt out := by
  obtain ⟨h1, h2⟩ := bsN_ok out out.length (Nat.le_refl _)
  rw [List.take_length] at h2
  exact srt_of h1 h2
end St
end Go.Proofs.Ytibefgdjijmncaa
end
section
namespace Go.Proofs.Ytibefgdjijmncaa
open Go.RowKit Sz
set_option maxHeartbeats 8000000
set_option maxRecDepth 20000
namespace St
-- almshouse/almshouseref37.Order (2 parameters)
def x28 : XC := (.seq (.tree (.seq ⟨some 2, none, (.box (.tmp 0))⟩
 (.seq ⟨some 4, none, (.ofA (.mv (.cst (.v (.slice none 0 0)))))⟩
 .done)))
 (.seq (.tree (.seq ⟨some 5, none, (.ofA (.mv (.cst (.v (.slice none 0 0)))))⟩
 .done))
 (.seq (.seq (.tree (.seq ⟨some 6, none, (.ofA (.mv (.cst (.v (.int .i64 0)))))⟩
 .done))
 (.block 0 (.loop (.seq (.seq (.tree (.seq ⟨some 9, none, (.ofA (.mv (.tmp 6)))⟩
 (.seq ⟨some 10, none, (.ofA (.bin .lss (.tmp 9) (.cst (.v (.int .i64 64)))))⟩
 .done)))
 (.cond (.tmp 10)
 .skip
 (.exit 0)))
 (.seq (.block 1 (.seq (.tree (.seq ⟨some 7, none, (.ofA (.mv (.cst (.v (.int .i64 0)))))⟩
 .done))
 (.block 2 (.loop (.seq (.seq (.tree (.seq ⟨some 13, none, (.ofA (.mv (.tmp 7)))⟩
 (.seq ⟨some 14, none, (.ofA (.faddr 0 (.tmp 2)))⟩
 (.seq ⟨some 15, none, (.ofA (.load none (.tmp 14)))⟩
 (.seq ⟨some 16, none, (.ofA (.bin .lss (.tmp 13) (.tmp 15)))⟩
 .done)))))
 (.cond (.tmp 16)
 .skip
 (.exit 2)))
 (.seq (.block 3 (.seq (.tree (.seq ⟨some 19, none, (.ofA (.load (some 4) (.tmp 2)))⟩
 (.seq ⟨some 20, none, (.ofA (.mv (.tmp 1)))⟩
 (.seq ⟨some 21, none, (.ofA (.mv (.tmp 7)))⟩
 (.seq ⟨some 22, none, (.call (.cst (.fn 29 [])) [(.tmp 19), (.tmp 20), (.tmp 21)])⟩
 (.seq ⟨some 8, none, (.ofA (.mv (.tmp 22)))⟩
 .done))))))
 (.seq (.tree (.seq ⟨some 23, none, (.ofA (.mv (.tmp 6)))⟩
 (.seq ⟨some 24, none, (.ofA (.mv (.tmp 8)))⟩
 (.seq ⟨some 25, none, (.ofA (.len (.tmp 24)))⟩
 (.seq ⟨some 26, none, (.ofA (.bin .lss (.tmp 23) (.tmp 25)))⟩
 .done)))))
 (.cond (.tmp 26)
 (.tree (.seq ⟨some 27, none, (.ofA (.mv (.tmp 5)))⟩
 (.seq ⟨some 28, none, (.ofA (.mv (.tmp 8)))⟩
 (.seq ⟨some 29, none, (.ofA (.mv (.tmp 6)))⟩
 (.seq ⟨some 30, none, (.ofA (.isl 1 (.tmp 28) (.tmp 29)))⟩
 (.seq ⟨some 31, none, (.ofA (.load none (.tmp 30)))⟩
 (.seq ⟨some 32, none, (.buildSl 1 1 [(.v (.int .i64 0))] [(0, 1, (.tmp 31))])⟩
 (.seq ⟨some 33, none, (.app 1 8 (.tmp 27) (.tmp 32))⟩
 (.seq ⟨some 5, none, (.ofA (.mv (.tmp 33)))⟩
 .done)))))))))
 .skip))))
 (.tree (.seq ⟨some 17, none, (.ofA (.mv (.tmp 7)))⟩
 (.seq ⟨some 18, none, (.ofA (.bin .add (.tmp 17) (.cst (.v (.int .i64 1)))))⟩
 (.seq ⟨some 7, none, (.ofA (.mv (.tmp 18)))⟩
 .done))))))))))
 (.tree (.seq ⟨some 11, none, (.ofA (.mv (.tmp 6)))⟩
 (.seq ⟨some 12, none, (.ofA (.bin .add (.tmp 11) (.cst (.v (.int .i64 1)))))⟩
 (.seq ⟨some 6, none, (.ofA (.mv (.tmp 12)))⟩
 .done)))))))))
 (.seq (.tree (.seq ⟨some 34, none, (.ofA (.mv (.tmp 5)))⟩
 (.seq ⟨some 4, none, (.ofA (.mv (.tmp 34)))⟩
 .done)))
 .ret))))
def r28 : List XR := [.tmp 4]
theorem fn28 : FnX Try.prog 28 [64, 106] 35 x28 r28 := ⟨_, Try.func28, by kernel_rfl, by kernel_rfl, by kernel_rfl, by kernel_rfl⟩
theorem intS_len {j : Nat} {L : List Int} {K : SV → Prop} : lenK (intS j L) K = K (.v (.int .i64 (L.length : Int))) := by
  unfold intS
  split
  · rename_i h
    subst h
    rfl
  · rfl
def c28 [Inp] : Trans := fun args m k => ∃ (g : Ge) (s : SV) (bs : List Int), args = [.agg g.sv, s] ∧ rdI m s = some bs ∧ bs.length ≤ 100000 ∧ chkG g = true ∧
  k (intS m.length (ordN (lanR g bs g.ch.toNat) 64)) (m ++ intM (ordN (lanR g bs g.ch.toNat) 64))
theorem g29 [Inp] : GOk Try.prog [⟨29, true, c29⟩] := GOk.cons c29_ok (g0 _)
theorem c28_ok [I : Inp] : Contract Try.prog 28 true c28 := by
  refine .readF fn28 (G := fun J => [⟨29, true, @c29 J⟩]) (fun J => @g29 J) _ fun args m k h => ?_
  obtain ⟨g, s, bs, rfl, hb, hmax, hg, hk⟩ := h
  refine ⟨by simp [Ge.sv], fun J hJ us hus => ?_⟩
  obtain ⟨u, t1, rfl, hu1, u2, t2, rfl, hu2, rfl⟩ := hus
  obtain rfl := hu1.2.1 g.vs rfl
  obtain ⟨p, cc, rfl, hin⟩ := rdI_knows hb hu2
  rw [List.map_cons, List.map_cons, List.map_nil, show SV.of (.agg g.vs.toArray) = _ from ge_of g]
  obtain ⟨⟨⟨m1, m1'⟩, ⟨m2, m2'⟩, ⟨m3, m3'⟩, m4, m4'⟩, m5, m6⟩ := chk_in.1 hg
  obtain ⟨C, hC⟩ : ∃ C : Nat, g.ch = (C : Int) := ⟨g.ch.toNat, by omega⟩
  have hCt : g.ch.toNat = C := by omega
  rw [hCt] at hk
  have hrd : ∀ m', rdI m' (.v (.slice p bs.length cc)) = some bs := fun m' => rdI_v hin
  simp (maxSteps := 2000000) -implicitDefEqProofs only [↓x28, ↓r28, s_alt, s_alt20, s_alt2t, s_alt2f, ↓s_loopi, ↓v_pq, ↓PRE, POST, CORE, Nat.reduceDiv, Nat.reduceMod, Int.reduceLT, Int.reduceLE, Int.reduceToNat, Int.reduceAdd, ↓reduceIte, Nat.reduceEqDiff, Nat.reduceAdd, Nat.reduceMul, Nat.reduceSub, Nat.reduceLeDiff, Nat.reduceLT, reduceCtorEq, if_true, eq_self, forall_const, implies_true]
  refine TXi_of (TX_count (@g29 J) 64 (fun x => [(1, .v (.slice p bs.length cc)), (2, .ptr 0 0), (5, oV 1 1 (ordN (lanR g bs C) x).length), (6, .v (.int .i64 (x : Int)))]) (fun x => [⟨true, [.v (.int .i64 g.ch), .v (.int .i64 g.di), .v (.int .i64 g.bl), .v (.int .i64 g.pa)]⟩, oO (iL (ordN (lanR g bs C) x))]) (fun _ => True) trivial ?_ ?_ ?_)
  · have e0 : ordN (lanR g bs C) 0 = [] := rfl
    rw [e0]
    exact (by refine ⟨[0, 0], by simp [NdL, NdA, oO_cells, oO_own, iL_nil], ?_, ?_, keep0 hJ⟩ <;> simp only [FitM, FitE, ObLe, LeL, Le, List.cons_append, List.nil_append] <;> (try (simp (maxSteps := 2000000) -implicitDefEqProofs only [extO, extO2, extLe_no, or_true, o_sl, o_grows, o_kill, o_len, o_cap, o_isl, o_le, o_cells, o_one, oOk_c, oOk_o, oO_cells, oO_own, oV_s, oV_0, oO_nil, oO_iL, iL_nil, iL_snoc, List.length_append, iL_fold, iL_over, iL_all, iL_get, iL_len, iL_take, iL_drop, iL_one, iL_plain, iL_le, List.length_set, List.length_nil, s_alt, s_alt20, s_alt2t, s_alt2f, ↓s_loopi, ↓v_pq, ↓PRE, POST, CORE, Nat.reduceDiv, Nat.reduceMod, Int.reduceLT, Int.reduceLE, Int.reduceToNat, Int.reduceAdd, ↓reduceIte, Nat.reduceEqDiff, Nat.reduceAdd, Nat.reduceMul, Nat.reduceSub, Nat.reduceLeDiff, Nat.reduceLT, reduceCtorEq, if_true, eq_self, forall_const, implies_true])) <;> (try simp only [Sz.Le, Sz.LeL, List.getElem?_cons_zero, List.getElem?_cons_succ]) <;> (try simp))
  · intro x hx _
    have j1 : (x : Int) < 64 := by omega
    have j0 : (0 : Int) ≤ (x : Int) := by omega
    have w0 : IntKind.i64.wrap ((x : Int) + 1) = (x : Int) + 1 := Sz.w_64 (by omega) (by omega)
    have hob := ordN_len (lanR g bs C) x
    rw [lanR_len] at hob
    have hob2 : x * C ≤ 64 * 64 := Nat.mul_le_mul (by omega) (by omega)
    have hsc := ordN_succ (lanR g bs C) x
    simp (maxSteps := 2000000) -implicitDefEqProofs only [j1, s_alt, s_alt20, s_alt2t, s_alt2f, ↓s_loopi, ↓v_pq, ↓PRE, POST, CORE, Nat.reduceDiv, Nat.reduceMod, Int.reduceLT, Int.reduceLE, Int.reduceToNat, Int.reduceAdd, ↓reduceIte, Nat.reduceEqDiff, Nat.reduceAdd, Nat.reduceMul, Nat.reduceSub, Nat.reduceLeDiff, Nat.reduceLT, reduceCtorEq, if_true, eq_self, forall_const, implies_true]
    refine TXi_of (TX_count (@g29 J) C (fun c => [(1, .v (.slice p bs.length cc)), (2, .ptr 0 0), (5, oV 1 1 (ordN (lanR g bs C) x ++ rowAt (lanR g bs c) x).length), (6, .v (.int .i64 (x : Int))), (7, .v (.int .i64 (c : Int)))]) (fun c => [⟨true, [.v (.int .i64 g.ch), .v (.int .i64 g.di), .v (.int .i64 g.bl), .v (.int .i64 g.pa)]⟩, oO (iL (ordN (lanR g bs C) x ++ rowAt (lanR g bs c) x))]) (fun _ => True) trivial ?_ ?_ ?_)
    · have e0 : rowAt (lanR g bs 0) x = [] := rfl
      rw [e0, List.append_nil]
      exact (by refine ⟨[0, 1], by simp [NdL, NdA, oO_cells, oO_own, iL_nil], ?_, ?_, keep0 hJ⟩ <;> simp only [FitM, FitE, ObLe, LeL, Le, List.cons_append, List.nil_append] <;> (try (simp (maxSteps := 2000000) -implicitDefEqProofs only [extO, extO2, extLe_no, or_true, o_sl, o_grows, o_kill, o_len, o_cap, o_isl, o_le, o_cells, o_one, oOk_c, oOk_o, oO_cells, oO_own, oV_s, oV_0, oO_nil, oO_iL, iL_nil, iL_snoc, List.length_append, iL_fold, iL_over, iL_all, iL_get, iL_len, iL_take, iL_drop, iL_one, iL_plain, iL_le, List.length_set, s_alt, s_alt20, s_alt2t, s_alt2f, ↓s_loopi, ↓v_pq, ↓PRE, POST, CORE, Nat.reduceDiv, Nat.reduceMod, Int.reduceLT, Int.reduceLE, Int.reduceToNat, Int.reduceAdd, ↓reduceIte, Nat.reduceEqDiff, Nat.reduceAdd, Nat.reduceMul, Nat.reduceSub, Nat.reduceLeDiff, Nat.reduceLT, reduceCtorEq, if_true, eq_self, forall_const, implies_true])) <;> (try simp only [Sz.Le, Sz.LeL, List.getElem?_cons_zero, List.getElem?_cons_succ]) <;> (try simp))
    · intro c hc _
      have k1 : (c : Int) < (C : Int) := by omega
      have k1' : (c : Int) < g.ch := by omega
      have w1 : IntKind.i64.wrap ((c : Int) + 1) = (c : Int) + 1 := Sz.w_64 (by omega) (by omega)
      have hrl := rowAt_len (lanR g bs c) x
      rw [lanR_len] at hrl
      have hsn : lanR g bs (c + 1) = lanR g bs c ++ [laneR g bs c] := by unfold lanR; rw [List.range_succ, List.map_append]; rfl
      rw [hsn, rowAt_snoc, ← List.append_assoc]
      have hol : (ordN (lanR g bs C) x ++ rowAt (lanR g bs c) x).length ≤ 10000 := by rw [List.length_append]; omega
      generalize ordN (lanR g bs C) x ++ rowAt (lanR g bs c) x = O at hol ⊢
      have hll := @laneR_len g bs c m1 m6
      simp (maxSteps := 2000000) -implicitDefEqProofs only [k1', hC ▸ k1, ↓c29, s_alt, s_alt20, s_alt2t, s_alt2f, ↓s_loopi, ↓v_pq, ↓PRE, POST, CORE, Nat.reduceDiv, Nat.reduceMod, Int.reduceLT, Int.reduceLE, Int.reduceToNat, Int.reduceAdd, ↓reduceIte, Nat.reduceEqDiff, Nat.reduceAdd, Nat.reduceMul, Nat.reduceSub, Nat.reduceLeDiff, Nat.reduceLT, reduceCtorEq, if_true, eq_self, forall_const, implies_true]
      refine ⟨g, _, bs, c, rfl, hrd _, hmax, hg, k1', ?_⟩
      generalize laneR g bs c = l at hll ⊢
      by_cases hxl : x < l.length
      · obtain ⟨b, hb⟩ : ∃ b, l[x]? = some b := ⟨_, List.getElem?_eq_getElem hxl⟩
        have hne : l ≠ [] := fun h => by subst h; simp at hxl
        have j2 : (x : Int) < (l.length : Int) := by omega
        have j3 : x + 1 ≤ l.length := hxl
        have hbx : (iL l)[x]? = some (.v (.int .i64 b)) := by unfold iL; rw [List.getElem?_map, hb]; rfl
        rw [hb, show (some b).toList = [b] from rfl]
        simp only [intS, intM, hne, if_false]
        simp (maxSteps := 2000000) -implicitDefEqProofs only [j0, j2, j3, hbx, w1, o_sl, o_grows, o_kill, o_len, o_cap, o_isl, o_le, o_cells, o_one, oOk_c, oOk_o, oO_cells, oO_own, oV_s, oV_0, oO_nil, oO_iL, iL_nil, iL_snoc, List.length_append, iL_fold, iL_over, iL_all, iL_get, iL_len, iL_take, iL_drop, iL_one, iL_plain, iL_le, List.length_set, s_alt, s_alt20, s_alt2t, s_alt2f, ↓s_loopi, ↓v_pq, ↓PRE, POST, CORE, Nat.reduceDiv, Nat.reduceMod, Int.reduceLT, Int.reduceLE, Int.reduceToNat, Int.reduceAdd, ↓reduceIte, Nat.reduceEqDiff, Nat.reduceAdd, Nat.reduceMul, Nat.reduceSub, Nat.reduceLeDiff, Nat.reduceLT, reduceCtorEq, if_true, eq_self, forall_const, implies_true]
        exact ⟨⟨by unfold maxLen; omega, by omega⟩, (by refine ⟨[0, 4], by simp [NdL, NdA, oO_cells, oO_own, iL_nil], ?_, ?_, keep0 hJ⟩ <;> simp only [FitM, FitE, ObLe, LeL, Le, List.cons_append, List.nil_append] <;> (try (simp (maxSteps := 2000000) -implicitDefEqProofs only [extO, extO2, extLe_no, or_true, o_sl, o_grows, o_kill, o_len, o_cap, o_isl, o_le, o_cells, o_one, oOk_c, oOk_o, oO_cells, oO_own, oV_s, oV_0, oO_nil, oO_iL, iL_nil, iL_snoc, List.length_append, iL_fold, iL_over, iL_all, iL_get, iL_len, iL_take, iL_drop, iL_one, iL_plain, iL_le, List.length_set, List.length_cons, List.length_nil, s_alt, s_alt20, s_alt2t, s_alt2f, ↓s_loopi, ↓v_pq, ↓PRE, POST, CORE, Nat.reduceDiv, Nat.reduceMod, Int.reduceLT, Int.reduceLE, Int.reduceToNat, Int.reduceAdd, ↓reduceIte, Nat.reduceEqDiff, Nat.reduceAdd, Nat.reduceMul, Nat.reduceSub, Nat.reduceLeDiff, Nat.reduceLT, reduceCtorEq, if_true, eq_self, forall_const, implies_true])) <;> (try simp only [Sz.Le, Sz.LeL, List.getElem?_cons_zero, List.getElem?_cons_succ]) <;> (try simp))⟩
      · have hb : l[x]? = none := List.getElem?_eq_none (by omega)
        have j2 : ¬ (x : Int) < (l.length : Int) := by omega
        rw [hb, show (none : Option Int).toList = [] from rfl, List.append_nil]
        simp (maxSteps := 2000000) -implicitDefEqProofs only [intS_len, j2, w1, s_alt, s_alt20, s_alt2t, s_alt2f, ↓s_loopi, ↓v_pq, ↓PRE, POST, CORE, Nat.reduceDiv, Nat.reduceMod, Int.reduceLT, Int.reduceLE, Int.reduceToNat, Int.reduceAdd, ↓reduceIte, Nat.reduceEqDiff, Nat.reduceAdd, Nat.reduceMul, Nat.reduceSub, Nat.reduceLeDiff, Nat.reduceLT, reduceCtorEq, if_true, eq_self, forall_const, implies_true]
        exact (by refine ⟨[0, 1], by simp [NdL, NdA, oO_cells, oO_own, iL_nil], ?_, ?_, keep0 hJ⟩ <;> simp only [FitM, FitE, ObLe, LeL, Le, List.cons_append, List.nil_append] <;> (try (simp (maxSteps := 2000000) -implicitDefEqProofs only [extO, extO2, extLe_no, or_true, o_sl, o_grows, o_kill, o_len, o_cap, o_isl, o_le, o_cells, o_one, oOk_c, oOk_o, oO_cells, oO_own, oV_s, oV_0, oO_nil, oO_iL, iL_nil, iL_snoc, List.length_append, iL_fold, iL_over, iL_all, iL_get, iL_len, iL_take, iL_drop, iL_one, iL_plain, iL_le, List.length_set, s_alt, s_alt20, s_alt2t, s_alt2f, ↓s_loopi, ↓v_pq, ↓PRE, POST, CORE, Nat.reduceDiv, Nat.reduceMod, Int.reduceLT, Int.reduceLE, Int.reduceToNat, Int.reduceAdd, ↓reduceIte, Nat.reduceEqDiff, Nat.reduceAdd, Nat.reduceMul, Nat.reduceSub, Nat.reduceLeDiff, Nat.reduceLT, reduceCtorEq, if_true, eq_self, forall_const, implies_true])) <;> (try simp only [Sz.Le, Sz.LeL, List.getElem?_cons_zero, List.getElem?_cons_succ]) <;> (try simp))
    · intro _
      have k1 : ¬ (C : Int) < (C : Int) := by omega
      have k1' : ¬ (C : Int) < g.ch := by omega
      rw [← hsc]
      simp (maxSteps := 2000000) -implicitDefEqProofs only [k1', hC ▸ k1, w0, s_alt, s_alt20, s_alt2t, s_alt2f, ↓s_loopi, ↓v_pq, ↓PRE, POST, CORE, Nat.reduceDiv, Nat.reduceMod, Int.reduceLT, Int.reduceLE, Int.reduceToNat, Int.reduceAdd, ↓reduceIte, Nat.reduceEqDiff, Nat.reduceAdd, Nat.reduceMul, Nat.reduceSub, Nat.reduceLeDiff, Nat.reduceLT, reduceCtorEq, if_true, eq_self, forall_const, implies_true]
      exact (by refine ⟨[0, 1], by simp [NdL, NdA, oO_cells, oO_own, iL_nil], ?_, ?_, keep0 hJ⟩ <;> simp only [FitM, FitE, ObLe, LeL, Le, List.cons_append, List.nil_append] <;> (try (simp (maxSteps := 2000000) -implicitDefEqProofs only [extO, extO2, extLe_no, or_true, o_sl, o_grows, o_kill, o_len, o_cap, o_isl, o_le, o_cells, o_one, oOk_c, oOk_o, oO_cells, oO_own, oV_s, oV_0, oO_nil, oO_iL, iL_nil, iL_snoc, List.length_append, iL_fold, iL_over, iL_all, iL_get, iL_len, iL_take, iL_drop, iL_one, iL_plain, iL_le, List.length_set, s_alt, s_alt20, s_alt2t, s_alt2f, ↓s_loopi, ↓v_pq, ↓PRE, POST, CORE, Nat.reduceDiv, Nat.reduceMod, Int.reduceLT, Int.reduceLE, Int.reduceToNat, Int.reduceAdd, ↓reduceIte, Nat.reduceEqDiff, Nat.reduceAdd, Nat.reduceMul, Nat.reduceSub, Nat.reduceLeDiff, Nat.reduceLT, reduceCtorEq, if_true, eq_self, forall_const, implies_true])) <;> (try simp only [Sz.Le, Sz.LeL, List.getElem?_cons_zero, List.getElem?_cons_succ]) <;> (try simp))
  · intro _
    simp (maxSteps := 2000000) -implicitDefEqProofs only [Int.lt_irrefl, s_alt, s_alt20, s_alt2t, s_alt2f, ↓s_loopi, ↓v_pq, ↓PRE, POST, CORE, Nat.reduceDiv, Nat.reduceMod, Int.reduceLT, Int.reduceLE, Int.reduceToNat, Int.reduceAdd, ↓reduceIte, Nat.reduceEqDiff, Nat.reduceAdd, Nat.reduceMul, Nat.reduceSub, Nat.reduceLeDiff, Nat.reduceLT, reduceCtorEq, if_true, eq_self, forall_const, implies_true]
    refine fin_int (ordN (lanR g bs C) 64) _ _ 1 (fun h => by rw [h]; rfl) (fun h => ⟨by unfold oV; rw [if_neg (fun q => h (List.length_eq_zero_iff.1 q))], ?_⟩) hk
    simp only [List.getElem?_cons_zero, List.getElem?_cons_succ]
    rw [oO_al h]
end St
end Go.Proofs.Ytibefgdjijmncaa
end
section
namespace Go.Proofs.Ytibefgdjijmncaa
open Go.RowKit Sz
set_option maxHeartbeats 8000000
set_option maxRecDepth 20000
namespace St
-- almshouse/almshouseref37.Pick (3 parameters)
def x25 : XC := (.seq (.tree (.seq ⟨some 3, none, (.box (.tmp 0))⟩
 (.seq ⟨some 6, none, (.ofA (.mv (.cst (.v (.slice none 0 0)))))⟩
 (.seq ⟨some 7, none, (.ofA (.mv (.cst (.v (.bool false)))))⟩
 .done))))
 (.seq (.tree (.seq ⟨some 8, none, (.ofA (.mv (.cst (.v (.slice none 0 0)))))⟩
 .done))
 (.seq (.block 0 (.loop (.seq (.seq (.tree (.seq ⟨some 15, none, (.ofA (.mv (.tmp 8)))⟩
 (.seq ⟨some 16, none, (.ofA (.len (.tmp 15)))⟩
 (.seq ⟨some 17, none, (.ofA (.mv (.tmp 2)))⟩
 (.seq ⟨some 18, none, (.ofA (.bin .lss (.tmp 16) (.tmp 17)))⟩
 .done)))))
 (.cond (.tmp 18)
 .skip
 (.exit 0)))
 (.block 1 (.seq (.tree (.seq ⟨some 9, none, (.ofA (.mv (.cst (.v (.int .i64 (-1))))))⟩
 .done))
 (.seq (.seq (.tree (.seq ⟨some 10, none, (.ofA (.mv (.cst (.v (.int .i64 0)))))⟩
 .done))
 (.block 2 (.loop (.seq (.seq (.tree (.seq ⟨some 19, none, (.ofA (.mv (.tmp 10)))⟩
 (.seq ⟨some 20, none, (.ofA (.faddr 0 (.tmp 3)))⟩
 (.seq ⟨some 21, none, (.ofA (.load none (.tmp 20)))⟩
 (.seq ⟨some 22, none, (.ofA (.bin .lss (.tmp 19) (.tmp 21)))⟩
 .done)))))
 (.cond (.tmp 22)
 .skip
 (.exit 2)))
 (.seq (.block 3 (.seq (.tree (.seq ⟨some 25, none, (.ofA (.load (some 4) (.tmp 3)))⟩
 (.seq ⟨some 26, none, (.ofA (.mv (.tmp 8)))⟩
 (.seq ⟨some 27, none, (.call (.cst (.fn 26 [])) [(.tmp 25), (.tmp 26)])⟩
 (.seq ⟨some 28, none, (.ofA (.mv (.tmp 10)))⟩
 (.seq ⟨some 29, none, (.ofA (.isl 1 (.tmp 27) (.tmp 28)))⟩
 (.seq ⟨some 30, none, (.ofA (.load none (.tmp 29)))⟩
 (.seq ⟨some 11, none, (.ofA (.mv (.tmp 30)))⟩
 .done))))))))
 (.seq (.tree (.seq ⟨some 31, none, (.ofA (.mv (.tmp 11)))⟩
 (.seq ⟨some 32, none, (.ofA (.load (some 4) (.tmp 3)))⟩
 (.seq ⟨some 33, none, (.ofA (.mv (.tmp 1)))⟩
 (.seq ⟨some 34, none, (.ofA (.mv (.tmp 10)))⟩
 (.seq ⟨some 35, none, (.call (.cst (.fn 29 [])) [(.tmp 32), (.tmp 33), (.tmp 34)])⟩
 (.seq ⟨some 36, none, (.ofA (.len (.tmp 35)))⟩
 (.seq ⟨some 37, none, (.ofA (.bin .lss (.tmp 31) (.tmp 36)))⟩
 (.seq ⟨some 38, none, (.ofA (.mv (.tmp 37)))⟩
 (.seq ⟨some 39, some (38, true), (.ofA (.mv (.tmp 9)))⟩
 (.seq ⟨some 40, some (38, true), (.ofA (.bin .lss (.tmp 39) (.cst (.v (.int .i64 0)))))⟩
 (.seq ⟨some 41, some (38, true), (.ofA (.mv (.tmp 40)))⟩
 (.seq ⟨some 42, some (41, false), (.ofA (.mv (.tmp 11)))⟩
 (.seq ⟨some 43, some (41, false), (.ofA (.load (some 4) (.tmp 3)))⟩
 (.seq ⟨some 44, some (41, false), (.ofA (.mv (.tmp 8)))⟩
 (.seq ⟨some 45, some (41, false), (.call (.cst (.fn 26 [])) [(.tmp 43), (.tmp 44)])⟩
 (.seq ⟨some 46, some (41, false), (.ofA (.mv (.tmp 9)))⟩
 (.seq ⟨some 47, some (41, false), (.ofA (.isl 1 (.tmp 45) (.tmp 46)))⟩
 (.seq ⟨some 48, some (41, false), (.ofA (.load none (.tmp 47)))⟩
 (.seq ⟨some 49, some (41, false), (.ofA (.bin .lss (.tmp 42) (.tmp 48)))⟩
 (.seq ⟨some 50, some (38, true), (.ofA (.pick (.tmp 41) (.cst (.v (.bool true))) (.tmp 49)))⟩
 (.seq ⟨some 51, none, (.ofA (.pick (.tmp 38) (.tmp 50) (.cst (.v (.bool false)))))⟩
 .done))))))))))))))))))))))
 (.cond (.tmp 51)
 (.tree (.seq ⟨some 52, none, (.ofA (.mv (.tmp 10)))⟩
 (.seq ⟨some 9, none, (.ofA (.mv (.tmp 52)))⟩
 .done)))
 .skip))))
 (.tree (.seq ⟨some 23, none, (.ofA (.mv (.tmp 10)))⟩
 (.seq ⟨some 24, none, (.ofA (.bin .add (.tmp 23) (.cst (.v (.int .i64 1)))))⟩
 (.seq ⟨some 10, none, (.ofA (.mv (.tmp 24)))⟩
 .done)))))))))
 (.seq (.seq (.tree (.seq ⟨some 53, none, (.ofA (.mv (.tmp 9)))⟩
 (.seq ⟨some 54, none, (.ofA (.bin .lss (.tmp 53) (.cst (.v (.int .i64 0)))))⟩
 .done)))
 (.cond (.tmp 54)
 (.seq (.tree (.seq ⟨some 6, none, (.ofA (.mv (.cst (.v (.slice none 0 0)))))⟩
 (.seq ⟨some 7, none, (.ofA (.mv (.cst (.v (.bool false)))))⟩
 .done)))
 .ret)
 .skip))
 (.tree (.take ⟨some 55, none, (.ofA (.mv (.tmp 8)))⟩
 (.take ⟨some 56, none, (.ofA (.load (some 4) (.tmp 3)))⟩
 (.take ⟨some 57, none, (.ofA (.mv (.tmp 1)))⟩
 (.take ⟨some 58, none, (.ofA (.mv (.tmp 9)))⟩
 (.take ⟨some 60, none, (.ofA (.load (some 4) (.tmp 3)))⟩
 (.take ⟨some 61, none, (.ofA (.mv (.tmp 8)))⟩
 (.take ⟨some 63, none, (.ofA (.mv (.tmp 9)))⟩
 (.alt [true] [(⟨some 59, none, (.call (.cst (.fn 29 [])) [(.tmp 56), (.tmp 57), (.tmp 58)])⟩,
 (.alt [true] [(⟨some 62, none, (.call (.cst (.fn 26 [])) [(.tmp 60), (.tmp 61)])⟩,
 (.take ⟨some 64, none, (.ofA (.isl 1 (.tmp 62) (.tmp 63)))⟩
 (.take ⟨some 65, none, (.ofA (.load none (.tmp 64)))⟩
 (.take ⟨some 66, none, (.ofA (.isl 1 (.tmp 59) (.tmp 65)))⟩
 (.take ⟨some 67, none, (.ofA (.load none (.tmp 66)))⟩
 (.alt [true] [(⟨some 68, none, (.buildSl 1 1 [(.v (.int .i64 0))] [(0, 1, (.tmp 67))])⟩,
 (.alt [false] [(⟨some 69, none, (.app 1 8 (.tmp 55) (.tmp 68))⟩,
 (.take ⟨some 8, none, (.ofA (.mv (.tmp 69)))⟩
 .done))]))]))))))]))]))))))))))))))))
 (.seq (.seq (.tree (.seq ⟨some 70, none, (.ofA (.mv (.tmp 8)))⟩
 (.seq ⟨some 71, none, (.ofA (.len (.tmp 70)))⟩
 (.seq ⟨some 72, none, (.ofA (.mv (.cst (.v (.int .i64 0)))))⟩
 .done))))
 (.block 4 (.loop (.seq (.tree (.seq ⟨some 73, none, (.ofA (.bin .lss (.tmp 72) (.tmp 71)))⟩
 .done))
 (.seq (.cond (.tmp 73)
 .skip
 (.exit 4))
 (.seq (.block 5 (.seq (.tree (.seq ⟨some 74, none, (.ofA (.mv (.tmp 72)))⟩
 (.seq ⟨some 12, none, (.ofA (.mv (.tmp 74)))⟩
 .done)))
 (.seq (.tree (.seq ⟨some 13, none, (.ofA (.mv (.cst (.v (.int .i64 0)))))⟩
 .done))
 (.block 6 (.loop (.seq (.seq (.tree (.seq ⟨some 75, none, (.ofA (.mv (.tmp 13)))⟩
 (.seq ⟨some 76, none, (.ofA (.mv (.tmp 12)))⟩
 (.seq ⟨some 77, none, (.ofA (.bin .lss (.tmp 75) (.tmp 76)))⟩
 .done))))
 (.cond (.tmp 77)
 .skip
 (.exit 6)))
 (.seq (.block 7 (.seq (.tree (.take ⟨some 80, none, (.ofA (.mv (.tmp 8)))⟩
 (.take ⟨some 81, none, (.ofA (.mv (.tmp 13)))⟩
 (.take ⟨some 82, none, (.ofA (.isl 1 (.tmp 80) (.tmp 81)))⟩
 (.take ⟨some 83, none, (.ofA (.load none (.tmp 82)))⟩
 (.take ⟨some 84, none, (.ofA (.mv (.tmp 8)))⟩
 (.take ⟨some 85, none, (.ofA (.mv (.tmp 12)))⟩
 (.take ⟨some 86, none, (.ofA (.isl 1 (.tmp 84) (.tmp 85)))⟩
 (.take ⟨some 87, none, (.ofA (.load none (.tmp 86)))⟩
 (.take ⟨some 88, none, (.ofA (.bin .gtr (.tmp 83) (.tmp 87)))⟩
 .done))))))))))
 (.cond (.tmp 88)
 (.seq (.tree (.seq ⟨some 89, none, (.ofA (.mv (.tmp 8)))⟩
 (.seq ⟨some 90, none, (.ofA (.mv (.tmp 13)))⟩
 (.seq ⟨some 91, none, (.ofA (.isl 1 (.tmp 89) (.tmp 90)))⟩
 (.seq ⟨some 92, none, (.ofA (.load none (.tmp 91)))⟩
 (.seq ⟨some 14, none, (.ofA (.mv (.tmp 92)))⟩
 .done))))))
 (.seq (.tree (.seq ⟨some 93, none, (.ofA (.mv (.tmp 8)))⟩
 (.seq ⟨some 94, none, (.ofA (.mv (.tmp 13)))⟩
 (.seq ⟨some 95, none, (.ofA (.mv (.tmp 8)))⟩
 (.seq ⟨some 96, none, (.ofA (.mv (.tmp 12)))⟩
 (.seq ⟨some 97, none, (.ofA (.isl 1 (.tmp 95) (.tmp 96)))⟩
 (.seq ⟨some 98, none, (.ofA (.load none (.tmp 97)))⟩
 (.seq ⟨some 99, none, (.ofA (.isl 1 (.tmp 93) (.tmp 94)))⟩
 (.seq ⟨none, none, (.store 1 (.tmp 99) (.tmp 98))⟩
 .done)))))))))
 (.tree (.seq ⟨some 100, none, (.ofA (.mv (.tmp 8)))⟩
 (.seq ⟨some 101, none, (.ofA (.mv (.tmp 12)))⟩
 (.seq ⟨some 102, none, (.ofA (.mv (.tmp 14)))⟩
 (.seq ⟨some 103, none, (.ofA (.isl 1 (.tmp 100) (.tmp 101)))⟩
 (.seq ⟨none, none, (.store 1 (.tmp 103) (.tmp 102))⟩
 .done))))))))
 .skip)))
 (.tree (.seq ⟨some 78, none, (.ofA (.mv (.tmp 13)))⟩
 (.seq ⟨some 79, none, (.ofA (.bin .add (.tmp 78) (.cst (.v (.int .i64 1)))))⟩
 (.seq ⟨some 13, none, (.ofA (.mv (.tmp 79)))⟩
 .done)))))))))))
 (.tree (.seq ⟨some 104, none, (.ofA (.bin .add (.tmp 72) (.cst (.v (.int .i64 1)))))⟩
 (.seq ⟨some 72, none, (.ofA (.mv (.tmp 104)))⟩
 .done)))))))))
 (.seq (.tree (.seq ⟨some 105, none, (.ofA (.mv (.tmp 8)))⟩
 (.seq ⟨some 106, none, (.ofA (.mv (.tmp 2)))⟩
 (.seq ⟨some 107, none, (.ofA (.bin .geq (.tmp 106) (.cst (.v (.int .i64 0)))))⟩
 (.seq ⟨some 6, none, (.ofA (.mv (.tmp 105)))⟩
 (.seq ⟨some 7, none, (.ofA (.mv (.tmp 107)))⟩
 .done))))))
 .ret)))))
def r25 : List XR := [.tmp 6, .tmp 7]
theorem fn25 : FnX Try.prog 25 [64, 106] 108 x25 r25 := ⟨_, Try.func25, by kernel_rfl, by kernel_rfl, by kernel_rfl, by kernel_rfl⟩
def c25 [Inp] : Trans := fun args m k => ∃ (g : Ge) (s : SV) (bs : List Int) (many : Int), args = [.agg g.sv, s, .v (.int .i64 many)] ∧ rdI m s = some bs ∧ bs.length ≤ 100000 ∧ chkG g = true ∧ (-9223372036854775808 ≤ many ∧ many ≤ 100000) ∧
  (many < 0 → k (.tup [.v (.slice none 0 0), .v (.bool false)]) m) ∧
  (0 ≤ many → (pickS (lanR g bs g.ch.toNat) many.toNat = none → k (.tup [.v (.slice none 0 0), .v (.bool false)]) m) ∧
    (∀ s, pickS (lanR g bs g.ch.toNat) many.toNat = some s → k (.tup [intS m.length (srt s.1), .v (.bool true)]) (m ++ intM (srt s.1))))
def G25 [Inp] : List CEntry := [⟨26, true, c26⟩, ⟨29, true, c29⟩]
theorem g25 [Inp] : GOk Try.prog G25 := GOk.cons c26_ok (GOk.cons c29_ok (g0 _))
theorem lnA_R {g : Ge} {bs : List Int} {C c : Nat} (h : c < C) : lnA (lanR g bs C) c = laneR g bs c := by
  unfold lnA
  rw [List.getD_eq_getElem?_getD, lanR_get h]
  rfl
theorem load_step {g : Ge} {bs out : List Int} {C B t : Nat} {b : Int} (h1 : 1 ≤ g.ch) (hC : (C : Int) = g.ch) (hB : B < C) (hb : (laneR g bs B)[t]? = some b) : loadF g (out ++ [b]) C = (loadF g out C).set B (tkA (loadF g out C) B + 1) := by
  have hm := (laneR_mem h1 (by omega)).1 (List.mem_of_getElem? hb)
  have h2 := hm.2
  unfold laneB at h2
  simp only [Bool.and_eq_true, beq_iff_eq] at h2
  rw [loadF_at h2.1 h2.2]
  congr 1
  unfold tkA
  rw [List.getD_eq_getElem?_getD, loadF_get hB]
  rfl
def midO (out : List Int) (i k : Nat) : List Int := (bub (out.getD i 0) ((bsN out i).take k)).1 ++ ((bsN out i).drop k ++ ((bub (out.getD i 0) ((bsN out i).take k)).2 :: out.drop (i + 1)))
theorem midO_0 {out : List Int} {i : Nat} (h : i < out.length) : midO out i 0 = bsN out i ++ out.drop i := by
  unfold midO
  rw [List.take_zero, List.drop_zero, List.drop_eq_getElem_cons h]
  have e : out.getD i 0 = out[i] := by rw [List.getD_eq_getElem?_getD, List.getElem?_eq_getElem h]; rfl
  rw [e]
  rfl
theorem midO_i (out : List Int) (i : Nat) : midO out i i = bsN out (i + 1) ++ out.drop (i + 1) := by
  rw [show bsN out (i + 1) = (bub (out.getD i 0) (bsN out i)).1 ++ [(bub (out.getD i 0) (bsN out i)).2] from rfl]
  unfold midO
  have hl := bsN_len out i
  have e1 : (bsN out i).take i = bsN out i := by rw [List.take_of_length_le (by omega)]
  have e2 : (bsN out i).drop i = [] := List.drop_eq_nil_of_le (by omega)
  rw [e1, e2]
  simp
theorem midO_len {out : List Int} {i k : Nat} (h : i < out.length) (hk : k ≤ i) : (midO out i k).length = out.length := by
  unfold midO
  have hl := bsN_len out i
  rw [List.length_append, bub_len, List.length_append, List.length_cons, List.length_take, List.length_drop, List.length_drop, hl]
  omega
theorem midO_k {out : List Int} {i k : Nat} (h : i < out.length) (hk : k < i) : ∃ p c, (midO out i k)[k]? = some p ∧ (midO out i k)[i]? = some c ∧ (c < p → ((midO out i k).set k c).set i p = midO out i (k + 1)) ∧ (¬ c < p → midO out i k = midO out i (k + 1)) := by
  have hl := bsN_len out i
  have hkl : k < (bsN out i).length := by omega
  have ht : (bsN out i).take (k + 1) = (bsN out i).take k ++ [(bsN out i)[k]] := List.take_succ_eq_append_getElem hkl
  have hd : (bsN out i).drop k = (bsN out i)[k] :: (bsN out i).drop (k + 1) := List.drop_eq_getElem_cons hkl
  have hbs := bub_snoc (out.getD i 0) ((bsN out i).take k) ((bsN out i)[k])
  have hbl := bub_len (out.getD i 0) ((bsN out i).take k)
  have hdl : ((bsN out i).drop (k + 1)).length = i - (k + 1) := by rw [List.length_drop, hl]
  rw [List.length_take, hl, Nat.min_eq_left (by omega)] at hbl
  unfold midO
  rw [ht, hd, hbs]
  generalize (bub (out.getD i 0) ((bsN out i).take k)).1 = X at hbl ⊢
  generalize (bub (out.getD i 0) ((bsN out i).take k)).2 = c
  generalize (bsN out i)[k] = p
  generalize (bsN out i).drop (k + 1) = R at hdl ⊢
  generalize out.drop (i + 1) = T
  refine ⟨p, c, ?_, ?_, fun hc => ?_, fun hc => ?_⟩
  · rw [List.getElem?_append_right (by omega), hbl, Nat.sub_self]
    rfl
  · rw [List.getElem?_append_right (by omega), hbl, List.getElem?_append_right (by simp; omega)]
    rw [List.length_cons, hdl, show i - k - (i - (k + 1) + 1) = 0 by omega]
    rfl
  · rw [if_pos hc]
    simp only
    rw [List.set_append_right _ _ (by omega), hbl, Nat.sub_self, List.cons_append, List.set_cons_zero]
    rw [List.set_append_right _ _ (by omega), hbl, show i - k = (i - (k + 1)) + 1 by omega, List.set_cons_succ]
    rw [List.set_append_right _ _ (by omega), hdl, Nat.sub_self, List.set_cons_zero]
    simp
  · rw [if_neg hc]
    simp
theorem c25_ok [I : Inp] : Contract Try.prog 25 true c25 := by
  refine .readF fn25 (G := fun J => @G25 J) (fun J => @g25 J) _ fun args m k h => ?_
  obtain ⟨g, s, bs, many, rfl, hb, hmax, hg, hmy, hk0, hk1⟩ := h
  refine ⟨by simp [Ge.sv], fun J hJ us hus => ?_⟩
  obtain ⟨u, t1, rfl, hu1, u2, t2, rfl, hu2, u3, t3, rfl, hu3, rfl⟩ := hus
  obtain rfl := hu1.2.1 g.vs rfl
  obtain rfl := hu3.1 _ rfl
  obtain ⟨p, cc, rfl, hin⟩ := rdI_knows hb hu2
  rw [List.map_cons, List.map_cons, List.map_cons, List.map_nil, show SV.of (.agg g.vs.toArray) = _ from ge_of g]
  obtain ⟨⟨⟨m1, m1'⟩, ⟨m2, m2'⟩, ⟨m3, m3'⟩, m4, m4'⟩, m5, m6⟩ := chk_in.1 hg
  obtain ⟨C, hC⟩ : ∃ C : Nat, g.ch = (C : Int) := ⟨g.ch.toNat, by omega⟩
  have hCt : g.ch.toNat = C := by omega
  rw [hCt] at hk1
  have hrd : ∀ m', rdI m' (.v (.slice p bs.length cc)) = some bs := fun m' => rdI_v hin
  have hpl : (lanR g bs C).length = C := lanR_len g bs C
  simp (maxSteps := 2000000) -implicitDefEqProofs only [↓x25, ↓r25, s_alt, s_alt20, s_alt2t, s_alt2f, ↓s_loopi, ↓v_pq, ↓PRE, POST, CORE, Nat.reduceDiv, Nat.reduceMod, Int.reduceLT, Int.reduceLE, Int.reduceToNat, Int.reduceAdd, ↓reduceIte, Nat.reduceEqDiff, Nat.reduceAdd, Nat.reduceMul, Nat.reduceSub, Nat.reduceLeDiff, Nat.reduceLT, reduceCtorEq, if_true, eq_self, forall_const, implies_true]
  by_cases hm0 : many < 0
  · refine TXi_of (TX_count (@g25 J) 0 (fun x => [(2, .v (.int .i64 many)), (8, .v (.slice none 0 0))]) (fun x => []) (fun _ => True) trivial (by refine ⟨[], by simp [NdL, NdA, oO_cells, oO_own, iL_nil], ?_, ?_, keep0 hJ⟩ <;> simp only [FitM, FitE, ObLe, LeL, Le, List.cons_append, List.nil_append] <;> (try (simp (maxSteps := 2000000) -implicitDefEqProofs only [s_alt, s_alt20, s_alt2t, s_alt2f, ↓s_loopi, ↓v_pq, ↓PRE, POST, CORE, Nat.reduceDiv, Nat.reduceMod, Int.reduceLT, Int.reduceLE, Int.reduceToNat, Int.reduceAdd, ↓reduceIte, Nat.reduceEqDiff, Nat.reduceAdd, Nat.reduceMul, Nat.reduceSub, Nat.reduceLeDiff, Nat.reduceLT, reduceCtorEq, if_true, eq_self, forall_const, implies_true])) <;> (try simp only [Sz.Le, Sz.LeL, List.getElem?_cons_zero, List.getElem?_cons_succ]) <;> (try simp)) (fun x hx _ => by omega) ?_)
    intro _
    have n1 : ¬ (0 : Int) < many := by omega
    simp (maxSteps := 2000000) -implicitDefEqProofs only [n1, s_alt, s_alt20, s_alt2t, s_alt2f, ↓s_loopi, ↓v_pq, ↓PRE, POST, CORE, Nat.reduceDiv, Nat.reduceMod, Int.reduceLT, Int.reduceLE, Int.reduceToNat, Int.reduceAdd, ↓reduceIte, Nat.reduceEqDiff, Nat.reduceAdd, Nat.reduceMul, Nat.reduceSub, Nat.reduceLeDiff, Nat.reduceLT, reduceCtorEq, if_true, eq_self, forall_const, implies_true]
    refine TXi_of (TX_count (@g25 J) 0 (fun x => [(2, .v (.int .i64 many)), (8, .v (.slice none 0 0)), (71, .v (.int .i64 0)), (72, .v (.int .i64 0))]) (fun x => []) (fun _ => True) trivial (by refine ⟨[], by simp [NdL, NdA, oO_cells, oO_own, iL_nil], ?_, ?_, keep0 hJ⟩ <;> simp only [FitM, FitE, ObLe, LeL, Le, List.cons_append, List.nil_append] <;> (try (simp (maxSteps := 2000000) -implicitDefEqProofs only [s_alt, s_alt20, s_alt2t, s_alt2f, ↓s_loopi, ↓v_pq, ↓PRE, POST, CORE, Nat.reduceDiv, Nat.reduceMod, Int.reduceLT, Int.reduceLE, Int.reduceToNat, Int.reduceAdd, ↓reduceIte, Nat.reduceEqDiff, Nat.reduceAdd, Nat.reduceMul, Nat.reduceSub, Nat.reduceLeDiff, Nat.reduceLT, reduceCtorEq, if_true, eq_self, forall_const, implies_true])) <;> (try simp only [Sz.Le, Sz.LeL, List.getElem?_cons_zero, List.getElem?_cons_succ]) <;> (try simp)) (fun x hx _ => by omega) ?_)
    intro _
    have n2 : ¬ (0 : Int) ≤ many := by omega
    simp (maxSteps := 2000000) -implicitDefEqProofs only [Int.lt_irrefl, n2, decide_false, s_alt, s_alt20, s_alt2t, s_alt2f, ↓s_loopi, ↓v_pq, ↓PRE, POST, CORE, Nat.reduceDiv, Nat.reduceMod, Int.reduceLT, Int.reduceLE, Int.reduceToNat, Int.reduceAdd, ↓reduceIte, Nat.reduceEqDiff, Nat.reduceAdd, Nat.reduceMul, Nat.reduceSub, Nat.reduceLeDiff, Nat.reduceLT, reduceCtorEq, if_true, eq_self, forall_const, implies_true]
    refine ⟨[], .tup [.v (.slice none 0 0), .v (.bool false)], [], by simp, trivial, by simp, by simp [Le, LeL], ?_⟩
    simpa [SV.up, upL] using hk0 hm0
  obtain ⟨hkn, hks⟩ := hk1 (by omega)
  obtain ⟨N, hN⟩ : ∃ N : Nat, many = (N : Int) := ⟨many.toNat, by omega⟩
  rw [show many.toNat = N by omega] at hkn hks
  subst hN
  obtain ⟨gO, hgO⟩ : ∃ gO : SObj, gO = ⟨true, [.v (.int .i64 g.ch), .v (.int .i64 g.di), .v (.int .i64 g.bl), .v (.int .i64 g.pa)]⟩ := ⟨_, rfl⟩
  refine TXi_of (TX_countS (@g25 J) N (σ := List Int) (fun x out => [(1, .v (.slice p bs.length cc)), (2, .v (.int .i64 (N : Int))), (3, .ptr 0 0), (8, oV 1 1 out.length)]) (fun x out => [⟨true, [.v (.int .i64 g.ch), .v (.int .i64 g.di), .v (.int .i64 g.bl), .v (.int .i64 g.pa)]⟩, oO (iL out)]) (fun x out => pickS (lanR g bs C) x = some (out, loadF g out C)) [] (by unfold pickS; rw [hpl, loadF_nil]) ?_ ?_ ?_)
  · exact (by refine ⟨[0, 0], by simp [NdL, NdA, oO_cells, oO_own, iL_nil], ?_, ?_, keep0 hJ⟩ <;> simp only [FitM, FitE, ObLe, LeL, Le, List.cons_append, List.nil_append] <;> (try (simp (maxSteps := 2000000) -implicitDefEqProofs only [extO, extO2, extLe_no, or_true, o_sl, o_grows, o_kill, o_len, o_cap, o_isl, o_le, o_cells, o_one, oOk_c, oOk_o, oO_cells, oO_own, oV_s, oV_0, oO_nil, oO_iL, iL_nil, iL_snoc, List.length_append, iL_fold, iL_over, iL_all, iL_get, iL_len, iL_take, iL_drop, iL_one, iL_plain, iL_le, List.length_set, List.length_nil, s_alt, s_alt20, s_alt2t, s_alt2f, ↓s_loopi, ↓v_pq, ↓PRE, POST, CORE, Nat.reduceDiv, Nat.reduceMod, Int.reduceLT, Int.reduceLE, Int.reduceToNat, Int.reduceAdd, ↓reduceIte, Nat.reduceEqDiff, Nat.reduceAdd, Nat.reduceMul, Nat.reduceSub, Nat.reduceLeDiff, Nat.reduceLT, reduceCtorEq, if_true, eq_self, forall_const, implies_true])) <;> (try simp only [Sz.Le, Sz.LeL, List.getElem?_cons_zero, List.getElem?_cons_succ]) <;> (try simp))
  · intro x out hx hI
    obtain ⟨a1, a2, a3⟩ := pickS_in hI
    simp only at a1 a2 a3
    rw [hpl] at a2
    have hbn : ∀ c, bestN (lanR g bs C) (loadF g out C) c = bestN (lanR g bs C) (loadF g out C) c := fun c => rfl
    have hnext : pickS (lanR g bs C) (x + 1) = (if bestN (lanR g bs C) (loadF g out C) C < 0 then none else some (out ++ [(lnA (lanR g bs C) (bestN (lanR g bs C) (loadF g out C) C).toNat).getD (tkA (loadF g out C) (bestN (lanR g bs C) (loadF g out C) C).toNat).toNat 0], (loadF g out C).set (bestN (lanR g bs C) (loadF g out C) C).toNat (tkA (loadF g out C) (bestN (lanR g bs C) (loadF g out C) C).toNat + 1))) := by
      show (pickS (lanR g bs C) x).bind _ = _
      rw [hI, hpl]
      rfl
    have hls := fun B t b => @load_step g bs out C B t b m1 hC.symm
    have j1 : ((out.length : Nat) : Int) < (N : Int) := by omega
    have hol : out.length ≤ 100000 := by omega
    have htk : ∀ c, c < C → (iL (loadF g out C))[c]? = some (.v (.int .i64 (tkA (loadF g out C) c))) := fun c hc => iL_at (by omega)
    have hTl : (iL (loadF g out C)).length = C := by rw [iL_len, a2]
    have hrdo : ∀ (a : SObj) (t : Mem), rdI (a :: oO (iL out) :: t) (oV 1 1 out.length) = some out := fun a t => rdI_o rfl rfl
    generalize hTK : loadF g out C = tk at *
    simp (maxSteps := 2000000) -implicitDefEqProofs only [j1, o_sl, o_grows, o_kill, o_len, o_cap, o_isl, o_le, o_cells, o_one, oOk_c, oOk_o, oO_cells, oO_own, oV_s, oV_0, oO_nil, oO_iL, iL_nil, iL_snoc, List.length_append, s_alt, s_alt20, s_alt2t, s_alt2f, ↓s_loopi, ↓v_pq, ↓PRE, POST, CORE, Nat.reduceDiv, Nat.reduceMod, Int.reduceLT, Int.reduceLE, Int.reduceToNat, Int.reduceAdd, ↓reduceIte, Nat.reduceEqDiff, Nat.reduceAdd, Nat.reduceMul, Nat.reduceSub, Nat.reduceLeDiff, Nat.reduceLT, reduceCtorEq, if_true, eq_self, forall_const, implies_true]
    refine TXi_of (TX_count (@g25 J) C (fun c => [(1, .v (.slice p bs.length cc)), (2, .v (.int .i64 (N : Int))), (3, .ptr 0 0), (8, oV 1 1 out.length), (9, .v (.int .i64 (bestN (lanR g bs C) tk c))), (10, .v (.int .i64 (c : Int)))]) (fun c => [⟨true, [.v (.int .i64 g.ch), .v (.int .i64 g.di), .v (.int .i64 g.bl), .v (.int .i64 g.pa)]⟩, oO (iL out)]) (fun _ => True) trivial ?_ ?_ ?_)
    · rw [show bestN (lanR g bs C) tk 0 = -1 from rfl]
      exact (by refine ⟨[0, 1], by simp [NdL, NdA, oO_cells, oO_own, iL_nil], ?_, ?_, keep0 hJ⟩ <;> simp only [FitM, FitE, ObLe, LeL, Le, List.cons_append, List.nil_append] <;> (try (simp (maxSteps := 2000000) -implicitDefEqProofs only [extO, extO2, extLe_no, or_true, o_sl, o_grows, o_kill, o_len, o_cap, o_isl, o_le, o_cells, o_one, oOk_c, oOk_o, oO_cells, oO_own, oV_s, oV_0, oO_nil, oO_iL, iL_nil, iL_snoc, List.length_append, iL_fold, iL_over, iL_all, iL_get, iL_len, iL_take, iL_drop, iL_one, iL_plain, iL_le, List.length_set, s_alt, s_alt20, s_alt2t, s_alt2f, ↓s_loopi, ↓v_pq, ↓PRE, POST, CORE, Nat.reduceDiv, Nat.reduceMod, Int.reduceLT, Int.reduceLE, Int.reduceToNat, Int.reduceAdd, ↓reduceIte, Nat.reduceEqDiff, Nat.reduceAdd, Nat.reduceMul, Nat.reduceSub, Nat.reduceLeDiff, Nat.reduceLT, reduceCtorEq, if_true, eq_self, forall_const, implies_true])) <;> (try simp only [Sz.Le, Sz.LeL, List.getElem?_cons_zero, List.getElem?_cons_succ]) <;> (try simp))
    · intro c hc _
      have k0 : (0 : Int) ≤ (c : Int) := by omega
      have k1 : (c : Int) < (C : Int) := by omega
      have k1' : (c : Int) < g.ch := by omega
      have k2 : c + 1 ≤ C := hc
      have w1 : IntKind.i64.wrap ((c : Int) + 1) = (c : Int) + 1 := Sz.w_64 (by omega) (by omega)
      have htc := htk c hc
      have hsb : bestN (lanR g bs C) tk (c + 1) = stepB (lanR g bs C) tk (bestN (lanR g bs C) tk c) c := rfl
      rw [hsb]
      unfold stepB
      rw [lnA_R hc]
      simp (maxSteps := 2000000) -implicitDefEqProofs only [k1', hC ▸ k1, ↓G25, ↓c26, s_alt, s_alt20, s_alt2t, s_alt2f, ↓s_loopi, ↓v_pq, ↓PRE, POST, CORE, Nat.reduceDiv, Nat.reduceMod, Int.reduceLT, Int.reduceLE, Int.reduceToNat, Int.reduceAdd, ↓reduceIte, Nat.reduceEqDiff, Nat.reduceAdd, Nat.reduceMul, Nat.reduceSub, Nat.reduceLeDiff, Nat.reduceLT, reduceCtorEq, if_true, eq_self, forall_const, implies_true]
      refine ⟨g, _, out, rfl, hrdo _ _, hol, hg, ?_⟩
      rw [hCt, hTK]
      simp (maxSteps := 2000000) -implicitDefEqProofs only [k0, k1, k2, htc, hTl, ↓G25, ↓c29, s_alt, s_alt20, s_alt2t, s_alt2f, ↓s_loopi, ↓v_pq, ↓PRE, POST, CORE, Nat.reduceDiv, Nat.reduceMod, Int.reduceLT, Int.reduceLE, Int.reduceToNat, Int.reduceAdd, ↓reduceIte, Nat.reduceEqDiff, Nat.reduceAdd, Nat.reduceMul, Nat.reduceSub, Nat.reduceLeDiff, Nat.reduceLT, reduceCtorEq, if_true, eq_self, forall_const, implies_true]
      refine ⟨g, _, bs, c, rfl, hrd _, hmax, hg, k1', ?_⟩
      have hbi := bestN_in (lanR g bs C) tk c
      generalize laneR g bs c = l
      generalize bestN (lanR g bs C) tk c = B at hbi ⊢
      by_cases ht : tkA tk c < (l.length : Int)
      · have hne : l ≠ [] := fun h => by
          subst h
          have := (a3 c).1
          simp at ht
          omega
        simp only [intS, intM, hne, if_false]
        rcases hbi with hb | ⟨hb0, hb1, hb2⟩
        · subst hb
          have n1 : (-1 : Int) < 0 := by omega
          rw [if_pos ⟨ht, .inl n1⟩]
          simp (maxSteps := 2000000) -implicitDefEqProofs only [ht, n1, w1, s_alt, s_alt20, s_alt2t, s_alt2f, ↓s_loopi, ↓v_pq, ↓PRE, POST, CORE, Nat.reduceDiv, Nat.reduceMod, Int.reduceLT, Int.reduceLE, Int.reduceToNat, Int.reduceAdd, ↓reduceIte, Nat.reduceEqDiff, Nat.reduceAdd, Nat.reduceMul, Nat.reduceSub, Nat.reduceLeDiff, Nat.reduceLT, reduceCtorEq, if_true, eq_self, forall_const, implies_true]
          exact (by refine ⟨[0, 1], by simp [NdL, NdA, oO_cells, oO_own, iL_nil], ?_, ?_, keep0 hJ⟩ <;> simp only [FitM, FitE, ObLe, LeL, Le, List.cons_append, List.nil_append] <;> (try (simp (maxSteps := 2000000) -implicitDefEqProofs only [extO, extO2, extLe_no, or_true, o_sl, o_grows, o_kill, o_len, o_cap, o_isl, o_le, o_cells, o_one, oOk_c, oOk_o, oO_cells, oO_own, oV_s, oV_0, oO_nil, oO_iL, iL_nil, iL_snoc, List.length_append, iL_fold, iL_over, iL_all, iL_get, iL_len, iL_take, iL_drop, iL_one, iL_plain, iL_le, List.length_set, s_alt, s_alt20, s_alt2t, s_alt2f, ↓s_loopi, ↓v_pq, ↓PRE, POST, CORE, Nat.reduceDiv, Nat.reduceMod, Int.reduceLT, Int.reduceLE, Int.reduceToNat, Int.reduceAdd, ↓reduceIte, Nat.reduceEqDiff, Nat.reduceAdd, Nat.reduceMul, Nat.reduceSub, Nat.reduceLeDiff, Nat.reduceLT, reduceCtorEq, if_true, eq_self, forall_const, implies_true])) <;> (try simp only [Sz.Le, Sz.LeL, List.getElem?_cons_zero, List.getElem?_cons_succ]) <;> (try simp))
        · have hbn' : ¬ B < 0 := by omega
          have hbC : B < (C : Int) := by omega
          have htb := htk B.toNat (by omega)
          have hbt : B.toNat + 1 ≤ C := by omega
          simp (maxSteps := 2000000) -implicitDefEqProofs only [ht, hbn', ↓G25, ↓c26, s_alt, s_alt20, s_alt2t, s_alt2f, ↓s_loopi, ↓v_pq, ↓PRE, POST, CORE, Nat.reduceDiv, Nat.reduceMod, Int.reduceLT, Int.reduceLE, Int.reduceToNat, Int.reduceAdd, ↓reduceIte, Nat.reduceEqDiff, Nat.reduceAdd, Nat.reduceMul, Nat.reduceSub, Nat.reduceLeDiff, Nat.reduceLT, reduceCtorEq, if_true, eq_self, forall_const, implies_true]
          refine ⟨g, _, out, rfl, hrdo _ _, hol, hg, ?_⟩
          rw [hCt, hTK]
          by_cases hq : tkA tk c < tkA tk B.toNat
          · rw [if_pos (.inr hq)]
            simp (maxSteps := 2000000) -implicitDefEqProofs only [hb0, hbC, hbt, htb, hTl, hq, w1, s_alt, s_alt20, s_alt2t, s_alt2f, ↓s_loopi, ↓v_pq, ↓PRE, POST, CORE, Nat.reduceDiv, Nat.reduceMod, Int.reduceLT, Int.reduceLE, Int.reduceToNat, Int.reduceAdd, ↓reduceIte, Nat.reduceEqDiff, Nat.reduceAdd, Nat.reduceMul, Nat.reduceSub, Nat.reduceLeDiff, Nat.reduceLT, reduceCtorEq, if_true, eq_self, forall_const, implies_true]
            exact (by refine ⟨[0, 1], by simp [NdL, NdA, oO_cells, oO_own, iL_nil], ?_, ?_, keep0 hJ⟩ <;> simp only [FitM, FitE, ObLe, LeL, Le, List.cons_append, List.nil_append] <;> (try (simp (maxSteps := 2000000) -implicitDefEqProofs only [extO, extO2, extLe_no, or_true, o_sl, o_grows, o_kill, o_len, o_cap, o_isl, o_le, o_cells, o_one, oOk_c, oOk_o, oO_cells, oO_own, oV_s, oV_0, oO_nil, oO_iL, iL_nil, iL_snoc, List.length_append, iL_fold, iL_over, iL_all, iL_get, iL_len, iL_take, iL_drop, iL_one, iL_plain, iL_le, List.length_set, s_alt, s_alt20, s_alt2t, s_alt2f, ↓s_loopi, ↓v_pq, ↓PRE, POST, CORE, Nat.reduceDiv, Nat.reduceMod, Int.reduceLT, Int.reduceLE, Int.reduceToNat, Int.reduceAdd, ↓reduceIte, Nat.reduceEqDiff, Nat.reduceAdd, Nat.reduceMul, Nat.reduceSub, Nat.reduceLeDiff, Nat.reduceLT, reduceCtorEq, if_true, eq_self, forall_const, implies_true])) <;> (try simp only [Sz.Le, Sz.LeL, List.getElem?_cons_zero, List.getElem?_cons_succ]) <;> (try simp))
          · rw [if_neg (fun h => h.elim id hq)]
            simp (maxSteps := 2000000) -implicitDefEqProofs only [hb0, hbC, hbt, htb, hTl, hq, w1, s_alt, s_alt20, s_alt2t, s_alt2f, ↓s_loopi, ↓v_pq, ↓PRE, POST, CORE, Nat.reduceDiv, Nat.reduceMod, Int.reduceLT, Int.reduceLE, Int.reduceToNat, Int.reduceAdd, ↓reduceIte, Nat.reduceEqDiff, Nat.reduceAdd, Nat.reduceMul, Nat.reduceSub, Nat.reduceLeDiff, Nat.reduceLT, reduceCtorEq, if_true, eq_self, forall_const, implies_true]
            exact (by refine ⟨[0, 1], by simp [NdL, NdA, oO_cells, oO_own, iL_nil], ?_, ?_, keep0 hJ⟩ <;> simp only [FitM, FitE, ObLe, LeL, Le, List.cons_append, List.nil_append] <;> (try (simp (maxSteps := 2000000) -implicitDefEqProofs only [extO, extO2, extLe_no, or_true, o_sl, o_grows, o_kill, o_len, o_cap, o_isl, o_le, o_cells, o_one, oOk_c, oOk_o, oO_cells, oO_own, oV_s, oV_0, oO_nil, oO_iL, iL_nil, iL_snoc, List.length_append, iL_fold, iL_over, iL_all, iL_get, iL_len, iL_take, iL_drop, iL_one, iL_plain, iL_le, List.length_set, s_alt, s_alt20, s_alt2t, s_alt2f, ↓s_loopi, ↓v_pq, ↓PRE, POST, CORE, Nat.reduceDiv, Nat.reduceMod, Int.reduceLT, Int.reduceLE, Int.reduceToNat, Int.reduceAdd, ↓reduceIte, Nat.reduceEqDiff, Nat.reduceAdd, Nat.reduceMul, Nat.reduceSub, Nat.reduceLeDiff, Nat.reduceLT, reduceCtorEq, if_true, eq_self, forall_const, implies_true])) <;> (try simp only [Sz.Le, Sz.LeL, List.getElem?_cons_zero, List.getElem?_cons_succ]) <;> (try simp))
      · rw [if_neg (fun h => ht h.1)]
        simp (maxSteps := 2000000) -implicitDefEqProofs only [intS_len, ht, w1, s_alt, s_alt20, s_alt2t, s_alt2f, ↓s_loopi, ↓v_pq, ↓PRE, POST, CORE, Nat.reduceDiv, Nat.reduceMod, Int.reduceLT, Int.reduceLE, Int.reduceToNat, Int.reduceAdd, ↓reduceIte, Nat.reduceEqDiff, Nat.reduceAdd, Nat.reduceMul, Nat.reduceSub, Nat.reduceLeDiff, Nat.reduceLT, reduceCtorEq, if_true, eq_self, forall_const, implies_true]
        exact (by refine ⟨[0, 1], by simp [NdL, NdA, oO_cells, oO_own, iL_nil], ?_, ?_, keep0 hJ⟩ <;> simp only [FitM, FitE, ObLe, LeL, Le, List.cons_append, List.nil_append] <;> (try (simp (maxSteps := 2000000) -implicitDefEqProofs only [extO, extO2, extLe_no, or_true, o_sl, o_grows, o_kill, o_len, o_cap, o_isl, o_le, o_cells, o_one, oOk_c, oOk_o, oO_cells, oO_own, oV_s, oV_0, oO_nil, oO_iL, iL_nil, iL_snoc, List.length_append, iL_fold, iL_over, iL_all, iL_get, iL_len, iL_take, iL_drop, iL_one, iL_plain, iL_le, List.length_set, s_alt, s_alt20, s_alt2t, s_alt2f, ↓s_loopi, ↓v_pq, ↓PRE, POST, CORE, Nat.reduceDiv, Nat.reduceMod, Int.reduceLT, Int.reduceLE, Int.reduceToNat, Int.reduceAdd, ↓reduceIte, Nat.reduceEqDiff, Nat.reduceAdd, Nat.reduceMul, Nat.reduceSub, Nat.reduceLeDiff, Nat.reduceLT, reduceCtorEq, if_true, eq_self, forall_const, implies_true])) <;> (try simp only [Sz.Le, Sz.LeL, List.getElem?_cons_zero, List.getElem?_cons_succ]) <;> (try simp))
    · intro _
      have k1' : ¬ (C : Int) < g.ch := by omega
      have k1 : ¬ (C : Int) < (C : Int) := by omega
      rcases bestN_in (lanR g bs C) tk C with hb | ⟨hb0, hb1, hb2⟩
      · rw [hb] at hnext ⊢
        have n1 : (-1 : Int) < 0 := by omega
        rw [if_pos n1] at hnext
        have hnone : pickS (lanR g bs C) N = none := by
          have := pickS_none hnext (N - (x + 1))
          rwa [show x + 1 + (N - (x + 1)) = N by omega] at this
        simp (maxSteps := 2000000) -implicitDefEqProofs only [k1', hC ▸ k1, n1, s_alt, s_alt20, s_alt2t, s_alt2f, ↓s_loopi, ↓v_pq, ↓PRE, POST, CORE, Nat.reduceDiv, Nat.reduceMod, Int.reduceLT, Int.reduceLE, Int.reduceToNat, Int.reduceAdd, ↓reduceIte, Nat.reduceEqDiff, Nat.reduceAdd, Nat.reduceMul, Nat.reduceSub, Nat.reduceLeDiff, Nat.reduceLT, reduceCtorEq, if_true, eq_self, forall_const, implies_true]
        refine ⟨[], .tup [.v (.slice none 0 0), .v (.bool false)], [], by simp, trivial, by simp, by simp [Le, LeL], ?_⟩
        simpa [SV.up, upL] using hkn hnone
      · have hbn' : ¬ bestN (lanR g bs C) tk C < 0 := by omega
        rw [if_neg hbn'] at hnext
        generalize bestN (lanR g bs C) tk C = B at hb0 hb1 hb2 hbn' hnext ⊢
        have htb := htk B.toNat (by omega)
        have hbt : B.toNat + 1 ≤ C := by omega
        have hbC : B < (C : Int) := by omega
        have hbg : B < g.ch := by omega
        rw [lnA_R (by omega)] at hb2 hnext
        have hls' := hls B.toNat
        have htk0 := (a3 B.toNat).1
        obtain ⟨t, ht⟩ : ∃ t : Nat, tkA tk B.toNat = (t : Int) := ⟨(tkA tk B.toNat).toNat, by omega⟩
        rw [ht] at hb2 htb hnext hls'
        rw [Int.toNat_natCast] at hnext
        have hBN : (B.toNat : Int) = B := Int.toNat_of_nonneg hb0
        simp (maxSteps := 2000000) -implicitDefEqProofs only [k1', hC ▸ k1, hbn', ↓G25, ↓c29, s_alt, s_alt20, s_alt2t, s_alt2f, ↓s_loopi, ↓v_pq, ↓PRE, POST, CORE, Nat.reduceDiv, Nat.reduceMod, Int.reduceLT, Int.reduceLE, Int.reduceToNat, Int.reduceAdd, ↓reduceIte, Nat.reduceEqDiff, Nat.reduceAdd, Nat.reduceMul, Nat.reduceSub, Nat.reduceLeDiff, Nat.reduceLT, reduceCtorEq, if_true, eq_self, forall_const, implies_true]
        refine ⟨g, _, bs, B.toNat, by rw [hBN]; rfl, hrd _, hmax, hg, by rw [hBN]; exact hbg, ?_⟩
        generalize laneR g bs B.toNat = l at hb2 hnext hls' ⊢
        have ht1 : t < l.length := by omega
        have hne : l ≠ [] := fun h => by subst h; simp at ht1
        have hlt : (iL l)[t]? = some (.v (.int .i64 (l.getD t 0))) := iL_get ht1
        have hlg : l[t]? = some (l.getD t 0) := by rw [List.getD_eq_getElem?_getD, List.getElem?_eq_getElem ht1]; rfl
        have q0 : (0 : Int) ≤ (t : Int) := by omega
        have q1 : (t : Int) < (l.length : Int) := hb2
        have q2 : t + 1 ≤ l.length := ht1
        simp only [intS, intM, hne, if_false]
        simp (maxSteps := 2000000) -implicitDefEqProofs only [↓G25, ↓c26, s_alt, s_alt20, s_alt2t, s_alt2f, ↓s_loopi, ↓v_pq, ↓PRE, POST, CORE, Nat.reduceDiv, Nat.reduceMod, Int.reduceLT, Int.reduceLE, Int.reduceToNat, Int.reduceAdd, ↓reduceIte, Nat.reduceEqDiff, Nat.reduceAdd, Nat.reduceMul, Nat.reduceSub, Nat.reduceLeDiff, Nat.reduceLT, reduceCtorEq, if_true, eq_self, forall_const, implies_true]
        refine ⟨g, _, out, rfl, hrdo _ _, hol, hg, ?_⟩
        rw [hCt, hTK]
        simp (maxSteps := 2000000) -implicitDefEqProofs only [hb0, hbC, hbt, htb, hTl, q0, q1, q2, hlt, iL_len, o_sl, o_grows, o_kill, o_len, o_cap, o_isl, o_le, o_cells, o_one, oOk_c, oOk_o, oO_cells, oO_own, oV_s, oV_0, oO_nil, oO_iL, iL_nil, iL_snoc, List.length_append, iL_fold, iL_over, iL_all, iL_get, iL_len, iL_take, iL_drop, iL_one, iL_plain, iL_le, List.length_set, s_alt, s_alt20, s_alt2t, s_alt2f, ↓s_loopi, ↓v_pq, ↓PRE, POST, CORE, Nat.reduceDiv, Nat.reduceMod, Int.reduceLT, Int.reduceLE, Int.reduceToNat, Int.reduceAdd, ↓reduceIte, Nat.reduceEqDiff, Nat.reduceAdd, Nat.reduceMul, Nat.reduceSub, Nat.reduceLeDiff, Nat.reduceLT, reduceCtorEq, if_true, eq_self, forall_const, implies_true]
        refine ⟨⟨by unfold maxLen; omega, by omega⟩, _, by rw [hnext, hls' t _ (by omega) hlg], ?_⟩
        exact (by refine ⟨[0, 5], by simp [NdL, NdA, oO_cells, oO_own, iL_nil], ?_, ?_, keep0 hJ⟩ <;> simp only [FitM, FitE, ObLe, LeL, Le, List.cons_append, List.nil_append] <;> (try (simp (maxSteps := 2000000) -implicitDefEqProofs only [extO, extO2, extLe_no, or_true, o_sl, o_grows, o_kill, o_len, o_cap, o_isl, o_le, o_cells, o_one, oOk_c, oOk_o, oO_cells, oO_own, oV_s, oV_0, oO_nil, oO_iL, iL_nil, iL_snoc, List.length_append, iL_fold, iL_over, iL_all, iL_get, iL_len, iL_take, iL_drop, iL_one, iL_plain, iL_le, List.length_set, List.length_cons, List.length_nil, s_alt, s_alt20, s_alt2t, s_alt2f, ↓s_loopi, ↓v_pq, ↓PRE, POST, CORE, Nat.reduceDiv, Nat.reduceMod, Int.reduceLT, Int.reduceLE, Int.reduceToNat, Int.reduceAdd, ↓reduceIte, Nat.reduceEqDiff, Nat.reduceAdd, Nat.reduceMul, Nat.reduceSub, Nat.reduceLeDiff, Nat.reduceLT, reduceCtorEq, if_true, eq_self, forall_const, implies_true])) <;> (try simp only [Sz.Le, Sz.LeL, List.getElem?_cons_zero, List.getElem?_cons_succ]) <;> (try simp))
  · intro out hI
    obtain ⟨a1, a2, a3⟩ := pickS_in hI
    simp only at a1
    have hk := hks _ hI
    simp only at hk
    have j1 : ¬ ((out.length : Nat) : Int) < (N : Int) := by omega
    have jN : (0 : Int) ≤ (N : Int) := by omega
    simp (maxSteps := 2000000) -implicitDefEqProofs only [j1, o_sl, o_grows, o_kill, o_len, o_cap, o_isl, o_le, o_cells, o_one, oOk_c, oOk_o, oO_cells, oO_own, oV_s, oV_0, oO_nil, oO_iL, iL_nil, iL_snoc, List.length_append, s_alt, s_alt20, s_alt2t, s_alt2f, ↓s_loopi, ↓v_pq, ↓PRE, POST, CORE, Nat.reduceDiv, Nat.reduceMod, Int.reduceLT, Int.reduceLE, Int.reduceToNat, Int.reduceAdd, ↓reduceIte, Nat.reduceEqDiff, Nat.reduceAdd, Nat.reduceMul, Nat.reduceSub, Nat.reduceLeDiff, Nat.reduceLT, reduceCtorEq, if_true, eq_self, forall_const, implies_true]
    refine TXi_of (TX_count (@g25 J) out.length (fun i => [(2, .v (.int .i64 (N : Int))), (8, oV 1 1 out.length), (71, .v (.int .i64 (out.length : Int))), (72, .v (.int .i64 (i : Int)))]) (fun i => [⟨true, [.v (.int .i64 g.ch), .v (.int .i64 g.di), .v (.int .i64 g.bl), .v (.int .i64 g.pa)]⟩, oO (iL (bsN out i ++ out.drop i))]) (fun _ => True) trivial ?_ ?_ ?_)
    · rw [show bsN out 0 ++ out.drop 0 = out from by simp [bsN]]
      exact (by refine ⟨[0, 1], by simp [NdL, NdA, oO_cells, oO_own, iL_nil], ?_, ?_, keep0 hJ⟩ <;> simp only [FitM, FitE, ObLe, LeL, Le, List.cons_append, List.nil_append] <;> (try (simp (maxSteps := 2000000) -implicitDefEqProofs only [extO, extO2, extLe_no, or_true, o_sl, o_grows, o_kill, o_len, o_cap, o_isl, o_le, o_cells, o_one, oOk_c, oOk_o, oO_cells, oO_own, oV_s, oV_0, oO_nil, oO_iL, iL_nil, iL_snoc, List.length_append, iL_fold, iL_over, iL_all, iL_get, iL_len, iL_take, iL_drop, iL_one, iL_plain, iL_le, List.length_set, s_alt, s_alt20, s_alt2t, s_alt2f, ↓s_loopi, ↓v_pq, ↓PRE, POST, CORE, Nat.reduceDiv, Nat.reduceMod, Int.reduceLT, Int.reduceLE, Int.reduceToNat, Int.reduceAdd, ↓reduceIte, Nat.reduceEqDiff, Nat.reduceAdd, Nat.reduceMul, Nat.reduceSub, Nat.reduceLeDiff, Nat.reduceLT, reduceCtorEq, if_true, eq_self, forall_const, implies_true])) <;> (try simp only [Sz.Le, Sz.LeL, List.getElem?_cons_zero, List.getElem?_cons_succ]) <;> (try simp))
    · intro i hi _
      have hol : out.length ≠ 0 := by omega
      have hv : oV 1 1 out.length = .row 1 0 out.length 1 := by unfold oV; rw [if_neg hol]
      have hne : ∀ O : List Int, O.length = out.length → oO (iL O) = ⟨true, iL O⟩ := fun O h => oO_al (fun e => by subst e; exact hol h.symm)
      have i0 : (0 : Int) ≤ (i : Int) := by omega
      have i1 : (i : Int) < (out.length : Int) := by omega
      have wi : IntKind.i64.wrap ((i : Int) + 1) = (i : Int) + 1 := Sz.w_64 (by omega) (by omega)
      rw [← midO_0 hi, hne _ (midO_len hi (Nat.zero_le _)), hv]
      simp (maxSteps := 2000000) -implicitDefEqProofs only [i1, s_alt, s_alt20, s_alt2t, s_alt2f, ↓s_loopi, ↓v_pq, ↓PRE, POST, CORE, Nat.reduceDiv, Nat.reduceMod, Int.reduceLT, Int.reduceLE, Int.reduceToNat, Int.reduceAdd, ↓reduceIte, Nat.reduceEqDiff, Nat.reduceAdd, Nat.reduceMul, Nat.reduceSub, Nat.reduceLeDiff, Nat.reduceLT, reduceCtorEq, if_true, eq_self, forall_const, implies_true]
      refine TXi_of (TX_count (@g25 J) i (fun k => [(2, .v (.int .i64 (N : Int))), (8, .row 1 0 out.length 1), (12, .v (.int .i64 (i : Int))), (13, .v (.int .i64 (k : Int))), (71, .v (.int .i64 (out.length : Int))), (72, .v (.int .i64 (i : Int)))]) (fun k => [⟨true, [.v (.int .i64 g.ch), .v (.int .i64 g.di), .v (.int .i64 g.bl), .v (.int .i64 g.pa)]⟩, ⟨true, iL (midO out i k)⟩]) (fun _ => True) trivial ?_ ?_ ?_)
      · exact (by refine ⟨[0, 1], by simp [NdL, NdA, oO_cells, oO_own, iL_nil], ?_, ?_, keep0 hJ⟩ <;> simp only [FitM, FitE, ObLe, LeL, Le, List.cons_append, List.nil_append] <;> (try (simp (maxSteps := 2000000) -implicitDefEqProofs only [iL_fold, iL_over, iL_all, iL_get, iL_len, iL_take, iL_drop, iL_one, iL_plain, iL_le, List.length_set, s_alt, s_alt20, s_alt2t, s_alt2f, ↓s_loopi, ↓v_pq, ↓PRE, POST, CORE, Nat.reduceDiv, Nat.reduceMod, Int.reduceLT, Int.reduceLE, Int.reduceToNat, Int.reduceAdd, ↓reduceIte, Nat.reduceEqDiff, Nat.reduceAdd, Nat.reduceMul, Nat.reduceSub, Nat.reduceLeDiff, Nat.reduceLT, reduceCtorEq, if_true, eq_self, forall_const, implies_true])) <;> (try simp only [Sz.Le, Sz.LeL, List.getElem?_cons_zero, List.getElem?_cons_succ]) <;> (try simp))
      · intro k hk2 _
        obtain ⟨pp, cq, e1, e2, e3, e4⟩ := midO_k hi hk2
        have hml := midO_len hi (Nat.le_of_lt hk2)
        have k0 : (0 : Int) ≤ (k : Int) := by omega
        have k1 : (k : Int) < (i : Int) := by omega
        have k2 : (k : Int) < (out.length : Int) := by omega
        have k3 : k + 1 ≤ out.length := by omega
        have k4 : i + 1 ≤ out.length := by omega
        have wk : IntKind.i64.wrap ((k : Int) + 1) = (k : Int) + 1 := Sz.w_64 (by omega) (by omega)
        have f1 : (iL (midO out i k))[k]? = some (.v (.int .i64 pp)) := by unfold iL; rw [List.getElem?_map, e1]; rfl
        have f2 : (iL (midO out i k))[i]? = some (.v (.int .i64 cq)) := by unfold iL; rw [List.getElem?_map, e2]; rfl
        by_cases hcp : cq < pp
        · have o1 : over (iL (midO out i k)) k [.v (.int .i64 cq)] = iL ((midO out i k).set k cq) := iL_over (by omega)
          have o2 : over (iL ((midO out i k).set k cq)) i [.v (.int .i64 pp)] = iL (midO out i (k + 1)) := by rw [iL_over (by rw [List.length_set]; omega), e3 hcp]
          simp (maxSteps := 2000000) -implicitDefEqProofs only [i0, i1, k0, k1, k2, k3, k4, wk, f1, f2, o1, o2, hcp, hml, iL_len, List.length_set, s_alt, s_alt20, s_alt2t, s_alt2f, ↓s_loopi, ↓v_pq, ↓PRE, POST, CORE, Nat.reduceDiv, Nat.reduceMod, Int.reduceLT, Int.reduceLE, Int.reduceToNat, Int.reduceAdd, ↓reduceIte, Nat.reduceEqDiff, Nat.reduceAdd, Nat.reduceMul, Nat.reduceSub, Nat.reduceLeDiff, Nat.reduceLT, reduceCtorEq, if_true, eq_self, forall_const, implies_true]
          exact (by refine ⟨[0, 1], by simp [NdL, NdA, oO_cells, oO_own, iL_nil], ?_, ?_, keep0 hJ⟩ <;> simp only [FitM, FitE, ObLe, LeL, Le, List.cons_append, List.nil_append] <;> (try (simp (maxSteps := 2000000) -implicitDefEqProofs only [iL_fold, iL_over, iL_all, iL_get, iL_len, iL_take, iL_drop, iL_one, iL_plain, iL_le, List.length_set, s_alt, s_alt20, s_alt2t, s_alt2f, ↓s_loopi, ↓v_pq, ↓PRE, POST, CORE, Nat.reduceDiv, Nat.reduceMod, Int.reduceLT, Int.reduceLE, Int.reduceToNat, Int.reduceAdd, ↓reduceIte, Nat.reduceEqDiff, Nat.reduceAdd, Nat.reduceMul, Nat.reduceSub, Nat.reduceLeDiff, Nat.reduceLT, reduceCtorEq, if_true, eq_self, forall_const, implies_true])) <;> (try simp only [Sz.Le, Sz.LeL, List.getElem?_cons_zero, List.getElem?_cons_succ]) <;> (try simp))
        · simp (maxSteps := 2000000) -implicitDefEqProofs only [i0, i1, k0, k1, k2, k3, k4, wk, f1, f2, hcp, hml, iL_len, s_alt, s_alt20, s_alt2t, s_alt2f, ↓s_loopi, ↓v_pq, ↓PRE, POST, CORE, Nat.reduceDiv, Nat.reduceMod, Int.reduceLT, Int.reduceLE, Int.reduceToNat, Int.reduceAdd, ↓reduceIte, Nat.reduceEqDiff, Nat.reduceAdd, Nat.reduceMul, Nat.reduceSub, Nat.reduceLeDiff, Nat.reduceLT, reduceCtorEq, if_true, eq_self, forall_const, implies_true]
          rw [e4 hcp]
          exact (by refine ⟨[0, 1], by simp [NdL, NdA, oO_cells, oO_own, iL_nil], ?_, ?_, keep0 hJ⟩ <;> simp only [FitM, FitE, ObLe, LeL, Le, List.cons_append, List.nil_append] <;> (try (simp (maxSteps := 2000000) -implicitDefEqProofs only [iL_fold, iL_over, iL_all, iL_get, iL_len, iL_take, iL_drop, iL_one, iL_plain, iL_le, List.length_set, s_alt, s_alt20, s_alt2t, s_alt2f, ↓s_loopi, ↓v_pq, ↓PRE, POST, CORE, Nat.reduceDiv, Nat.reduceMod, Int.reduceLT, Int.reduceLE, Int.reduceToNat, Int.reduceAdd, ↓reduceIte, Nat.reduceEqDiff, Nat.reduceAdd, Nat.reduceMul, Nat.reduceSub, Nat.reduceLeDiff, Nat.reduceLT, reduceCtorEq, if_true, eq_self, forall_const, implies_true])) <;> (try simp only [Sz.Le, Sz.LeL, List.getElem?_cons_zero, List.getElem?_cons_succ]) <;> (try simp))
      · intro _
        have k1 : ¬ (i : Int) < (i : Int) := by omega
        rw [midO_i]
        have hlen : (bsN out (i + 1) ++ out.drop (i + 1)).length = out.length := by rw [← midO_i, midO_len hi (Nat.le_refl _)]
        rw [hne _ hlen]
        simp (maxSteps := 2000000) -implicitDefEqProofs only [k1, wi, s_alt, s_alt20, s_alt2t, s_alt2f, ↓s_loopi, ↓v_pq, ↓PRE, POST, CORE, Nat.reduceDiv, Nat.reduceMod, Int.reduceLT, Int.reduceLE, Int.reduceToNat, Int.reduceAdd, ↓reduceIte, Nat.reduceEqDiff, Nat.reduceAdd, Nat.reduceMul, Nat.reduceSub, Nat.reduceLeDiff, Nat.reduceLT, reduceCtorEq, if_true, eq_self, forall_const, implies_true]
        exact (by refine ⟨[0, 1], by simp [NdL, NdA, oO_cells, oO_own, iL_nil], ?_, ?_, keep0 hJ⟩ <;> simp only [FitM, FitE, ObLe, LeL, Le, List.cons_append, List.nil_append] <;> (try (simp (maxSteps := 2000000) -implicitDefEqProofs only [iL_fold, iL_over, iL_all, iL_get, iL_len, iL_take, iL_drop, iL_one, iL_plain, iL_le, List.length_set, s_alt, s_alt20, s_alt2t, s_alt2f, ↓s_loopi, ↓v_pq, ↓PRE, POST, CORE, Nat.reduceDiv, Nat.reduceMod, Int.reduceLT, Int.reduceLE, Int.reduceToNat, Int.reduceAdd, ↓reduceIte, Nat.reduceEqDiff, Nat.reduceAdd, Nat.reduceMul, Nat.reduceSub, Nat.reduceLeDiff, Nat.reduceLT, reduceCtorEq, if_true, eq_self, forall_const, implies_true])) <;> (try simp only [Sz.Le, Sz.LeL, List.getElem?_cons_zero, List.getElem?_cons_succ]) <;> (try simp))
    · intro _
      have i1 : ¬ (out.length : Int) < (out.length : Int) := by omega
      rw [List.drop_length, List.append_nil, bsN_srt]
      simp (maxSteps := 2000000) -implicitDefEqProofs only [i1, jN, s_alt, s_alt20, s_alt2t, s_alt2f, ↓s_loopi, ↓v_pq, ↓PRE, POST, CORE, Nat.reduceDiv, Nat.reduceMod, Int.reduceLT, Int.reduceLE, Int.reduceToNat, Int.reduceAdd, ↓reduceIte, Nat.reduceEqDiff, Nat.reduceAdd, Nat.reduceMul, Nat.reduceSub, Nat.reduceLeDiff, Nat.reduceLT, reduceCtorEq, if_true, eq_self, forall_const, implies_true]
      by_cases ho : out = []
      · subst ho
        have hs0 : srt [] = [] := List.length_eq_zero_iff.1 (srt_len [])
        rw [hs0] at hk
        refine ⟨[], .tup [.v (.slice none 0 0), .v (.bool true)], [], by simp, trivial, by simp, by rw [List.length_nil, oV_0]; simp [Le, LeL], ?_⟩
        simpa [SV.up, upL, intS, intM] using hk
      · have hol : out.length ≠ 0 := fun h => ho (List.length_eq_zero_iff.1 h)
        have hv : oV 1 1 out.length = .row 1 0 out.length 1 := by unfold oV; rw [if_neg hol]
        have hsl := srt_len out
        have hsn : srt out ≠ [] := fun h => hol (by rw [← hsl, h]; rfl)
        rw [hv, oO_al hsn]
        refine ⟨[1], .tup [.row 0 0 out.length 1, .v (.bool true)], [⟨true, iL (srt out)⟩], by simp, ?_, by simp, by simp [Le, LeL], ?_⟩
        · simp only [FitM, List.getElem?_cons_zero, List.getElem?_cons_succ]
          exact ⟨.inr ⟨fun h => h, by show LeL _ (iL _) (iL _); rw [iL_le]; trivial, trivial⟩, trivial⟩
        · unfold intS intM at hk
          rw [if_neg hsn, if_neg hsn, hsl] at hk
          simpa [SV.up, upL, SObj.up, iL_up] using hk
end St
end Go.Proofs.Ytibefgdjijmncaa
end
section
namespace Go.Proofs.Ytibefgdjijmncaa.Sz
open Go.RowKit
theorem ExtC.mono [Inp] {P : Program} {f : FuncId} {q : Bool} {tr tr' : Trans} (h : ExtC P f q tr) (ht : ∀ args m k, tr' args m k → tr args m k) : ExtC P f q tr' :=
  ⟨fun args m k base w0 W r vs h1 => h.runs args m k base w0 W r vs (ht _ _ _ h1)⟩
end Go.Proofs.Ytibefgdjijmncaa.Sz
end
section
namespace Go.Proofs.Ytibefgdjijmncaa
open Go.RowKit Sz
set_option maxHeartbeats 8000000
set_option maxRecDepth 20000
namespace St
abbrev EFF : List FuncId := [64, 106]
-- almshouse/almshouselaw37.fixed (0 parameters)
def x19 : XC := (.seq (.tree (.seq ⟨some 0, none, (.ofA (.mv (.cst (.v (.bool false)))))⟩
 .done))
 (.seq (.tree (.seq ⟨some 5, none, (.build [(.v (.int .i64 0)), (.v (.int .i64 0)), (.v (.int .i64 0)), (.v (.int .i64 0))] [(0, 1, (.cst (.v (.int .i64 2)))), (1, 1, (.cst (.v (.int .i64 1)))), (2, 1, (.cst (.v (.int .i64 4)))), (3, 1, (.cst (.v (.int .i64 4))))])⟩
 (.seq ⟨some 1, none, (.alloc [(.v (.int .i64 0)), (.v (.int .i64 0)), (.v (.int .i64 0)), (.v (.int .i64 0))])⟩
 (.seq ⟨none, none, (.store 4 (.tmp 1) (.tmp 5))⟩
 .done))))
 (.seq (.tree (.seq ⟨some 7, none, (.ofA (.load (some 4) (.tmp 1)))⟩
 (.seq ⟨some 8, none, (.buildSl 1 4 [(.v (.int .i64 0)), (.v (.int .i64 0)), (.v (.int .i64 0)), (.v (.int .i64 0))] [(0, 1, (.cst (.v (.int .i64 2)))), (1, 1, (.cst (.v (.int .i64 4)))), (2, 1, (.cst (.v (.int .i64 6)))), (3, 1, (.cst (.v (.int .i64 5))))])⟩
 (.seq ⟨some 9, none, (.call (.cst (.fn 20 [])) [(.tmp 7), (.tmp 8), (.cst (.v (.int .i64 2)))])⟩
 (.seq ⟨some 6, none, (.ofA (.mv (.tmp 9)))⟩
 (.seq ⟨some 10, none, (.ofA (.extract 0 (.tmp 6)))⟩
 (.seq ⟨some 11, none, (.ofA (.extract 1 (.tmp 6)))⟩
 (.seq ⟨some 2, none, (.ofA (.mv (.tmp 10)))⟩
 (.seq ⟨some 3, none, (.ofA (.mv (.tmp 11)))⟩
 .done)))))))))
 (.seq (.tree (.seq ⟨some 12, none, (.ofA (.load (some 4) (.tmp 1)))⟩
 (.seq ⟨some 13, none, (.buildSl 1 3 [(.v (.int .i64 0)), (.v (.int .i64 0)), (.v (.int .i64 0))] [(0, 1, (.cst (.v (.int .i64 2)))), (1, 1, (.cst (.v (.int .i64 3)))), (2, 1, (.cst (.v (.int .i64 4))))])⟩
 (.seq ⟨some 14, none, (.call (.cst (.fn 22 [])) [(.tmp 12), (.tmp 13)])⟩
 (.seq ⟨some 4, none, (.ofA (.mv (.tmp 14)))⟩
 .done)))))
 (.seq (.tree (.seq ⟨some 15, none, (.ofA (.mv (.tmp 3)))⟩
 (.seq ⟨some 16, none, (.ofA (.mv (.tmp 15)))⟩
 (.seq ⟨some 17, some (16, true), (.ofA (.mv (.tmp 2)))⟩
 (.seq ⟨some 18, some (16, true), (.ofA (.len (.tmp 17)))⟩
 (.seq ⟨some 19, some (16, true), (.ofA (.bin .eql (.tmp 18) (.cst (.v (.int .i64 2)))))⟩
 (.seq ⟨some 20, none, (.ofA (.pick (.tmp 16) (.tmp 19) (.cst (.v (.bool false)))))⟩
 (.seq ⟨some 21, none, (.ofA (.mv (.tmp 20)))⟩
 (.seq ⟨some 22, some (21, true), (.ofA (.mv (.tmp 2)))⟩
 (.seq ⟨some 23, some (21, true), (.ofA (.isl 1 (.tmp 22) (.cst (.v (.int .i64 0)))))⟩
 (.seq ⟨some 24, some (21, true), (.ofA (.load none (.tmp 23)))⟩
 (.seq ⟨some 25, some (21, true), (.ofA (.bin .eql (.tmp 24) (.cst (.v (.int .i64 2)))))⟩
 (.seq ⟨some 26, none, (.ofA (.pick (.tmp 21) (.tmp 25) (.cst (.v (.bool false)))))⟩
 (.seq ⟨some 27, none, (.ofA (.mv (.tmp 26)))⟩
 (.seq ⟨some 28, some (27, true), (.ofA (.mv (.tmp 2)))⟩
 (.seq ⟨some 29, some (27, true), (.ofA (.isl 1 (.tmp 28) (.cst (.v (.int .i64 1)))))⟩
 (.seq ⟨some 30, some (27, true), (.ofA (.load none (.tmp 29)))⟩
 (.seq ⟨some 31, some (27, true), (.ofA (.bin .eql (.tmp 30) (.cst (.v (.int .i64 5)))))⟩
 (.seq ⟨some 32, none, (.ofA (.pick (.tmp 27) (.tmp 31) (.cst (.v (.bool false)))))⟩
 (.seq ⟨some 33, none, (.ofA (.mv (.tmp 32)))⟩
 (.seq ⟨some 34, some (33, true), (.ofA (.mv (.tmp 4)))⟩
 (.seq ⟨some 35, some (33, true), (.ofA (.len (.tmp 34)))⟩
 (.seq ⟨some 36, some (33, true), (.ofA (.bin .eql (.tmp 35) (.cst (.v (.int .i64 3)))))⟩
 (.seq ⟨some 37, none, (.ofA (.pick (.tmp 33) (.tmp 36) (.cst (.v (.bool false)))))⟩
 (.seq ⟨some 38, none, (.ofA (.mv (.tmp 37)))⟩
 (.seq ⟨some 39, some (38, true), (.ofA (.mv (.tmp 4)))⟩
 (.seq ⟨some 40, some (38, true), (.ofA (.isl 1 (.tmp 39) (.cst (.v (.int .i64 1)))))⟩
 (.seq ⟨some 41, some (38, true), (.ofA (.load none (.tmp 40)))⟩
 (.seq ⟨some 42, some (38, true), (.ofA (.bin .eql (.tmp 41) (.cst (.v (.int .i64 3)))))⟩
 (.seq ⟨some 43, none, (.ofA (.pick (.tmp 38) (.tmp 42) (.cst (.v (.bool false)))))⟩
 (.seq ⟨some 44, none, (.ofA (.mv (.tmp 43)))⟩
 (.seq ⟨some 45, some (44, true), (.ofA (.load (some 4) (.tmp 1)))⟩
 (.seq ⟨some 46, some (44, true), (.ofA (.mv (.tmp 2)))⟩
 (.seq ⟨some 47, some (44, true), (.call (.cst (.fn 24 [])) [(.tmp 45), (.tmp 46)])⟩
 (.seq ⟨some 48, none, (.ofA (.pick (.tmp 44) (.tmp 47) (.cst (.v (.bool false)))))⟩
 (.seq ⟨some 49, none, (.ofA (.mv (.tmp 48)))⟩
 (.seq ⟨some 50, some (49, true), (.ofA (.load (some 4) (.tmp 1)))⟩
 (.seq ⟨some 51, some (49, true), (.buildSl 1 2 [(.v (.int .i64 0)), (.v (.int .i64 0))] [(0, 1, (.cst (.v (.int .i64 2)))), (1, 1, (.cst (.v (.int .i64 4))))])⟩
 (.seq ⟨some 52, some (49, true), (.call (.cst (.fn 24 [])) [(.tmp 50), (.tmp 51)])⟩
 (.seq ⟨some 53, some (49, true), (.ofA (.un .not (.tmp 52)))⟩
 (.seq ⟨some 54, none, (.ofA (.pick (.tmp 49) (.tmp 53) (.cst (.v (.bool false)))))⟩
 (.seq ⟨some 55, none, (.ofA (.mv (.tmp 54)))⟩
 (.seq ⟨some 56, some (55, true), (.ofA (.load (some 4) (.tmp 1)))⟩
 (.seq ⟨some 57, some (55, true), (.call (.cst (.fn 23 [])) [(.tmp 56), (.cst (.v (.slice none 0 0)))])⟩
 (.seq ⟨some 58, some (55, true), (.ofA (.len (.tmp 57)))⟩
 (.seq ⟨some 59, some (55, true), (.ofA (.bin .eql (.tmp 58) (.cst (.v (.int .i64 2)))))⟩
 (.seq ⟨some 60, none, (.ofA (.pick (.tmp 55) (.tmp 59) (.cst (.v (.bool false)))))⟩
 (.seq ⟨some 0, none, (.ofA (.mv (.tmp 60)))⟩
 .done))))))))))))))))))))))))))))))))))))))))))))))))
 .ret)))))
def r19 : List XR := [.tmp 0]
theorem fn19 : FnX Try.prog 19 [64, 106] 61 x19 r19 := ⟨_, Try.func19, by kernel_rfl, by kernel_rfl, by kernel_rfl, by kernel_rfl⟩
-- almshouse/geom.Check (1 parameters)
def x53 : XC := (.seq (.tree (.seq ⟨some 1, none, (.box (.tmp 0))⟩
 (.seq ⟨some 2, none, (.ofA (.mv (.cst (.v (.int .i64 0)))))⟩
 .done)))
 (.seq (.tree (.seq ⟨some 6, none, (.ofA (.faddr 0 (.tmp 1)))⟩
 (.seq ⟨some 7, none, (.ofA (.load none (.tmp 6)))⟩
 (.seq ⟨some 8, none, (.ofA (.faddr 1 (.tmp 1)))⟩
 (.seq ⟨some 9, none, (.ofA (.load none (.tmp 8)))⟩
 (.seq ⟨some 10, none, (.ofA (.faddr 2 (.tmp 1)))⟩
 (.seq ⟨some 11, none, (.ofA (.load none (.tmp 10)))⟩
 (.seq ⟨some 12, none, (.ofA (.mx false (.tmp 7) [(.tmp 9), (.tmp 11)]))⟩
 (.seq ⟨some 3, none, (.ofA (.mv (.tmp 12)))⟩
 .done)))))))))
 (.seq (.tree (.seq ⟨some 13, none, (.ofA (.faddr 0 (.tmp 1)))⟩
 (.seq ⟨some 14, none, (.ofA (.load none (.tmp 13)))⟩
 (.seq ⟨some 15, none, (.ofA (.faddr 1 (.tmp 1)))⟩
 (.seq ⟨some 16, none, (.ofA (.load none (.tmp 15)))⟩
 (.seq ⟨some 17, none, (.ofA (.faddr 2 (.tmp 1)))⟩
 (.seq ⟨some 18, none, (.ofA (.load none (.tmp 17)))⟩
 (.seq ⟨some 19, none, (.ofA (.mx true (.tmp 14) [(.tmp 16), (.tmp 18)]))⟩
 (.seq ⟨some 4, none, (.ofA (.mv (.tmp 19)))⟩
 .done)))))))))
 (.seq (.block 0 (.seq (.tree (.seq ⟨some 21, none, (.ofA (.mv (.tmp 3)))⟩
 (.seq ⟨some 22, none, (.ofA (.bin .lss (.tmp 21) (.cst (.v (.int .i64 1)))))⟩
 (.seq ⟨some 23, none, (.ofA (.mv (.tmp 22)))⟩
 (.seq ⟨some 24, some (23, false), (.ofA (.faddr 3 (.tmp 1)))⟩
 (.seq ⟨some 25, some (23, false), (.ofA (.load none (.tmp 24)))⟩
 (.seq ⟨some 26, some (23, false), (.ofA (.bin .lss (.tmp 25) (.cst (.v (.int .i64 2)))))⟩
 (.seq ⟨some 27, none, (.ofA (.pick (.tmp 23) (.cst (.v (.bool true))) (.tmp 26)))⟩
 (.seq ⟨some 20, none, (.ofA (.mv (.tmp 27)))⟩
 .done)))))))))
 (.cond (.tmp 20)
 (.seq (.tree (.seq ⟨some 2, none, (.ofA (.mv (.cst (.v (.int .i64 1)))))⟩
 .done))
 .ret)
 (.seq (.tree (.seq ⟨some 29, none, (.ofA (.mv (.tmp 4)))⟩
 (.seq ⟨some 30, none, (.ofA (.bin .gtr (.tmp 29) (.cst (.v (.int .i64 64)))))⟩
 (.seq ⟨some 31, none, (.ofA (.mv (.tmp 30)))⟩
 (.seq ⟨some 32, some (31, false), (.ofA (.faddr 3 (.tmp 1)))⟩
 (.seq ⟨some 33, some (31, false), (.ofA (.load none (.tmp 32)))⟩
 (.seq ⟨some 34, some (31, false), (.ofA (.bin .gtr (.tmp 33) (.cst (.v (.int .i64 16)))))⟩
 (.seq ⟨some 35, none, (.ofA (.pick (.tmp 31) (.cst (.v (.bool true))) (.tmp 34)))⟩
 (.seq ⟨some 28, none, (.ofA (.mv (.tmp 35)))⟩
 .done)))))))))
 (.cond (.tmp 28)
 (.seq (.tree (.seq ⟨some 2, none, (.ofA (.mv (.cst (.v (.int .i64 4)))))⟩
 .done))
 .ret)
 .skip)))))
 (.seq (.seq (.tree (.seq ⟨some 36, none, (.ofA (.faddr 0 (.tmp 1)))⟩
 (.seq ⟨some 37, none, (.ofA (.load none (.tmp 36)))⟩
 (.seq ⟨some 38, none, (.ofA (.faddr 1 (.tmp 1)))⟩
 (.seq ⟨some 39, none, (.ofA (.load none (.tmp 38)))⟩
 (.seq ⟨some 40, none, (.ofA (.bin .mul (.tmp 37) (.tmp 39)))⟩
 (.seq ⟨some 41, none, (.ofA (.faddr 2 (.tmp 1)))⟩
 (.seq ⟨some 42, none, (.ofA (.load none (.tmp 41)))⟩
 (.seq ⟨some 43, none, (.ofA (.bin .mul (.tmp 40) (.tmp 42)))⟩
 (.seq ⟨some 5, none, (.ofA (.mv (.tmp 43)))⟩
 .done))))))))))
 (.block 1 (.seq (.tree (.seq ⟨some 45, none, (.ofA (.mv (.tmp 5)))⟩
 (.seq ⟨some 46, none, (.ofA (.bin .leq (.tmp 45) (.cst (.v (.int .i64 2)))))⟩
 (.seq ⟨some 44, none, (.ofA (.mv (.tmp 46)))⟩
 .done))))
 (.cond (.tmp 44)
 (.seq (.tree (.seq ⟨some 2, none, (.ofA (.mv (.cst (.v (.int .i64 1)))))⟩
 .done))
 .ret)
 (.seq (.tree (.seq ⟨some 48, none, (.ofA (.mv (.tmp 5)))⟩
 (.seq ⟨some 49, none, (.ofA (.bin .gtr (.tmp 48) (.cst (.v (.int .i64 64)))))⟩
 (.seq ⟨some 47, none, (.ofA (.mv (.tmp 49)))⟩
 .done))))
 (.cond (.tmp 47)
 (.seq (.tree (.seq ⟨some 2, none, (.ofA (.mv (.cst (.v (.int .i64 4)))))⟩
 .done))
 .ret)
 .skip))))))
 (.seq (.tree (.seq ⟨some 2, none, (.ofA (.mv (.cst (.v (.int .i64 0)))))⟩
 .done))
 .ret))))))
def r53 : List XR := [.tmp 2]
theorem fn53 : FnX Try.prog 53 [64, 106] 50 x53 r53 := ⟨_, Try.func53, by kernel_rfl, by kernel_rfl, by kernel_rfl, by kernel_rfl⟩
-- almshouse/geom.Blocks (1 parameters)
def x55 : XC := (.seq (.tree (.seq ⟨some 1, none, (.box (.tmp 0))⟩
 (.seq ⟨some 2, none, (.ofA (.mv (.cst (.v (.int .i64 0)))))⟩
 .done)))
 (.seq (.seq (.tree (.seq ⟨some 3, none, (.ofA (.load (some 4) (.tmp 1)))⟩
 (.seq ⟨some 4, none, (.call (.cst (.fn 53 [])) [(.tmp 3)])⟩
 (.seq ⟨some 5, none, (.ofA (.bin .neq (.tmp 4) (.cst (.v (.int .i64 0)))))⟩
 .done))))
 (.cond (.tmp 5)
 (.seq (.tree (.seq ⟨some 2, none, (.ofA (.mv (.cst (.v (.int .i64 0)))))⟩
 .done))
 .ret)
 .skip))
 (.seq (.tree (.seq ⟨some 6, none, (.ofA (.faddr 0 (.tmp 1)))⟩
 (.seq ⟨some 7, none, (.ofA (.load none (.tmp 6)))⟩
 (.seq ⟨some 8, none, (.ofA (.faddr 1 (.tmp 1)))⟩
 (.seq ⟨some 9, none, (.ofA (.load none (.tmp 8)))⟩
 (.seq ⟨some 10, none, (.ofA (.bin .mul (.tmp 7) (.tmp 9)))⟩
 (.seq ⟨some 11, none, (.ofA (.faddr 2 (.tmp 1)))⟩
 (.seq ⟨some 12, none, (.ofA (.load none (.tmp 11)))⟩
 (.seq ⟨some 13, none, (.ofA (.bin .mul (.tmp 10) (.tmp 12)))⟩
 (.seq ⟨some 2, none, (.ofA (.mv (.tmp 13)))⟩
 .done))))))))))
 .ret)))
def r55 : List XR := [.tmp 2]
theorem fn55 : FnX Try.prog 55 [64, 106] 14 x55 r55 := ⟨_, Try.func55, by kernel_rfl, by kernel_rfl, by kernel_rfl, by kernel_rfl⟩
def insI (x : Int) : List Int → List Int
  | [] => [x]
  | y :: l => if x ≤ y then x :: y :: l else y :: insI x l
def isrt : List Int → List Int
  | [] => []
  | x :: l => insI x (isrt l)
theorem insI_perm (x : Int) : ∀ l, (insI x l).Perm (x :: l)
  | [] => List.Perm.refl _
  | y :: l => by
    unfold insI
    split
    · exact List.Perm.refl _
    · exact ((insI_perm x l).cons y).trans (List.Perm.swap x y l)
theorem insI_sorted {x : Int} : ∀ {l : List Int}, l.Pairwise (· ≤ ·) → (insI x l).Pairwise (· ≤ ·)
  | [], _ => by simp [insI]
  | y :: l, h => by
    rw [List.pairwise_cons] at h
    unfold insI
    split
    · rename_i hxy
      rw [List.pairwise_cons, List.pairwise_cons]
      refine ⟨fun z hz => ?_, h.1, h.2⟩
      rcases List.mem_cons.1 hz with rfl | hz
      · exact hxy
      · have := h.1 z hz; omega
    · rename_i hxy
      rw [List.pairwise_cons]
      refine ⟨fun z hz => ?_, insI_sorted h.2⟩
      rcases List.mem_cons.1 ((insI_perm x l).mem_iff.1 hz) with rfl | hz
      · omega
      · exact h.1 z hz
theorem isrt_ok : ∀ l, (isrt l).Pairwise (· ≤ ·) ∧ (isrt l).Perm l
  | [] => ⟨by simp [isrt], List.Perm.refl _⟩
  | x :: l => ⟨insI_sorted (isrt_ok l).1, (insI_perm x _).trans ((isrt_ok l).2.cons x)⟩
theorem isrt_srt (l : List Int) : isrt l = srt l := srt_of (isrt_ok l).1 (isrt_ok l).2
def rowN (lo : Nat) (mm : MM) (j n : Nat) : Option (List Int) := match mm.at_ lo j with
  | some ob => bif ob.own && (match ob.x.v with | .no => true | _ => false) then (match decI ob.cells with | some zs => bif Nat.beq zs.length n && Nat.ble n 1000 then some zs else none | none => none) else none
  | none => none
theorem rowN_ok {lo : Nat} {mm : MM} {j n : Nat} {zs : List Int} (h : rowN lo mm j n = some zs) : (mm.mem lo)[j]? = some ⟨true, iL zs⟩ ∧ n = zs.length ∧ zs.length ≤ 1000000 := by
  unfold rowN at h
  rw [mem_at]
  split at h
  case h_2 => cases h
  rename_i ob hob
  obtain ⟨hc, h⟩ := bif_some' h
  split at h
  case h_2 => cases h
  rename_i ys hys
  obtain ⟨hc2, h⟩ := bif_some h
  subst h
  rw [Bool.and_eq_true] at hc hc2
  have hn := Nat.eq_of_beq_eq_true hc2.1
  have hl := Nat.le_of_ble_eq_true hc2.2
  refine ⟨?_, hn.symm, by omega⟩
  rw [hob]
  cases ob
  rename_i own cells xx
  cases xx
  rename_i v
  have hx := hc.2
  simp only at hx hc hys
  have ho : own = true := hc.1
  subst ho
  rw [decI_inv hys]
  cases v with
  | no => rfl
  | map _ _ => cases hx
  | abs _ _ => cases hx
def n64R : Nat_ := fun args lo mm => match args with
  | [.row j 0 n 1] => (match rowN lo mm j n with
    | some zs => (match mm.put lo j ⟨true, iL (isrt zs)⟩ with | some m' => some [(.tup [], m')] | none => none)
    | none => none)
  | _ => none
def n106R : Nat_ := fun args lo mm => match args with
  | [.row j 0 n 1] => (match rowN lo mm j n with
    | some zs => (match mm.put lo j ⟨true, iL (cmpF zs)⟩ with | some m' => some [(.row j 0 (cmpN zs) 1, m')] | none => none)
    | none => none)
  | _ => none
def numR (F : List Int → Int) : Nat_ := fun args lo mm => match args with
  | [.row j 0 n 1] => (match rowN lo mm j n with
    | some zs => bif Nat.blt 0 n then some [(.v (.int .i64 (F zs)), mm)] else none
    | none => none)
  | _ => none
theorem h64 : ∀ I : Inp, @Callable I Try.prog 64 false (natTr n64R) := fun I => .inl (c64_ok.mono fun args m k h => by
  obtain ⟨lo, mm, L, hlo, rfl, hL, h⟩ := h
  unfold n64R at hL
  split at hL
  case h_2 => cases hL
  rename_i j n
  split at hL
  case h_2 => cases hL
  rename_i zs hz
  split at hL
  case h_2 => cases hL
  rename_i m' hm'
  injection hL with hL; subst hL
  obtain ⟨a1, rfl, a3⟩ := rowN_ok hz
  obtain ⟨e1, e2, e3⟩ := put_ok hm'
  have := h _ (List.mem_singleton.2 rfl) ⟨by rw [e2]; exact Nat.le_refl _, e3⟩
  rw [e1, isrt_srt] at this
  exact .inl ⟨j, zs, rfl, a1, a3, this⟩)
theorem h106 : ∀ I : Inp, @Callable I Try.prog 106 false (natTr n106R) := fun I => .inl (c106_ok.mono fun args m k h => by
  obtain ⟨lo, mm, L, hlo, rfl, hL, h⟩ := h
  unfold n106R at hL
  split at hL
  case h_2 => cases hL
  rename_i j n
  split at hL
  case h_2 => cases hL
  rename_i zs hz
  split at hL
  case h_2 => cases hL
  rename_i m' hm'
  injection hL with hL; subst hL
  obtain ⟨a1, rfl, a3⟩ := rowN_ok hz
  obtain ⟨e1, e2, e3⟩ := put_ok hm'
  have := h _ (List.mem_singleton.2 rfl) ⟨by rw [e2]; exact Nat.le_refl _, e3⟩
  rw [e1] at this
  exact .inl ⟨j, zs, rfl, a1, a3, this⟩)
theorem numR_ok {F : List Int → Int} {args : List SV} {m : Mem} {k : SV → Mem → Prop} (h : natTr (numR F) args m k) : numT F args m k := by
  obtain ⟨lo, mm, L, hlo, rfl, hL, h⟩ := h
  unfold numR at hL
  split at hL
  case h_2 => cases hL
  rename_i j n
  split at hL
  case h_2 => cases hL
  rename_i zs hz
  obtain ⟨hc, hL⟩ := bif_some hL
  subst hL
  obtain ⟨a1, rfl, a3⟩ := rowN_ok hz
  exact ⟨j, zs, rfl, a1, by rw [nblt] at hc; exact of_decide_eq_true hc, a3, h _ (List.mem_singleton.2 rfl) (Keep.refl _ _)⟩
theorem h65 : ∀ I : Inp, @Callable I Try.prog 65 true (natTr (numR Lib.maxOf)) := fun I => .inl (c65_ok.mono fun args m k h => numR_ok h)
theorem h66 : ∀ I : Inp, @Callable I Try.prog 66 true (natTr (numR Lib.minOf)) := fun I => .inl (c66_ok.mono fun args m k h => numR_ok h)
def T19 : List RE := [.run 19 true ⟨x19, 61, r19, 6⟩, .run 20 true ⟨x20, 86, r20, 7⟩, .run 22 true ⟨x22, 41, r22, 6⟩, .run 23 true ⟨x23, 39, r23, 6⟩, .run 24 true ⟨x24, 20, r24, 5⟩, .run 53 true ⟨x53, 50, r53, 6⟩, .run 55 true ⟨x55, 14, r55, 4⟩, .run 63 true ⟨x63, 61, r63, 6⟩, .run 105 true ⟨x105, 8, r105, 4⟩, .run 107 true ⟨x107, 53, r107, 6⟩, .nat 64 false n64R, .nat 106 false n106R, .nat 65 true (numR Lib.maxOf), .nat 66 true (numR Lib.minOf)]
theorem T19_ok : TOk Try.prog EFF T19 := (TOk.run fn19 (TOk.run fn20 (TOk.run fn22 (TOk.run fn23 (TOk.run fn24 (TOk.run fn53 (TOk.run fn55 (TOk.run fn63 (TOk.run fn105 (TOk.run fn107 (TOk.nat h64 (TOk.nat h106 (TOk.nat h65 (TOk.nat h66 TOk.nil))))))))))))))
theorem run19 : runsTo T19 1000 80 19 [] (.v (.bool true)) = true := by kernel_rfl
def c19 [Inp] : Trans := fun args m k => args = [] ∧ k (.v (.bool true)) m
theorem c19_ok [Inp] : Contract Try.prog 19 true c19 := .runs T19_ok 1000 80 run19 _ fun a m k h => ⟨h.1, h.2⟩
end St
end Go.Proofs.Ytibefgdjijmncaa
end
section
namespace Go.Proofs.Ytibefgdjijmncaa
open Go.RowKit Sz
set_option maxHeartbeats 8000000
set_option maxRecDepth 20000
namespace St
-- almshouse/almshouselaw37.StripeTells (3 parameters)
def G6 [Inp] : List CEntry := [⟨19, true, c19⟩, ⟨20, true, c20⟩, ⟨21, true, c21⟩, ⟨22, true, c22⟩, ⟨23, true, c23⟩, ⟨24, true, c24⟩, ⟨25, true, c25⟩, ⟨26, true, c26⟩, ⟨27, true, c27⟩, ⟨28, true, c28⟩]
theorem g6 [Inp] : GOk Try.prog G6 := GOk.cons c19_ok (GOk.cons c20_ok (GOk.cons c21_ok (GOk.cons c22_ok (GOk.cons c23_ok (GOk.cons c24_ok (GOk.cons c25_ok (GOk.cons c26_ok (GOk.cons c27_ok (GOk.cons c28_ok (g0 _))))))))))
theorem rdI_row [Inp] {m : Mem} {j n : Nat} {O : List Int} (h : m[j]? = some ⟨true, iL O⟩) (hn : n = O.length) : rdI m (.row j 0 n 1) = some O := by
  subst hn
  unfold rdI
  simp only [slOf, h, if_true, Nat.zero_add, Nat.mul_one, List.drop_zero]
  rw [if_pos (by rw [iL_len]; exact Nat.le_refl _), ← @iL_len O, List.take_length]
  exact decI_iL
end St
end Go.Proofs.Ytibefgdjijmncaa
end
section
namespace Go.Proofs.Ytibefgdjijmncaa
open Go.RowKit Sz
namespace St
def sumN (f : Nat → Int) : Nat → Int
  | 0 => 0
  | n + 1 => sumN f n + f n
theorem sumN_le {f h : Nat → Int} : ∀ {n : Nat}, (∀ c, c < n → f c ≤ h c) → sumN f n ≤ sumN h n
  | 0, _ => Int.le_refl _
  | n + 1, hh => by
    have := sumN_le (n := n) fun c hc => hh c (by omega)
    have := hh n (by omega)
    unfold sumN
    omega
theorem sumN_lt {f h : Nat → Int} : ∀ {n : Nat}, (∀ c, c < n → f c ≤ h c) → (∃ c, c < n ∧ f c < h c) → sumN f n < sumN h n
  | 0, _, ⟨c, hc, _⟩ => by omega
  | n + 1, hh, ⟨c, hc, hlt⟩ => by
    have h1 := sumN_le (n := n) fun c hc => hh c (by omega)
    have h2 := hh n (by omega)
    unfold sumN
    by_cases e : c = n
    · subst e
      omega
    · have := sumN_lt (n := n) (fun c hc => hh c (by omega)) ⟨c, by omega, hlt⟩
      omega
theorem sumN_congr {f h : Nat → Int} : ∀ {n : Nat}, (∀ c, c < n → f c = h c) → sumN f n = sumN h n
  | 0, _ => rfl
  | n + 1, hh => by
    unfold sumN
    rw [sumN_congr (n := n) fun c hc => hh c (by omega), hh n (by omega)]
theorem sumN_set {tk : List Int} {b : Nat} {v : Int} (hb : b < tk.length) : ∀ {n : Nat}, b < n → sumN (tkA (tk.set b v)) n = sumN (tkA tk) n - tkA tk b + v
  | 0, h => by omega
  | n + 1, h => by
    unfold sumN
    rw [tkA_set hb]
    by_cases e : b = n
    · subst e
      rw [if_pos rfl, sumN_congr (h := tkA tk) fun c hc => by rw [tkA_set hb, if_neg (by omega)]]
      omega
    · rw [if_neg (fun q => e q.symm), sumN_set hb (n := n) (by omega)]
      omega
theorem sumN_zero (C : Nat) : ∀ n, sumN (tkA (List.replicate C 0)) n = 0
  | 0 => rfl
  | n + 1 => by
    unfold sumN
    rw [sumN_zero C n]
    have : tkA (List.replicate C 0) n = 0 := by
      unfold tkA
      rw [List.getD_eq_getElem?_getD, List.getElem?_replicate]
      split <;> rfl
    omega
def lnI (L : List (List Int)) (c : Nat) : Int := ((lnA L c).length : Int)
theorem best_none {L : List (List Int)} {tk : List Int} : ∀ {n : Nat}, bestN L tk n = -1 → ∀ c, c < n → ¬ tkA tk c < lnI L c
  | 0, _, c, hc => by omega
  | n + 1, h, c, hc => by
    have hs : bestN L tk (n + 1) = stepB L tk (bestN L tk n) n := rfl
    rw [hs] at h
    unfold stepB at h
    split at h
    · omega
    · rename_i h2
      by_cases e : c = n
      · subst e
        intro q
        exact h2 ⟨q, .inl (by omega)⟩
      · exact best_none h c (by omega)
theorem best_min {L : List (List Int)} {tk : List Int} : ∀ {n : Nat}, 0 ≤ bestN L tk n → ∀ c, c < n → tkA tk c < lnI L c → tkA tk (bestN L tk n).toNat ≤ tkA tk c
  | 0, h, c, hc, _ => by omega
  | n + 1, h, c, hc, hlt => by
    have hs : bestN L tk (n + 1) = stepB L tk (bestN L tk n) n := rfl
    rw [hs] at h ⊢
    unfold stepB at h ⊢
    by_cases hcond : tkA tk n < ((lnA L n).length : Int) ∧ (bestN L tk n < 0 ∨ tkA tk n < tkA tk (bestN L tk n).toNat)
    · rw [if_pos hcond, Int.toNat_natCast]
      by_cases e : c = n
      · subst e; omega
      · rcases bestN_in L tk n with hb | ⟨hb0, hb1, hb2⟩
        · exact absurd hlt (best_none hb c (by omega))
        · have := best_min (n := n) hb0 c (by omega) hlt
          rcases hcond.2 with q | q <;> omega
    · rw [if_neg hcond] at h ⊢
      by_cases e : c = n
      · subst e
        have hlt' : tkA tk c < ((lnA L c).length : Int) := hlt
        have : ¬ tkA tk c < tkA tk (bestN L tk c).toNat := fun q => hcond ⟨hlt', .inr q⟩
        omega
      · exact best_min (n := n) h c (by omega) hlt
theorem pick_even {L : List (List Int)} : ∀ {n : Nat} {s : List Int × List Int}, pickS L n = some s → sumN (tkA s.2) L.length = n ∧ ∀ c c', c < L.length → c' < L.length → tkA s.2 c' < lnI L c' → tkA s.2 c ≤ tkA s.2 c' + 1
  | 0, s, h => by
    injection h with h
    subst h
    refine ⟨sumN_zero _ _, fun c c' hc hc' _ => ?_⟩
    have : ∀ i, tkA (List.replicate L.length 0) i = 0 := fun i => by
      unfold tkA
      rw [List.getD_eq_getElem?_getD, List.getElem?_replicate]
      split <;> rfl
    simp only [this]
    omega
  | n + 1, s, h => by
    obtain ⟨s0, h0, h1⟩ := Option.bind_eq_some_iff.1 h
    obtain ⟨a1, a2⟩ := pick_even h0
    obtain ⟨b1, b2, b3⟩ := pickS_in h0
    split at h1
    · cases h1
    · rename_i hb
      injection h1 with h1
      subst h1
      rcases bestN_in L s0.2 L.length with e | ⟨e1, e2, e3⟩
      · omega
      · have hmin := best_min e1
        generalize bestN L s0.2 L.length = B at e1 e2 e3 hb hmin ⊢
        have hBl : B.toNat < L.length := by omega
        have hBt : B.toNat < s0.2.length := by rw [b2]; exact hBl
        refine ⟨?_, fun c c' hc hc' => ?_⟩
        · show sumN (tkA (s0.2.set B.toNat (tkA s0.2 B.toNat + 1))) L.length = _
          rw [sumN_set hBt hBl, a1]
          omega
        · show tkA (s0.2.set B.toNat (tkA s0.2 B.toNat + 1)) c' < _ → tkA (s0.2.set B.toNat (tkA s0.2 B.toNat + 1)) c ≤ tkA (s0.2.set B.toNat (tkA s0.2 B.toNat + 1)) c' + 1
          rw [tkA_set hBt, tkA_set hBt]
          have q1 := a2 c B.toNat hc hBl e3
          have q2 := fun h => a2 c c' hc hc' h
          have q3 := hmin c' hc'
          split <;> split <;> intro hlt <;> first | omega | (have := q2 hlt; omega) | (have := q3 hlt; omega)
theorem pick_has {L : List (List Int)} : ∀ {n : Nat}, (n : Int) ≤ sumN (lnI L) L.length → ∃ s, pickS L n = some s
  | 0, _ => ⟨_, rfl⟩
  | n + 1, h => by
    obtain ⟨s, hs⟩ := pick_has (L := L) (n := n) (by omega)
    obtain ⟨a1, _⟩ := pick_even hs
    have hb : ¬ bestN L s.2 L.length < 0 := fun hneg => by
      rcases bestN_in L s.2 L.length with e | ⟨e1, _, _⟩
      · have h1 := best_none e
        have h2 := sumN_le (f := lnI L) (h := tkA s.2) (n := L.length) fun c hc => by have := h1 c hc; omega
        omega
      · omega
    cases e : pickS L (n + 1) with
    | some s' => exact ⟨s', rfl⟩
    | none =>
      simp only [pickS, hs, Option.bind_some, if_neg hb] at e
      cases e
theorem pick_le {L : List (List Int)} {n : Nat} {s : List Int × List Int} (h : pickS L n = some s) : (n : Int) ≤ sumN (lnI L) L.length := by
  obtain ⟨a1, _⟩ := pick_even h
  obtain ⟨_, _, b3⟩ := pickS_in h
  rw [← a1]
  exact sumN_le fun c hc => (b3 c).2.2
theorem foldl_max {l : List Int} : ∀ {a : Int}, a ≤ l.foldl max a ∧ (∀ x ∈ l, x ≤ l.foldl max a) ∧ (l.foldl max a = a ∨ l.foldl max a ∈ l) := by
  induction l with
  | nil => intro a; exact ⟨Int.le_refl _, by simp, .inl rfl⟩
  | cons y l ih =>
    intro a
    obtain ⟨h1, h2, h3⟩ := ih (a := max a y)
    rw [List.foldl_cons]
    refine ⟨by omega, fun x hx => ?_, ?_⟩
    · rcases List.mem_cons.1 hx with rfl | hx
      · omega
      · exact h2 x hx
    · rcases h3 with h3 | h3
      · rcases Int.le_total a y with q | q
        · right; rw [h3, Int.max_eq_right q]; simp
        · left; rw [h3, Int.max_eq_left q]
      · exact .inr (by simp [h3])
theorem pick_under {L : List (List Int)} {n : Nat} {s : List Int × List Int} (h : pickS L n = some s) {most : Int} (hm : s.2.foldl max 0 = most) (h0 : most ≠ 0) : sumN (fun c => min (lnI L c) (most - 1)) L.length < (n : Int) := by
  obtain ⟨a1, a2⟩ := pick_even h
  obtain ⟨_, b2, b3⟩ := pickS_in h
  obtain ⟨m1, m2, m3⟩ := foldl_max (l := s.2) (a := 0)
  rw [hm] at m1 m2 m3
  have hle : ∀ c, c < L.length → tkA s.2 c ≤ most := fun c hc => by
    refine m2 _ ?_
    unfold tkA
    rw [List.getD_eq_getElem?_getD, List.getElem?_eq_getElem (by omega)]
    exact List.getElem_mem _
  obtain ⟨c0, hc0, hc0m⟩ : ∃ c0, c0 < L.length ∧ tkA s.2 c0 = most := by
    rcases m3 with e | e
    · exact absurd e h0
    · obtain ⟨i, hi⟩ := List.getElem?_of_mem e
      refine ⟨i, by have := some_lt hi; omega, ?_⟩
      unfold tkA
      rw [List.getD_eq_getElem?_getD, hi]
      rfl
  rw [← a1]
  refine sumN_lt (fun c hc => ?_) ⟨c0, hc0, ?_⟩
  · by_cases hr : tkA s.2 c < lnI L c
    · have := a2 c0 c hc0 hc hr
      omega
    · omega
  · show min (lnI L c0) (most - 1) < tkA s.2 c0
    omega
theorem lan_perm {g : Ge} {a b : List Int} (h : a.Perm b) (c : Nat) : (lan g a c).length = (lan g b c).length := (h.filter _).length_eq
theorem load_perm {g : Ge} {a b : List Int} (h : a.Perm b) (C : Nat) : loadF g a C = loadF g b C := by
  unfold loadF
  exact List.map_congr_left fun c _ => by rw [lan_perm h]
theorem pick_load {g : Ge} {bs : List Int} {C : Nat} (h1 : 1 ≤ g.ch) (hC : (C : Int) = g.ch) : ∀ {n : Nat} {s : List Int × List Int}, pickS (lanR g bs C) n = some s → s.2 = loadF g s.1 C
  | 0, s, h => by
    injection h with h
    subst h
    show List.replicate _ _ = loadF g [] C
    rw [loadF_nil, lanR_len]
  | n + 1, s, h => by
    obtain ⟨s0, h0, h2⟩ := Option.bind_eq_some_iff.1 h
    have ih := pick_load h1 hC h0
    obtain ⟨_, b2, b3⟩ := pickS_in h0
    split at h2
    · cases h2
    · rename_i hb
      injection h2 with h2
      subst h2
      rcases bestN_in (lanR g bs C) s0.2 (lanR g bs C).length with e | ⟨e1, e2, e3⟩
      · omega
      · rw [lanR_len] at e1 e2 e3 ⊢
        generalize bestN (lanR g bs C) s0.2 C = B at e1 e2 e3 ⊢
        have hB : B.toNat < C := by omega
        rw [lnA_R hB] at e3 ⊢
        have ht := b3 B.toNat
        have hlt : (tkA s0.2 B.toNat).toNat < (laneR g bs B.toNat).length := by omega
        have hg : (laneR g bs B.toNat)[(tkA s0.2 B.toNat).toNat]? = some ((laneR g bs B.toNat).getD (tkA s0.2 B.toNat).toNat 0) := by rw [List.getD_eq_getElem?_getD, List.getElem?_eq_getElem hlt]; rfl
        have := load_step h1 hC hB hg (out := s0.1)
        show s0.2.set B.toNat (tkA s0.2 B.toNat + 1) = loadF g (s0.1 ++ [(laneR g bs B.toNat).getD (tkA s0.2 B.toNat).toNat 0]) C
        rw [this, ih]
end St
end Go.Proofs.Ytibefgdjijmncaa
end
