/- Walks and plain facts for the law StripeTells, part MSTG. No condition. -/
import Derived.Test.YtibefgdjijmncaaMSTF
import Derived.Test.YtibefgdjijmncaaMSTA
import Derived.ProofKit
import Derived.OpenShut
import Derived.Deep.Slices
import Derived.Test.YtibefgdjijmncaaMSTC
import Derived.SizedLaws
set_option linter.unusedVariables false
set_option linter.unusedSimpArgs false
section
namespace Go.Proofs.Ytibefgdjijmncaa
open Go.RowKit Sz
set_option maxHeartbeats 8000000
set_option maxRecDepth 20000
namespace St
-- almshouse/almshouselaw37.StripeTells (3 parameters)
def x6 : XC := (.seq (.tree (.seq ⟨some 3, none, (.box (.tmp 0))⟩
 (.seq ⟨some 6, none, (.ofA (.mv (.cst (.v (.bool false)))))⟩
 .done)))
 (.seq (.seq (.tree (.seq ⟨some 16, none, (.call (.cst (.fn 19 [])) [])⟩
 (.seq ⟨some 17, none, (.ofA (.un .not (.tmp 16)))⟩
 .done)))
 (.cond (.tmp 17)
 (.seq (.tree (.seq ⟨some 6, none, (.ofA (.mv (.cst (.v (.bool false)))))⟩
 .done))
 .ret)
 .skip))
 (.seq (.seq (.tree (.seq ⟨some 18, none, (.ofA (.mv (.tmp 1)))⟩
 (.seq ⟨some 19, none, (.ofA (.len (.tmp 18)))⟩
 (.seq ⟨some 20, none, (.ofA (.bin .gtr (.tmp 19) (.cst (.v (.int .i64 40)))))⟩
 (.seq ⟨some 21, none, (.ofA (.mv (.tmp 20)))⟩
 (.seq ⟨some 22, some (21, false), (.ofA (.mv (.tmp 2)))⟩
 (.seq ⟨some 23, some (21, false), (.ofA (.bin .gtr (.tmp 22) (.cst (.v (.int .i64 70)))))⟩
 (.seq ⟨some 24, none, (.ofA (.pick (.tmp 21) (.cst (.v (.bool true))) (.tmp 23)))⟩
 .done))))))))
 (.cond (.tmp 24)
 (.seq (.tree (.seq ⟨some 6, none, (.ofA (.mv (.cst (.v (.bool true)))))⟩
 .done))
 .ret)
 .skip))
 (.seq (.tree (.seq ⟨some 26, none, (.ofA (.load (some 4) (.tmp 3)))⟩
 (.seq ⟨some 27, none, (.ofA (.mv (.tmp 1)))⟩
 (.seq ⟨some 28, none, (.ofA (.mv (.tmp 2)))⟩
 (.seq ⟨some 29, none, (.call (.cst (.fn 20 [])) [(.tmp 26), (.tmp 27), (.tmp 28)])⟩
 (.seq ⟨some 25, none, (.ofA (.mv (.tmp 29)))⟩
 (.seq ⟨some 30, none, (.ofA (.extract 0 (.tmp 25)))⟩
 (.seq ⟨some 31, none, (.ofA (.extract 1 (.tmp 25)))⟩
 (.seq ⟨some 7, none, (.ofA (.mv (.tmp 30)))⟩
 (.seq ⟨some 8, none, (.ofA (.mv (.tmp 31)))⟩
 .done))))))))))
 (.seq (.seq (.tree (.seq ⟨some 32, none, (.ofA (.load (some 4) (.tmp 3)))⟩
 (.seq ⟨some 33, none, (.call (.cst (.fn 21 [])) [(.tmp 32)])⟩
 (.seq ⟨some 34, none, (.ofA (.bin .neq (.tmp 33) (.cst (.v (.int .i64 0)))))⟩
 .done))))
 (.cond (.tmp 34)
 (.seq (.tree (.take ⟨some 35, none, (.ofA (.mv (.tmp 8)))⟩
 (.take ⟨some 36, none, (.ofA (.un .not (.tmp 35)))⟩
 (.take ⟨some 37, none, (.ofA (.mv (.tmp 36)))⟩
 (.take ⟨some 38, some (37, true), (.ofA (.mv (.tmp 7)))⟩
 (.take ⟨some 39, some (37, true), (.ofA (.len (.tmp 38)))⟩
 (.take ⟨some 40, some (37, true), (.ofA (.load (some 4) (.tmp 3)))⟩
 (.take ⟨some 41, some (37, true), (.ofA (.mv (.tmp 1)))⟩
 (.take ⟨some 45, some (37, true), (.ofA (.load (some 4) (.tmp 3)))⟩
 (.take ⟨some 46, some (37, true), (.ofA (.mv (.tmp 1)))⟩
 (.act true [(⟨some 42, some (37, true), (.call (.cst (.fn 22 [])) [(.tmp 40), (.tmp 41)])⟩,
 (.take ⟨some 43, some (37, true), (.ofA (.len (.tmp 42)))⟩
 (.take ⟨some 44, some (37, true), (.ofA (.bin .add (.tmp 39) (.tmp 43)))⟩
 (.act true [(⟨some 47, some (37, true), (.call (.cst (.fn 23 [])) [(.tmp 45), (.tmp 46)])⟩,
 (.take ⟨some 48, some (37, true), (.ofA (.len (.tmp 47)))⟩
 (.take ⟨some 49, some (37, true), (.ofA (.bin .add (.tmp 44) (.tmp 48)))⟩
 (.take ⟨some 50, some (37, true), (.ofA (.bin .eql (.tmp 49) (.cst (.v (.int .i64 0)))))⟩
 (.take ⟨some 51, none, (.ofA (.pick (.tmp 37) (.tmp 50) (.cst (.v (.bool false)))))⟩
 (.take ⟨some 52, none, (.ofA (.mv (.tmp 51)))⟩
 (.take ⟨some 53, some (52, true), (.ofA (.load (some 4) (.tmp 3)))⟩
 (.take ⟨some 54, some (52, true), (.ofA (.mv (.tmp 1)))⟩
 (.act true [(⟨some 55, some (52, true), (.call (.cst (.fn 24 [])) [(.tmp 53), (.tmp 54)])⟩,
 (.take ⟨some 56, none, (.ofA (.pick (.tmp 52) (.tmp 55) (.cst (.v (.bool false)))))⟩
 (.take ⟨some 6, none, (.ofA (.mv (.tmp 56)))⟩
 .done)))])))))))))]))))])))))))))))
 .ret)
 .skip))
 (.seq (.tree (.seq ⟨some 58, none, (.ofA (.load (some 4) (.tmp 3)))⟩
 (.seq ⟨some 59, none, (.ofA (.mv (.tmp 1)))⟩
 (.seq ⟨some 60, none, (.ofA (.mv (.tmp 2)))⟩
 (.seq ⟨some 61, none, (.call (.cst (.fn 25 [])) [(.tmp 58), (.tmp 59), (.tmp 60)])⟩
 (.seq ⟨some 57, none, (.ofA (.mv (.tmp 61)))⟩
 (.seq ⟨some 62, none, (.ofA (.extract 0 (.tmp 57)))⟩
 (.seq ⟨some 63, none, (.ofA (.extract 1 (.tmp 57)))⟩
 (.seq ⟨some 9, none, (.ofA (.mv (.tmp 62)))⟩
 (.seq ⟨some 10, none, (.ofA (.mv (.tmp 63)))⟩
 .done))))))))))
 (.seq (.tree (.seq ⟨some 64, none, (.ofA (.load (some 4) (.tmp 3)))⟩
 (.seq ⟨some 65, none, (.ofA (.mv (.tmp 1)))⟩
 (.seq ⟨some 66, none, (.call (.cst (.fn 26 [])) [(.tmp 64), (.tmp 65)])⟩
 (.seq ⟨some 11, none, (.ofA (.mv (.tmp 66)))⟩
 .done)))))
 (.seq (.tree (.take ⟨some 67, none, (.ofA (.mv (.tmp 11)))⟩
 (.take ⟨some 68, none, (.ofA (.isl 1 (.tmp 67) (.cst (.v (.int .i64 0)))))⟩
 (.take ⟨some 69, none, (.ofA (.load none (.tmp 68)))⟩
 (.take ⟨some 70, none, (.ofA (.mv (.tmp 11)))⟩
 (.take ⟨some 71, none, (.ofA (.isl 1 (.tmp 70) (.cst (.v (.int .i64 0)))))⟩
 (.take ⟨some 72, none, (.ofA (.load none (.tmp 71)))⟩
 (.take ⟨some 12, none, (.ofA (.mv (.tmp 69)))⟩
 (.take ⟨some 13, none, (.ofA (.mv (.tmp 72)))⟩
 .done)))))))))
 (.seq (.seq (.tree (.seq ⟨some 73, none, (.ofA (.mv (.tmp 11)))⟩
 (.seq ⟨some 74, none, (.ofA (.len (.tmp 73)))⟩
 (.seq ⟨some 75, none, (.ofA (.mv (.cst (.v (.int .i64 0)))))⟩
 .done))))
 (.block 0 (.loop (.seq (.tree (.seq ⟨some 76, none, (.ofA (.bin .lss (.tmp 75) (.tmp 74)))⟩
 .done))
 (.seq (.cond (.tmp 76)
 .skip
 (.exit 0))
 (.seq (.block 1 (.seq (.tree (.seq ⟨some 77, none, (.ofA (.isl 1 (.tmp 73) (.tmp 75)))⟩
 (.seq ⟨some 78, none, (.ofA (.load none (.tmp 77)))⟩
 (.seq ⟨some 15, none, (.ofA (.mv (.tmp 78)))⟩
 .done))))
 (.tree (.seq ⟨some 79, none, (.ofA (.mv (.tmp 12)))⟩
 (.seq ⟨some 80, none, (.ofA (.mv (.tmp 15)))⟩
 (.seq ⟨some 81, none, (.ofA (.mx false (.tmp 79) [(.tmp 80)]))⟩
 (.seq ⟨some 82, none, (.ofA (.mv (.tmp 13)))⟩
 (.seq ⟨some 83, none, (.ofA (.mv (.tmp 15)))⟩
 (.seq ⟨some 84, none, (.ofA (.mx true (.tmp 82) [(.tmp 83)]))⟩
 (.seq ⟨some 12, none, (.ofA (.mv (.tmp 81)))⟩
 (.seq ⟨some 13, none, (.ofA (.mv (.tmp 84)))⟩
 .done)))))))))))
 (.tree (.seq ⟨some 85, none, (.ofA (.bin .add (.tmp 75) (.cst (.v (.int .i64 1)))))⟩
 (.seq ⟨some 75, none, (.ofA (.mv (.tmp 85)))⟩
 .done)))))))))
 (.seq (.tree (.take ⟨some 86, none, (.ofA (.mv (.tmp 8)))⟩
 (.take ⟨some 87, none, (.ofA (.mv (.tmp 10)))⟩
 (.take ⟨some 88, none, (.ofA (.eqb false (.tmp 86) (.tmp 87)))⟩
 (.take ⟨some 89, none, (.ofA (.mv (.tmp 88)))⟩
 (.take ⟨some 90, some (89, true), (.ofA (.mv (.tmp 7)))⟩
 (.take ⟨some 91, some (89, true), (.ofA (.mv (.tmp 9)))⟩
 (.act true [(⟨some 92, some (89, true), (.call (.cst (.fn 27 [])) [(.tmp 90), (.tmp 91)])⟩,
 (.take ⟨some 93, none, (.ofA (.pick (.tmp 89) (.tmp 92) (.cst (.v (.bool false)))))⟩
 (.take ⟨some 94, none, (.ofA (.mv (.tmp 93)))⟩
 (.take ⟨some 95, some (94, true), (.ofA (.load (some 4) (.tmp 3)))⟩
 (.take ⟨some 96, some (94, true), (.ofA (.mv (.tmp 1)))⟩
 (.take ⟨some 98, some (94, true), (.ofA (.load (some 4) (.tmp 3)))⟩
 (.take ⟨some 99, some (94, true), (.ofA (.mv (.tmp 1)))⟩
 (.act true [(⟨some 97, some (94, true), (.call (.cst (.fn 22 [])) [(.tmp 95), (.tmp 96)])⟩,
 (.act true [(⟨some 100, some (94, true), (.call (.cst (.fn 28 [])) [(.tmp 98), (.tmp 99)])⟩,
 (.act true [(⟨some 101, some (94, true), (.call (.cst (.fn 27 [])) [(.tmp 97), (.tmp 100)])⟩,
 (.take ⟨some 102, none, (.ofA (.pick (.tmp 94) (.tmp 101) (.cst (.v (.bool false)))))⟩
 (.take ⟨some 103, none, (.ofA (.mv (.tmp 102)))⟩
 (.take ⟨some 104, some (103, true), (.ofA (.load (some 4) (.tmp 3)))⟩
 (.take ⟨some 105, some (103, true), (.ofA (.mv (.tmp 1)))⟩
 (.take ⟨some 107, some (103, true), (.ofA (.mv (.tmp 11)))⟩
 (.act true [(⟨some 106, some (103, true), (.call (.cst (.fn 23 [])) [(.tmp 104), (.tmp 105)])⟩,
 (.act true [(⟨some 108, some (103, true), (.call (.cst (.fn 27 [])) [(.tmp 106), (.tmp 107)])⟩,
 (.take ⟨some 109, none, (.ofA (.pick (.tmp 103) (.tmp 108) (.cst (.v (.bool false)))))⟩
 (.take ⟨some 110, none, (.ofA (.mv (.tmp 109)))⟩
 (.take ⟨some 111, some (110, true), (.ofA (.load (some 4) (.tmp 3)))⟩
 (.take ⟨some 112, some (110, true), (.ofA (.mv (.tmp 1)))⟩
 (.take ⟨some 114, some (110, true), (.ofA (.mv (.tmp 13)))⟩
 (.take ⟨some 115, some (110, true), (.ofA (.mv (.tmp 12)))⟩
 (.take ⟨some 116, some (110, true), (.ofA (.bin .sub (.tmp 114) (.tmp 115)))⟩
 (.take ⟨some 117, some (110, true), (.ofA (.bin .leq (.tmp 116) (.cst (.v (.int .i64 1)))))⟩
 (.act true [(⟨some 113, some (110, true), (.call (.cst (.fn 24 [])) [(.tmp 111), (.tmp 112)])⟩,
 (.take ⟨some 118, some (110, true), (.ofA (.eqb false (.tmp 113) (.tmp 117)))⟩
 (.take ⟨some 119, none, (.ofA (.pick (.tmp 110) (.tmp 118) (.cst (.v (.bool false)))))⟩
 (.take ⟨some 6, none, (.ofA (.mv (.tmp 119)))⟩
 .done))))]))))))))))]))])))))))]))]))]))))))))]))))))))
 .ret))))))))))
def r6 : List XR := [.tmp 6]
theorem fn6 : FnX Try.prog 6 [64, 106] 120 x6 r6 := ⟨_, Try.func6, by kernel_rfl, by kernel_rfl, by kernel_rfl, by kernel_rfl⟩
def c6 [Inp] : Trans := fun args m k => ∃ (g : Ge) (p : Option Addr) (n c : Nat) (bs : List Int) (many : Int), args = [.agg g.sv, .v (.slice p n c), .v (.int .i64 many)] ∧ inpL p n = some (bs.map (Value.int .i64)) ∧ bs.length = n ∧ n ≤ 140737488355328 ∧ (-9223372036854775808 ≤ many ∧ many ≤ 9223372036854775807) ∧ k (.v (.bool true)) m
def G6 [Inp] : List CEntry := [⟨19, true, c19⟩, ⟨20, true, c20⟩, ⟨21, true, c21⟩, ⟨22, true, c22⟩, ⟨23, true, c23⟩, ⟨24, true, c24⟩, ⟨25, true, c25⟩, ⟨26, true, c26⟩, ⟨27, true, c27⟩, ⟨28, true, c28⟩]
theorem g6 [Inp] : GOk Try.prog G6 := GOk.cons c19_ok (GOk.cons c20_ok (GOk.cons c21_ok (GOk.cons c22_ok (GOk.cons c23_ok (GOk.cons c24_ok (GOk.cons c25_ok (GOk.cons c26_ok (GOk.cons c27_ok (GOk.cons c28_ok (g0 _))))))))))
theorem rdI_row [Inp] {m : Mem} {j n : Nat} {O : List Int} (h : m[j]? = some ⟨true, iL O⟩) (hn : n = O.length) : rdI m (.row j 0 n 1) = some O := by
  subst hn
  unfold rdI
  simp only [slOf, h, if_true, Nat.zero_add, Nat.mul_one, List.drop_zero]
  rw [if_pos (by rw [iL_len]; exact Nat.le_refl _), ← @iL_len O, List.take_length]
  exact decI_iL
theorem c6_ok [I : Inp] : Contract Try.prog 6 true c6 := by
  refine .readN fn6 (G := fun J => @G6 J) (fun J => @g6 J) _ fun args m k h => ?_
  obtain ⟨g, p, n, c, bs, many, rfl, hin0, rfl, hn, hmy, hk⟩ := h
  refine ⟨by simp [Ge.sv], fun J hJ us hus hI => ?_⟩
  obtain ⟨u, t1, rfl, hu1, u2, t2, rfl, hu2, u3, t3, rfl, hu3, rfl⟩ := hus
  have hin := hI _ _ _ hin0
  obtain rfl := hu1.2.1 g.vs rfl
  obtain rfl := hu2.1 _ rfl
  obtain rfl := hu3.1 _ rfl
  rw [List.map_cons, List.map_cons, List.map_cons, List.map_nil, show SV.of (.agg g.vs.toArray) = _ from ge_of g]
  have hrd : ∀ m', rdI m' (.v (.slice p bs.length c)) = some bs := fun m' => rdI_v hin
  simp (maxSteps := 2000000) -implicitDefEqProofs only [↓x6, ↓r6, ↓G6, ↓c19, s_alt, s_alt20, s_alt2t, s_alt2f, ↓s_loopi, ↓v_pq, ↓PRE, POST, CORE, Nat.reduceDiv, Nat.reduceMod, Int.reduceLT, Int.reduceLE, Int.reduceToNat, Int.reduceAdd, ↓reduceIte, Nat.reduceEqDiff, Nat.reduceAdd, Nat.reduceMul, Nat.reduceSub, Nat.reduceLeDiff, Nat.reduceLT, reduceCtorEq, if_true, eq_self, forall_const, implies_true]
  by_cases h40 : (40 : Int) < (bs.length : Int)
  · simp (maxSteps := 2000000) -implicitDefEqProofs only [h40, s_alt, s_alt20, s_alt2t, s_alt2f, ↓s_loopi, ↓v_pq, ↓PRE, POST, CORE, Nat.reduceDiv, Nat.reduceMod, Int.reduceLT, Int.reduceLE, Int.reduceToNat, Int.reduceAdd, ↓reduceIte, Nat.reduceEqDiff, Nat.reduceAdd, Nat.reduceMul, Nat.reduceSub, Nat.reduceLeDiff, Nat.reduceLT, reduceCtorEq, if_true, eq_self, forall_const, implies_true]
    exact hk
  by_cases h70 : (70 : Int) < many
  · simp (maxSteps := 2000000) -implicitDefEqProofs only [h40, h70, s_alt, s_alt20, s_alt2t, s_alt2f, ↓s_loopi, ↓v_pq, ↓PRE, POST, CORE, Nat.reduceDiv, Nat.reduceMod, Int.reduceLT, Int.reduceLE, Int.reduceToNat, Int.reduceAdd, ↓reduceIte, Nat.reduceEqDiff, Nat.reduceAdd, Nat.reduceMul, Nat.reduceSub, Nat.reduceLeDiff, Nat.reduceLT, reduceCtorEq, if_true, eq_self, forall_const, implies_true]
    exact hk
  have hb5 : bs.length ≤ 100000 := by omega
  have hgC : chkG g = true → ∃ (C : Nat) (Q O : List Int) (q0 : Int), g.ch.toNat = C ∧ 1 ≤ C ∧ C ≤ 64 ∧ loadF g bs C = Q ∧ Q.length = C ∧ (iL Q)[0]? = some (.v (.int .i64 q0)) ∧ ordF g bs = O ∧ O = ordN (lanR g bs C) 64 ∧ O.length ≤ 10000 ∧ evenF Q = decide (Q.foldl max q0 - Q.foldl min q0 ≤ 1) ∧ IntKind.i64.wrap (Q.foldl max q0 - Q.foldl min q0) = Q.foldl max q0 - Q.foldl min q0 := fun hg => by
    obtain ⟨⟨⟨m1, m1'⟩, ⟨m2, m2'⟩, ⟨m3, m3'⟩, m4, m4'⟩, m5, m6⟩ := chk_in.1 hg
    obtain ⟨C, hC⟩ : ∃ C : Nat, g.ch = (C : Int) := ⟨g.ch.toNat, by omega⟩
    have hCt : g.ch.toNat = C := by omega
    have hQl := loadF_len g bs C
    have hQ0 : (loadF g bs C)[0]? = some ((lan g bs 0).length : Int) := loadF_get (by omega)
    have hb1 : ∀ x ∈ loadF g bs C, 0 ≤ x ∧ x ≤ 100000 := fun x hx => by
      obtain ⟨c, _, rfl⟩ := List.mem_map.1 hx
      have := lan_le g bs c
      omega
    refine ⟨C, _, _, _, hCt, by omega, by omega, rfl, hQl, by unfold iL; rw [List.getElem?_map, hQ0]; rfl, rfl, ?_, ?_, ?_, ?_⟩
    · unfold ordF
      rw [hCt]
      exact ord_eq m1 m6 (by omega)
    · unfold ordF
      rw [hCt, ord_eq m1 m6 (by omega)]
      have := ordN_len (lanR g bs C) 64
      rw [lanR_len] at this
      omega
    · unfold evenF Lib.maxOf Lib.minOf
      have : (loadF g bs C).headD 0 = ((lan g bs 0).length : Int) := by
        generalize loadF g bs C = Q at hQ0
        cases Q with
        | nil => cases hQ0
        | cons a Q => injection hQ0
      rw [this]
    · have h1 := foldl_in (f := max) (P := fun x => 0 ≤ x ∧ x ≤ (100000 : Int)) (fun a b => by omega) (hb1 _ (List.mem_of_getElem? hQ0)) hb1
      have h2 := foldl_in (f := min) (P := fun x => 0 ≤ x ∧ x ≤ (100000 : Int)) (fun a b => by omega) (hb1 _ (List.mem_of_getElem? hQ0)) hb1
      exact Sz.w_64 (by omega) (by omega)
  simp (maxSteps := 2000000) -implicitDefEqProofs only [h40, h70, ↓G6, ↓c20, s_alt, s_alt20, s_alt2t, s_alt2f, ↓s_loopi, ↓v_pq, ↓PRE, POST, CORE, Nat.reduceDiv, Nat.reduceMod, Int.reduceLT, Int.reduceLE, Int.reduceToNat, Int.reduceAdd, ↓reduceIte, Nat.reduceEqDiff, Nat.reduceAdd, Nat.reduceMul, Nat.reduceSub, Nat.reduceLeDiff, Nat.reduceLT, reduceCtorEq, if_true, eq_self, forall_const, implies_true]
  refine ⟨g, _, bs, many, rfl, hrd _, hb5, ⟨hmy.1, by omega⟩, fun h0 => ?_, fun hg hm0 => ⟨fun hnone => ?_, fun s hsome => ?_⟩⟩
  · simp (maxSteps := 2000000) -implicitDefEqProofs only [↓G6, ↓c21, s_alt, s_alt20, s_alt2t, s_alt2f, ↓s_loopi, ↓v_pq, ↓PRE, POST, CORE, Nat.reduceDiv, Nat.reduceMod, Int.reduceLT, Int.reduceLE, Int.reduceToNat, Int.reduceAdd, ↓reduceIte, Nat.reduceEqDiff, Nat.reduceAdd, Nat.reduceMul, Nat.reduceSub, Nat.reduceLeDiff, Nat.reduceLT, reduceCtorEq, if_true, eq_self, forall_const, implies_true]
    refine ⟨g, rfl, fun e he => ?_⟩
    cases hg : chkG g with
    | false =>
      have hne : (e != 0) = true := by
        simp only [bne_iff_ne, ne_eq]
        intro q
        have := he.1 q
        rw [hg] at this
        cases this
      have hx : chkG g = true → False := fun h => by rw [hg] at h; cases h
      simp (maxSteps := 2000000) -implicitDefEqProofs only [hne, ↓G6, ↓c22, s_alt, s_alt20, s_alt2t, s_alt2f, ↓s_loopi, ↓v_pq, ↓PRE, POST, CORE, Nat.reduceDiv, Nat.reduceMod, Int.reduceLT, Int.reduceLE, Int.reduceToNat, Int.reduceAdd, ↓reduceIte, Nat.reduceEqDiff, Nat.reduceAdd, Nat.reduceMul, Nat.reduceSub, Nat.reduceLeDiff, Nat.reduceLT, reduceCtorEq, if_true, eq_self, forall_const, implies_true]
      refine ⟨g, _, bs, rfl, hrd _, hb5, ?_⟩
      simp only [hg, Bool.false_eq_true, false_imp_iff, and_true, true_imp_iff, eq_self]
      simp (maxSteps := 2000000) -implicitDefEqProofs only [↓G6, ↓c23, s_alt, s_alt20, s_alt2t, s_alt2f, ↓s_loopi, ↓v_pq, ↓PRE, POST, CORE, Nat.reduceDiv, Nat.reduceMod, Int.reduceLT, Int.reduceLE, Int.reduceToNat, Int.reduceAdd, ↓reduceIte, Nat.reduceEqDiff, Nat.reduceAdd, Nat.reduceMul, Nat.reduceSub, Nat.reduceLeDiff, Nat.reduceLT, reduceCtorEq, if_true, eq_self, forall_const, implies_true]
      refine ⟨g, _, bs, rfl, hrd _, hb5, ?_⟩
      simp only [hg, Bool.false_eq_true, false_imp_iff, and_true, true_imp_iff, eq_self]
      have h00 : ((0 : Int) == 0) = true := rfl
      have w0 : IntKind.i64.wrap (0 : Int) = 0 := Sz.w_64 (by omega) (by omega)
      simp (maxSteps := 2000000) -implicitDefEqProofs only [w0, h00, ↓G6, ↓c24, s_alt, s_alt20, s_alt2t, s_alt2f, ↓s_loopi, ↓v_pq, ↓PRE, POST, CORE, Nat.reduceDiv, Nat.reduceMod, Int.reduceLT, Int.reduceLE, Int.reduceToNat, Int.reduceAdd, ↓reduceIte, Nat.reduceEqDiff, Nat.reduceAdd, Nat.reduceMul, Nat.reduceSub, Nat.reduceLeDiff, Nat.reduceLT, reduceCtorEq, if_true, eq_self, forall_const, implies_true]
      refine ⟨g, _, bs, rfl, hrd _, hb5, ?_⟩
      simp only [hg, Bool.false_eq_true, false_imp_iff, and_true, true_imp_iff, eq_self]
      try simp (maxSteps := 2000000) -implicitDefEqProofs only [s_alt, s_alt20, s_alt2t, s_alt2f, ↓s_loopi, ↓v_pq, ↓PRE, POST, CORE, Nat.reduceDiv, Nat.reduceMod, Int.reduceLT, Int.reduceLE, Int.reduceToNat, Int.reduceAdd, ↓reduceIte, Nat.reduceEqDiff, Nat.reduceAdd, Nat.reduceMul, Nat.reduceSub, Nat.reduceLeDiff, Nat.reduceLT, reduceCtorEq, if_true, eq_self, forall_const, implies_true]
      exact hk
    | true =>
      have hm0 : many < 0 := h0.elim (fun q => by rw [hg] at q; cases q) id
      obtain rfl := he.2 hg
      obtain ⟨C, Q, O, q0, hCt, hC1, hC64, hQ, hQl, hq0, hOd, hOe, hOl, hev, w5⟩ := hgC hg
      have hCp : (0 : Int) < (C : Int) := by omega
      simp (maxSteps := 2000000) -implicitDefEqProofs only [bne_self_eq_false, Bool.false_eq_true, ↓G6, ↓c25, s_alt, s_alt20, s_alt2t, s_alt2f, ↓s_loopi, ↓v_pq, ↓PRE, POST, CORE, Nat.reduceDiv, Nat.reduceMod, Int.reduceLT, Int.reduceLE, Int.reduceToNat, Int.reduceAdd, ↓reduceIte, Nat.reduceEqDiff, Nat.reduceAdd, Nat.reduceMul, Nat.reduceSub, Nat.reduceLeDiff, Nat.reduceLT, reduceCtorEq, if_true, eq_self, forall_const, implies_true]
      refine ⟨g, _, bs, many, rfl, hrd _, hb5, hg, ⟨hmy.1, by omega⟩, fun _ => ?_, fun q => by omega⟩
      simp (maxSteps := 2000000) -implicitDefEqProofs only [↓G6, ↓c26, s_alt, s_alt20, s_alt2t, s_alt2f, ↓s_loopi, ↓v_pq, ↓PRE, POST, CORE, Nat.reduceDiv, Nat.reduceMod, Int.reduceLT, Int.reduceLE, Int.reduceToNat, Int.reduceAdd, ↓reduceIte, Nat.reduceEqDiff, Nat.reduceAdd, Nat.reduceMul, Nat.reduceSub, Nat.reduceLeDiff, Nat.reduceLT, reduceCtorEq, if_true, eq_self, forall_const, implies_true]
      refine ⟨g, _, bs, rfl, hrd _, hb5, hg, ?_⟩
      rw [hCt, hQ]
      simp (maxSteps := 2000000) -implicitDefEqProofs only [hCp, hq0, s_alt, s_alt20, s_alt2t, s_alt2f, ↓s_loopi, ↓v_pq, ↓PRE, POST, CORE, Nat.reduceDiv, Nat.reduceMod, Int.reduceLT, Int.reduceLE, Int.reduceToNat, Int.reduceAdd, ↓reduceIte, Nat.reduceEqDiff, Nat.reduceAdd, Nat.reduceMul, Nat.reduceSub, Nat.reduceLeDiff, Nat.reduceLT, reduceCtorEq, if_true, eq_self, forall_const, implies_true]
      refine TXi_of (TX_count (@g6 J) C (fun x => [(1, .v (.slice p bs.length c)), (3, .ptr 0 0), (7, .v (.slice none 0 0)), (8, .v (.bool false)), (9, .v (.slice none 0 0)), (10, .v (.bool false)), (11, .row 1 0 C 1), (12, .v (.int .i64 ((Q.take x).foldl min q0))), (13, .v (.int .i64 ((Q.take x).foldl max q0))), (73, .row 1 0 C 1), (74, .v (.int .i64 (C : Int))), (75, .v (.int .i64 (x : Int)))]) (fun x => [⟨true, [.v (.int .i64 g.ch), .v (.int .i64 g.di), .v (.int .i64 g.bl), .v (.int .i64 g.pa)]⟩, ⟨true, iL Q⟩]) (fun _ => True) trivial ?_ ?_ ?_)
      · exact (by refine ⟨[0, 1], by simp [NdL, NdA, oO_cells, oO_own, iL_nil], ?_, ?_, keep0 hJ⟩ <;> simp only [FitM, FitE, ObLe, LeL, Le, List.cons_append, List.nil_append] <;> (try (simp (maxSteps := 2000000) -implicitDefEqProofs only [iL_fold, iL_over, iL_all, iL_get, iL_len, iL_take, iL_drop, iL_one, iL_plain, iL_le, List.length_set, s_alt, s_alt20, s_alt2t, s_alt2f, ↓s_loopi, ↓v_pq, ↓PRE, POST, CORE, Nat.reduceDiv, Nat.reduceMod, Int.reduceLT, Int.reduceLE, Int.reduceToNat, Int.reduceAdd, ↓reduceIte, Nat.reduceEqDiff, Nat.reduceAdd, Nat.reduceMul, Nat.reduceSub, Nat.reduceLeDiff, Nat.reduceLT, reduceCtorEq, if_true, eq_self, forall_const, implies_true])) <;> (try simp only [Sz.Le, Sz.LeL, List.getElem?_cons_zero, List.getElem?_cons_succ]) <;> (try simp))
      · intro x hx _
        obtain ⟨y, hy⟩ : ∃ y, Q[x]? = some y := ⟨_, List.getElem?_eq_getElem (by omega)⟩
        have hyq : (iL Q)[x]? = some (.v (.int .i64 y)) := by unfold iL; rw [List.getElem?_map, hy]; rfl
        have k0 : (0 : Int) ≤ (x : Int) := by omega
        have k1 : (x : Int) < (C : Int) := by omega
        have k2 : x + 1 ≤ C := hx
        have w1 : IntKind.i64.wrap ((x : Int) + 1) = (x : Int) + 1 := Sz.w_64 (by omega) (by omega)
        rw [take_snoc hy, List.foldl_append, List.foldl_append]
        simp only [List.foldl_cons, List.foldl_nil]
        generalize (Q.take x).foldl min q0 = lo
        generalize (Q.take x).foldl max q0 = hi
        have e1 : (if y < lo then y else lo) = min lo y := by omega
        have e2 : (if hi < y then y else hi) = max hi y := by omega
        simp (maxSteps := 2000000) -implicitDefEqProofs only [k0, k1, k2, hyq, w1, hQl, iL_len, e1, e2, s_alt, s_alt20, s_alt2t, s_alt2f, ↓s_loopi, ↓v_pq, ↓PRE, POST, CORE, Nat.reduceDiv, Nat.reduceMod, Int.reduceLT, Int.reduceLE, Int.reduceToNat, Int.reduceAdd, ↓reduceIte, Nat.reduceEqDiff, Nat.reduceAdd, Nat.reduceMul, Nat.reduceSub, Nat.reduceLeDiff, Nat.reduceLT, reduceCtorEq, if_true, eq_self, forall_const, implies_true]
        exact (by refine ⟨[0, 1], by simp [NdL, NdA, oO_cells, oO_own, iL_nil], ?_, ?_, keep0 hJ⟩ <;> simp only [FitM, FitE, ObLe, LeL, Le, List.cons_append, List.nil_append] <;> (try (simp (maxSteps := 2000000) -implicitDefEqProofs only [iL_fold, iL_over, iL_all, iL_get, iL_len, iL_take, iL_drop, iL_one, iL_plain, iL_le, List.length_set, s_alt, s_alt20, s_alt2t, s_alt2f, ↓s_loopi, ↓v_pq, ↓PRE, POST, CORE, Nat.reduceDiv, Nat.reduceMod, Int.reduceLT, Int.reduceLE, Int.reduceToNat, Int.reduceAdd, ↓reduceIte, Nat.reduceEqDiff, Nat.reduceAdd, Nat.reduceMul, Nat.reduceSub, Nat.reduceLeDiff, Nat.reduceLT, reduceCtorEq, if_true, eq_self, forall_const, implies_true])) <;> (try simp only [Sz.Le, Sz.LeL, List.getElem?_cons_zero, List.getElem?_cons_succ]) <;> (try simp))
      · intro _
        have k1 : ¬ (C : Int) < (C : Int) := by omega
        rw [← hQl, List.take_length, hQl]
        simp (maxSteps := 2000000) -implicitDefEqProofs only [k1, beq_self_eq_true, ↓G6, ↓c27, s_alt, s_alt20, s_alt2t, s_alt2f, ↓s_loopi, ↓v_pq, ↓PRE, POST, CORE, Nat.reduceDiv, Nat.reduceMod, Int.reduceLT, Int.reduceLE, Int.reduceToNat, Int.reduceAdd, ↓reduceIte, Nat.reduceEqDiff, Nat.reduceAdd, Nat.reduceMul, Nat.reduceSub, Nat.reduceLeDiff, Nat.reduceLT, reduceCtorEq, if_true, eq_self, forall_const, implies_true]
        refine ⟨_, _, [], [], rfl, rdI_nil, rdI_nil, by simp, ?_⟩
        rw [beq_self_eq_true]
        simp (maxSteps := 2000000) -implicitDefEqProofs only [↓G6, ↓c22, s_alt, s_alt20, s_alt2t, s_alt2f, ↓s_loopi, ↓v_pq, ↓PRE, POST, CORE, Nat.reduceDiv, Nat.reduceMod, Int.reduceLT, Int.reduceLE, Int.reduceToNat, Int.reduceAdd, ↓reduceIte, Nat.reduceEqDiff, Nat.reduceAdd, Nat.reduceMul, Nat.reduceSub, Nat.reduceLeDiff, Nat.reduceLT, reduceCtorEq, if_true, eq_self, forall_const, implies_true]
        refine ⟨g, _, bs, rfl, hrd _, hb5, ?_⟩
        simp only [hg, Bool.true_eq_false, false_imp_iff, true_and, true_imp_iff, eq_self]
        rw [hOd]
        by_cases hO : O = []
        · simp only [intS, intM, hO, if_true]
          simp (maxSteps := 2000000) -implicitDefEqProofs only [beq_self_eq_true, ↓G6, ↓c28, s_alt, s_alt20, s_alt2t, s_alt2f, ↓s_loopi, ↓v_pq, ↓PRE, POST, CORE, Nat.reduceDiv, Nat.reduceMod, Int.reduceLT, Int.reduceLE, Int.reduceToNat, Int.reduceAdd, ↓reduceIte, Nat.reduceEqDiff, Nat.reduceAdd, Nat.reduceMul, Nat.reduceSub, Nat.reduceLeDiff, Nat.reduceLT, reduceCtorEq, if_true, eq_self, forall_const, implies_true]
          refine ⟨g, _, bs, rfl, hrd _, hb5, hg, ?_⟩
          rw [hCt, ← hOe]
          simp only [intS, intM, hO, if_true]
          try simp (maxSteps := 2000000) -implicitDefEqProofs only [↓G6, ↓c27, s_alt, s_alt20, s_alt2t, s_alt2f, ↓s_loopi, ↓v_pq, ↓PRE, POST, CORE, Nat.reduceDiv, Nat.reduceMod, Int.reduceLT, Int.reduceLE, Int.reduceToNat, Int.reduceAdd, ↓reduceIte, Nat.reduceEqDiff, Nat.reduceAdd, Nat.reduceMul, Nat.reduceSub, Nat.reduceLeDiff, Nat.reduceLT, reduceCtorEq, if_true, eq_self, forall_const, implies_true]
          refine ⟨_, _, [], [], rfl, rdI_nil, rdI_nil, by simp, ?_⟩
          rw [beq_self_eq_true]
          try simp (maxSteps := 2000000) -implicitDefEqProofs only [↓G6, ↓c23, s_alt, s_alt20, s_alt2t, s_alt2f, ↓s_loopi, ↓v_pq, ↓PRE, POST, CORE, Nat.reduceDiv, Nat.reduceMod, Int.reduceLT, Int.reduceLE, Int.reduceToNat, Int.reduceAdd, ↓reduceIte, Nat.reduceEqDiff, Nat.reduceAdd, Nat.reduceMul, Nat.reduceSub, Nat.reduceLeDiff, Nat.reduceLT, reduceCtorEq, if_true, eq_self, forall_const, implies_true]
          refine ⟨g, _, bs, rfl, hrd _, hb5, ?_⟩
          simp only [hg, Bool.true_eq_false, false_imp_iff, true_and, true_imp_iff, eq_self]
          rw [hCt, hQ]
          try simp (maxSteps := 2000000) -implicitDefEqProofs only [↓G6, ↓c27, s_alt, s_alt20, s_alt2t, s_alt2f, ↓s_loopi, ↓v_pq, ↓PRE, POST, CORE, Nat.reduceDiv, Nat.reduceMod, Int.reduceLT, Int.reduceLE, Int.reduceToNat, Int.reduceAdd, ↓reduceIte, Nat.reduceEqDiff, Nat.reduceAdd, Nat.reduceMul, Nat.reduceSub, Nat.reduceLeDiff, Nat.reduceLT, reduceCtorEq, if_true, eq_self, forall_const, implies_true]
          refine ⟨_, _, Q, Q, rfl, rdI_row rfl hQl.symm, rdI_row rfl hQl.symm, by omega, ?_⟩
          rw [beq_self_eq_true]
          simp (maxSteps := 2000000) -implicitDefEqProofs only [w5, ↓G6, ↓c24, s_alt, s_alt20, s_alt2t, s_alt2f, ↓s_loopi, ↓v_pq, ↓PRE, POST, CORE, Nat.reduceDiv, Nat.reduceMod, Int.reduceLT, Int.reduceLE, Int.reduceToNat, Int.reduceAdd, ↓reduceIte, Nat.reduceEqDiff, Nat.reduceAdd, Nat.reduceMul, Nat.reduceSub, Nat.reduceLeDiff, Nat.reduceLT, reduceCtorEq, if_true, eq_self, forall_const, implies_true]
          refine ⟨g, _, bs, rfl, hrd _, hb5, ?_⟩
          simp only [hg, Bool.true_eq_false, false_imp_iff, true_and, true_imp_iff, eq_self]
          rw [hCt, hQ, hev]
          try simp (maxSteps := 2000000) -implicitDefEqProofs only [beq_self_eq_true, s_alt, s_alt20, s_alt2t, s_alt2f, ↓s_loopi, ↓v_pq, ↓PRE, POST, CORE, Nat.reduceDiv, Nat.reduceMod, Int.reduceLT, Int.reduceLE, Int.reduceToNat, Int.reduceAdd, ↓reduceIte, Nat.reduceEqDiff, Nat.reduceAdd, Nat.reduceMul, Nat.reduceSub, Nat.reduceLeDiff, Nat.reduceLT, reduceCtorEq, if_true, eq_self, forall_const, implies_true]
          exact hk
        · simp only [intS, intM, hO, if_false]
          simp (maxSteps := 2000000) -implicitDefEqProofs only [beq_self_eq_true, ↓G6, ↓c28, s_alt, s_alt20, s_alt2t, s_alt2f, ↓s_loopi, ↓v_pq, ↓PRE, POST, CORE, Nat.reduceDiv, Nat.reduceMod, Int.reduceLT, Int.reduceLE, Int.reduceToNat, Int.reduceAdd, ↓reduceIte, Nat.reduceEqDiff, Nat.reduceAdd, Nat.reduceMul, Nat.reduceSub, Nat.reduceLeDiff, Nat.reduceLT, reduceCtorEq, if_true, eq_self, forall_const, implies_true]
          refine ⟨g, _, bs, rfl, hrd _, hb5, hg, ?_⟩
          rw [hCt, ← hOe]
          simp only [intS, intM, hO, if_false]
          try simp (maxSteps := 2000000) -implicitDefEqProofs only [↓G6, ↓c27, s_alt, s_alt20, s_alt2t, s_alt2f, ↓s_loopi, ↓v_pq, ↓PRE, POST, CORE, Nat.reduceDiv, Nat.reduceMod, Int.reduceLT, Int.reduceLE, Int.reduceToNat, Int.reduceAdd, ↓reduceIte, Nat.reduceEqDiff, Nat.reduceAdd, Nat.reduceMul, Nat.reduceSub, Nat.reduceLeDiff, Nat.reduceLT, reduceCtorEq, if_true, eq_self, forall_const, implies_true]
          refine ⟨_, _, O, O, rfl, rdI_row rfl rfl, rdI_row rfl rfl, by omega, ?_⟩
          rw [beq_self_eq_true]
          try simp (maxSteps := 2000000) -implicitDefEqProofs only [↓G6, ↓c23, s_alt, s_alt20, s_alt2t, s_alt2f, ↓s_loopi, ↓v_pq, ↓PRE, POST, CORE, Nat.reduceDiv, Nat.reduceMod, Int.reduceLT, Int.reduceLE, Int.reduceToNat, Int.reduceAdd, ↓reduceIte, Nat.reduceEqDiff, Nat.reduceAdd, Nat.reduceMul, Nat.reduceSub, Nat.reduceLeDiff, Nat.reduceLT, reduceCtorEq, if_true, eq_self, forall_const, implies_true]
          refine ⟨g, _, bs, rfl, hrd _, hb5, ?_⟩
          simp only [hg, Bool.true_eq_false, false_imp_iff, true_and, true_imp_iff, eq_self]
          rw [hCt, hQ]
          try simp (maxSteps := 2000000) -implicitDefEqProofs only [↓G6, ↓c27, s_alt, s_alt20, s_alt2t, s_alt2f, ↓s_loopi, ↓v_pq, ↓PRE, POST, CORE, Nat.reduceDiv, Nat.reduceMod, Int.reduceLT, Int.reduceLE, Int.reduceToNat, Int.reduceAdd, ↓reduceIte, Nat.reduceEqDiff, Nat.reduceAdd, Nat.reduceMul, Nat.reduceSub, Nat.reduceLeDiff, Nat.reduceLT, reduceCtorEq, if_true, eq_self, forall_const, implies_true]
          refine ⟨_, _, Q, Q, rfl, rdI_row rfl hQl.symm, rdI_row rfl hQl.symm, by omega, ?_⟩
          rw [beq_self_eq_true]
          simp (maxSteps := 2000000) -implicitDefEqProofs only [w5, ↓G6, ↓c24, s_alt, s_alt20, s_alt2t, s_alt2f, ↓s_loopi, ↓v_pq, ↓PRE, POST, CORE, Nat.reduceDiv, Nat.reduceMod, Int.reduceLT, Int.reduceLE, Int.reduceToNat, Int.reduceAdd, ↓reduceIte, Nat.reduceEqDiff, Nat.reduceAdd, Nat.reduceMul, Nat.reduceSub, Nat.reduceLeDiff, Nat.reduceLT, reduceCtorEq, if_true, eq_self, forall_const, implies_true]
          refine ⟨g, _, bs, rfl, hrd _, hb5, ?_⟩
          simp only [hg, Bool.true_eq_false, false_imp_iff, true_and, true_imp_iff, eq_self]
          rw [hCt, hQ, hev]
          try simp (maxSteps := 2000000) -implicitDefEqProofs only [beq_self_eq_true, s_alt, s_alt20, s_alt2t, s_alt2f, ↓s_loopi, ↓v_pq, ↓PRE, POST, CORE, Nat.reduceDiv, Nat.reduceMod, Int.reduceLT, Int.reduceLE, Int.reduceToNat, Int.reduceAdd, ↓reduceIte, Nat.reduceEqDiff, Nat.reduceAdd, Nat.reduceMul, Nat.reduceSub, Nat.reduceLeDiff, Nat.reduceLT, reduceCtorEq, if_true, eq_self, forall_const, implies_true]
          exact hk
  · have h1C : 1 ≤ g.ch := (chk_in.1 hg).1.1.1
    obtain ⟨C, Q, O, q0, hCt, hC1, hC64, hQ, hQl, hq0, hOd, hOe, hOl, hev, w5⟩ := hgC hg
    have hCp : (0 : Int) < (C : Int) := by omega
    simp (maxSteps := 2000000) -implicitDefEqProofs only [↓G6, ↓c21, s_alt, s_alt20, s_alt2t, s_alt2f, ↓s_loopi, ↓v_pq, ↓PRE, POST, CORE, Nat.reduceDiv, Nat.reduceMod, Int.reduceLT, Int.reduceLE, Int.reduceToNat, Int.reduceAdd, ↓reduceIte, Nat.reduceEqDiff, Nat.reduceAdd, Nat.reduceMul, Nat.reduceSub, Nat.reduceLeDiff, Nat.reduceLT, reduceCtorEq, if_true, eq_self, forall_const, implies_true]
    refine ⟨g, rfl, fun e he => ?_⟩
    obtain rfl := he.2 hg
    simp (maxSteps := 2000000) -implicitDefEqProofs only [bne_self_eq_false, Bool.false_eq_true, ↓G6, ↓c25, s_alt, s_alt20, s_alt2t, s_alt2f, ↓s_loopi, ↓v_pq, ↓PRE, POST, CORE, Nat.reduceDiv, Nat.reduceMod, Int.reduceLT, Int.reduceLE, Int.reduceToNat, Int.reduceAdd, ↓reduceIte, Nat.reduceEqDiff, Nat.reduceAdd, Nat.reduceMul, Nat.reduceSub, Nat.reduceLeDiff, Nat.reduceLT, reduceCtorEq, if_true, eq_self, forall_const, implies_true]
    refine ⟨g, _, bs, many, rfl, hrd _, hb5, hg, ⟨hmy.1, by omega⟩, fun q => by omega, fun _ => ⟨fun _ => ?_, fun s hs => ?_⟩⟩
    case refine_2 => rw [hCt] at hs hnone; rw [lanR_eq h1C (by omega), hnone] at hs; cases hs
    simp (maxSteps := 2000000) -implicitDefEqProofs only [↓G6, ↓c26, s_alt, s_alt20, s_alt2t, s_alt2f, ↓s_loopi, ↓v_pq, ↓PRE, POST, CORE, Nat.reduceDiv, Nat.reduceMod, Int.reduceLT, Int.reduceLE, Int.reduceToNat, Int.reduceAdd, ↓reduceIte, Nat.reduceEqDiff, Nat.reduceAdd, Nat.reduceMul, Nat.reduceSub, Nat.reduceLeDiff, Nat.reduceLT, reduceCtorEq, if_true, eq_self, forall_const, implies_true]
    refine ⟨g, _, bs, rfl, hrd _, hb5, hg, ?_⟩
    rw [hCt, hQ]
    simp (maxSteps := 2000000) -implicitDefEqProofs only [hCp, hq0, s_alt, s_alt20, s_alt2t, s_alt2f, ↓s_loopi, ↓v_pq, ↓PRE, POST, CORE, Nat.reduceDiv, Nat.reduceMod, Int.reduceLT, Int.reduceLE, Int.reduceToNat, Int.reduceAdd, ↓reduceIte, Nat.reduceEqDiff, Nat.reduceAdd, Nat.reduceMul, Nat.reduceSub, Nat.reduceLeDiff, Nat.reduceLT, reduceCtorEq, if_true, eq_self, forall_const, implies_true]
    refine TXi_of (TX_count (@g6 J) C (fun x => [(1, .v (.slice p bs.length c)), (3, .ptr 0 0), (7, .v (.slice none 0 0)), (8, .v (.bool false)), (9, .v (.slice none 0 0)), (10, .v (.bool false)), (11, .row 1 0 C 1), (12, .v (.int .i64 ((Q.take x).foldl min q0))), (13, .v (.int .i64 ((Q.take x).foldl max q0))), (73, .row 1 0 C 1), (74, .v (.int .i64 (C : Int))), (75, .v (.int .i64 (x : Int)))]) (fun x => [⟨true, [.v (.int .i64 g.ch), .v (.int .i64 g.di), .v (.int .i64 g.bl), .v (.int .i64 g.pa)]⟩, ⟨true, iL Q⟩]) (fun _ => True) trivial ?_ ?_ ?_)
    · exact (by refine ⟨[0, 1], by simp [NdL, NdA, oO_cells, oO_own, iL_nil], ?_, ?_, keep0 hJ⟩ <;> simp only [FitM, FitE, ObLe, LeL, Le, List.cons_append, List.nil_append] <;> (try (simp (maxSteps := 2000000) -implicitDefEqProofs only [iL_fold, iL_over, iL_all, iL_get, iL_len, iL_take, iL_drop, iL_one, iL_plain, iL_le, List.length_set, s_alt, s_alt20, s_alt2t, s_alt2f, ↓s_loopi, ↓v_pq, ↓PRE, POST, CORE, Nat.reduceDiv, Nat.reduceMod, Int.reduceLT, Int.reduceLE, Int.reduceToNat, Int.reduceAdd, ↓reduceIte, Nat.reduceEqDiff, Nat.reduceAdd, Nat.reduceMul, Nat.reduceSub, Nat.reduceLeDiff, Nat.reduceLT, reduceCtorEq, if_true, eq_self, forall_const, implies_true])) <;> (try simp only [Sz.Le, Sz.LeL, List.getElem?_cons_zero, List.getElem?_cons_succ]) <;> (try simp))
    · intro x hx _
      obtain ⟨y, hy⟩ : ∃ y, Q[x]? = some y := ⟨_, List.getElem?_eq_getElem (by omega)⟩
      have hyq : (iL Q)[x]? = some (.v (.int .i64 y)) := by unfold iL; rw [List.getElem?_map, hy]; rfl
      have k0 : (0 : Int) ≤ (x : Int) := by omega
      have k1 : (x : Int) < (C : Int) := by omega
      have k2 : x + 1 ≤ C := hx
      have w1 : IntKind.i64.wrap ((x : Int) + 1) = (x : Int) + 1 := Sz.w_64 (by omega) (by omega)
      rw [take_snoc hy, List.foldl_append, List.foldl_append]
      simp only [List.foldl_cons, List.foldl_nil]
      generalize (Q.take x).foldl min q0 = lo
      generalize (Q.take x).foldl max q0 = hi
      have e1 : (if y < lo then y else lo) = min lo y := by omega
      have e2 : (if hi < y then y else hi) = max hi y := by omega
      simp (maxSteps := 2000000) -implicitDefEqProofs only [k0, k1, k2, hyq, w1, hQl, iL_len, e1, e2, s_alt, s_alt20, s_alt2t, s_alt2f, ↓s_loopi, ↓v_pq, ↓PRE, POST, CORE, Nat.reduceDiv, Nat.reduceMod, Int.reduceLT, Int.reduceLE, Int.reduceToNat, Int.reduceAdd, ↓reduceIte, Nat.reduceEqDiff, Nat.reduceAdd, Nat.reduceMul, Nat.reduceSub, Nat.reduceLeDiff, Nat.reduceLT, reduceCtorEq, if_true, eq_self, forall_const, implies_true]
      exact (by refine ⟨[0, 1], by simp [NdL, NdA, oO_cells, oO_own, iL_nil], ?_, ?_, keep0 hJ⟩ <;> simp only [FitM, FitE, ObLe, LeL, Le, List.cons_append, List.nil_append] <;> (try (simp (maxSteps := 2000000) -implicitDefEqProofs only [iL_fold, iL_over, iL_all, iL_get, iL_len, iL_take, iL_drop, iL_one, iL_plain, iL_le, List.length_set, s_alt, s_alt20, s_alt2t, s_alt2f, ↓s_loopi, ↓v_pq, ↓PRE, POST, CORE, Nat.reduceDiv, Nat.reduceMod, Int.reduceLT, Int.reduceLE, Int.reduceToNat, Int.reduceAdd, ↓reduceIte, Nat.reduceEqDiff, Nat.reduceAdd, Nat.reduceMul, Nat.reduceSub, Nat.reduceLeDiff, Nat.reduceLT, reduceCtorEq, if_true, eq_self, forall_const, implies_true])) <;> (try simp only [Sz.Le, Sz.LeL, List.getElem?_cons_zero, List.getElem?_cons_succ]) <;> (try simp))
    · intro _
      have k1 : ¬ (C : Int) < (C : Int) := by omega
      rw [← hQl, List.take_length, hQl]
      simp (maxSteps := 2000000) -implicitDefEqProofs only [k1, beq_self_eq_true, ↓G6, ↓c27, s_alt, s_alt20, s_alt2t, s_alt2f, ↓s_loopi, ↓v_pq, ↓PRE, POST, CORE, Nat.reduceDiv, Nat.reduceMod, Int.reduceLT, Int.reduceLE, Int.reduceToNat, Int.reduceAdd, ↓reduceIte, Nat.reduceEqDiff, Nat.reduceAdd, Nat.reduceMul, Nat.reduceSub, Nat.reduceLeDiff, Nat.reduceLT, reduceCtorEq, if_true, eq_self, forall_const, implies_true]
      refine ⟨_, _, [], [], rfl, rdI_nil, rdI_nil, by simp, ?_⟩
      rw [beq_self_eq_true]
      simp (maxSteps := 2000000) -implicitDefEqProofs only [↓G6, ↓c22, s_alt, s_alt20, s_alt2t, s_alt2f, ↓s_loopi, ↓v_pq, ↓PRE, POST, CORE, Nat.reduceDiv, Nat.reduceMod, Int.reduceLT, Int.reduceLE, Int.reduceToNat, Int.reduceAdd, ↓reduceIte, Nat.reduceEqDiff, Nat.reduceAdd, Nat.reduceMul, Nat.reduceSub, Nat.reduceLeDiff, Nat.reduceLT, reduceCtorEq, if_true, eq_self, forall_const, implies_true]
      refine ⟨g, _, bs, rfl, hrd _, hb5, ?_⟩
      simp only [hg, Bool.true_eq_false, false_imp_iff, true_and, true_imp_iff, eq_self]
      rw [hOd]
      by_cases hO : O = []
      · simp only [intS, intM, hO, if_true]
        simp (maxSteps := 2000000) -implicitDefEqProofs only [beq_self_eq_true, ↓G6, ↓c28, s_alt, s_alt20, s_alt2t, s_alt2f, ↓s_loopi, ↓v_pq, ↓PRE, POST, CORE, Nat.reduceDiv, Nat.reduceMod, Int.reduceLT, Int.reduceLE, Int.reduceToNat, Int.reduceAdd, ↓reduceIte, Nat.reduceEqDiff, Nat.reduceAdd, Nat.reduceMul, Nat.reduceSub, Nat.reduceLeDiff, Nat.reduceLT, reduceCtorEq, if_true, eq_self, forall_const, implies_true]
        refine ⟨g, _, bs, rfl, hrd _, hb5, hg, ?_⟩
        rw [hCt, ← hOe]
        simp only [intS, intM, hO, if_true]
        try simp (maxSteps := 2000000) -implicitDefEqProofs only [↓G6, ↓c27, s_alt, s_alt20, s_alt2t, s_alt2f, ↓s_loopi, ↓v_pq, ↓PRE, POST, CORE, Nat.reduceDiv, Nat.reduceMod, Int.reduceLT, Int.reduceLE, Int.reduceToNat, Int.reduceAdd, ↓reduceIte, Nat.reduceEqDiff, Nat.reduceAdd, Nat.reduceMul, Nat.reduceSub, Nat.reduceLeDiff, Nat.reduceLT, reduceCtorEq, if_true, eq_self, forall_const, implies_true]
        refine ⟨_, _, [], [], rfl, rdI_nil, rdI_nil, by simp, ?_⟩
        rw [beq_self_eq_true]
        try simp (maxSteps := 2000000) -implicitDefEqProofs only [↓G6, ↓c23, s_alt, s_alt20, s_alt2t, s_alt2f, ↓s_loopi, ↓v_pq, ↓PRE, POST, CORE, Nat.reduceDiv, Nat.reduceMod, Int.reduceLT, Int.reduceLE, Int.reduceToNat, Int.reduceAdd, ↓reduceIte, Nat.reduceEqDiff, Nat.reduceAdd, Nat.reduceMul, Nat.reduceSub, Nat.reduceLeDiff, Nat.reduceLT, reduceCtorEq, if_true, eq_self, forall_const, implies_true]
        refine ⟨g, _, bs, rfl, hrd _, hb5, ?_⟩
        simp only [hg, Bool.true_eq_false, false_imp_iff, true_and, true_imp_iff, eq_self]
        rw [hCt, hQ]
        try simp (maxSteps := 2000000) -implicitDefEqProofs only [↓G6, ↓c27, s_alt, s_alt20, s_alt2t, s_alt2f, ↓s_loopi, ↓v_pq, ↓PRE, POST, CORE, Nat.reduceDiv, Nat.reduceMod, Int.reduceLT, Int.reduceLE, Int.reduceToNat, Int.reduceAdd, ↓reduceIte, Nat.reduceEqDiff, Nat.reduceAdd, Nat.reduceMul, Nat.reduceSub, Nat.reduceLeDiff, Nat.reduceLT, reduceCtorEq, if_true, eq_self, forall_const, implies_true]
        refine ⟨_, _, Q, Q, rfl, rdI_row rfl hQl.symm, rdI_row rfl hQl.symm, by omega, ?_⟩
        rw [beq_self_eq_true]
        simp (maxSteps := 2000000) -implicitDefEqProofs only [w5, ↓G6, ↓c24, s_alt, s_alt20, s_alt2t, s_alt2f, ↓s_loopi, ↓v_pq, ↓PRE, POST, CORE, Nat.reduceDiv, Nat.reduceMod, Int.reduceLT, Int.reduceLE, Int.reduceToNat, Int.reduceAdd, ↓reduceIte, Nat.reduceEqDiff, Nat.reduceAdd, Nat.reduceMul, Nat.reduceSub, Nat.reduceLeDiff, Nat.reduceLT, reduceCtorEq, if_true, eq_self, forall_const, implies_true]
        refine ⟨g, _, bs, rfl, hrd _, hb5, ?_⟩
        simp only [hg, Bool.true_eq_false, false_imp_iff, true_and, true_imp_iff, eq_self]
        rw [hCt, hQ, hev]
        try simp (maxSteps := 2000000) -implicitDefEqProofs only [beq_self_eq_true, s_alt, s_alt20, s_alt2t, s_alt2f, ↓s_loopi, ↓v_pq, ↓PRE, POST, CORE, Nat.reduceDiv, Nat.reduceMod, Int.reduceLT, Int.reduceLE, Int.reduceToNat, Int.reduceAdd, ↓reduceIte, Nat.reduceEqDiff, Nat.reduceAdd, Nat.reduceMul, Nat.reduceSub, Nat.reduceLeDiff, Nat.reduceLT, reduceCtorEq, if_true, eq_self, forall_const, implies_true]
        exact hk
      · simp only [intS, intM, hO, if_false]
        simp (maxSteps := 2000000) -implicitDefEqProofs only [beq_self_eq_true, ↓G6, ↓c28, s_alt, s_alt20, s_alt2t, s_alt2f, ↓s_loopi, ↓v_pq, ↓PRE, POST, CORE, Nat.reduceDiv, Nat.reduceMod, Int.reduceLT, Int.reduceLE, Int.reduceToNat, Int.reduceAdd, ↓reduceIte, Nat.reduceEqDiff, Nat.reduceAdd, Nat.reduceMul, Nat.reduceSub, Nat.reduceLeDiff, Nat.reduceLT, reduceCtorEq, if_true, eq_self, forall_const, implies_true]
        refine ⟨g, _, bs, rfl, hrd _, hb5, hg, ?_⟩
        rw [hCt, ← hOe]
        simp only [intS, intM, hO, if_false]
        try simp (maxSteps := 2000000) -implicitDefEqProofs only [↓G6, ↓c27, s_alt, s_alt20, s_alt2t, s_alt2f, ↓s_loopi, ↓v_pq, ↓PRE, POST, CORE, Nat.reduceDiv, Nat.reduceMod, Int.reduceLT, Int.reduceLE, Int.reduceToNat, Int.reduceAdd, ↓reduceIte, Nat.reduceEqDiff, Nat.reduceAdd, Nat.reduceMul, Nat.reduceSub, Nat.reduceLeDiff, Nat.reduceLT, reduceCtorEq, if_true, eq_self, forall_const, implies_true]
        refine ⟨_, _, O, O, rfl, rdI_row rfl rfl, rdI_row rfl rfl, by omega, ?_⟩
        rw [beq_self_eq_true]
        try simp (maxSteps := 2000000) -implicitDefEqProofs only [↓G6, ↓c23, s_alt, s_alt20, s_alt2t, s_alt2f, ↓s_loopi, ↓v_pq, ↓PRE, POST, CORE, Nat.reduceDiv, Nat.reduceMod, Int.reduceLT, Int.reduceLE, Int.reduceToNat, Int.reduceAdd, ↓reduceIte, Nat.reduceEqDiff, Nat.reduceAdd, Nat.reduceMul, Nat.reduceSub, Nat.reduceLeDiff, Nat.reduceLT, reduceCtorEq, if_true, eq_self, forall_const, implies_true]
        refine ⟨g, _, bs, rfl, hrd _, hb5, ?_⟩
        simp only [hg, Bool.true_eq_false, false_imp_iff, true_and, true_imp_iff, eq_self]
        rw [hCt, hQ]
        try simp (maxSteps := 2000000) -implicitDefEqProofs only [↓G6, ↓c27, s_alt, s_alt20, s_alt2t, s_alt2f, ↓s_loopi, ↓v_pq, ↓PRE, POST, CORE, Nat.reduceDiv, Nat.reduceMod, Int.reduceLT, Int.reduceLE, Int.reduceToNat, Int.reduceAdd, ↓reduceIte, Nat.reduceEqDiff, Nat.reduceAdd, Nat.reduceMul, Nat.reduceSub, Nat.reduceLeDiff, Nat.reduceLT, reduceCtorEq, if_true, eq_self, forall_const, implies_true]
        refine ⟨_, _, Q, Q, rfl, rdI_row rfl hQl.symm, rdI_row rfl hQl.symm, by omega, ?_⟩
        rw [beq_self_eq_true]
        simp (maxSteps := 2000000) -implicitDefEqProofs only [w5, ↓G6, ↓c24, s_alt, s_alt20, s_alt2t, s_alt2f, ↓s_loopi, ↓v_pq, ↓PRE, POST, CORE, Nat.reduceDiv, Nat.reduceMod, Int.reduceLT, Int.reduceLE, Int.reduceToNat, Int.reduceAdd, ↓reduceIte, Nat.reduceEqDiff, Nat.reduceAdd, Nat.reduceMul, Nat.reduceSub, Nat.reduceLeDiff, Nat.reduceLT, reduceCtorEq, if_true, eq_self, forall_const, implies_true]
        refine ⟨g, _, bs, rfl, hrd _, hb5, ?_⟩
        simp only [hg, Bool.true_eq_false, false_imp_iff, true_and, true_imp_iff, eq_self]
        rw [hCt, hQ, hev]
        try simp (maxSteps := 2000000) -implicitDefEqProofs only [beq_self_eq_true, s_alt, s_alt20, s_alt2t, s_alt2f, ↓s_loopi, ↓v_pq, ↓PRE, POST, CORE, Nat.reduceDiv, Nat.reduceMod, Int.reduceLT, Int.reduceLE, Int.reduceToNat, Int.reduceAdd, ↓reduceIte, Nat.reduceEqDiff, Nat.reduceAdd, Nat.reduceMul, Nat.reduceSub, Nat.reduceLeDiff, Nat.reduceLT, reduceCtorEq, if_true, eq_self, forall_const, implies_true]
        exact hk
  · obtain ⟨C, Q, O, q0, hCt, hC1, hC64, hQ, hQl, hq0, hOd, hOe, hOl, hev, w5⟩ := hgC hg
    have hCp : (0 : Int) < (C : Int) := by omega
    have h1C : 1 ≤ g.ch := (chk_in.1 hg).1.1.1
    simp (maxSteps := 2000000) -implicitDefEqProofs only [↓G6, ↓c21, s_alt, s_alt20, s_alt2t, s_alt2f, ↓s_loopi, ↓v_pq, ↓PRE, POST, CORE, Nat.reduceDiv, Nat.reduceMod, Int.reduceLT, Int.reduceLE, Int.reduceToNat, Int.reduceAdd, ↓reduceIte, Nat.reduceEqDiff, Nat.reduceAdd, Nat.reduceMul, Nat.reduceSub, Nat.reduceLeDiff, Nat.reduceLT, reduceCtorEq, if_true, eq_self, forall_const, implies_true]
    refine ⟨g, rfl, fun e he => ?_⟩
    obtain rfl := he.2 hg
    obtain ⟨R, hR⟩ : ∃ R, srt s.1 = R := ⟨_, rfl⟩
    have hRl : R.length ≤ 100000 := by
      rw [← hR, srt_len]
      have := (pickS_in hsome).1
      omega
    rw [hR]
    by_cases hRe : R = []
    · simp only [intS, intM, hRe, if_true]
      simp (maxSteps := 2000000) -implicitDefEqProofs only [bne_self_eq_false, Bool.false_eq_true, ↓G6, ↓c25, s_alt, s_alt20, s_alt2t, s_alt2f, ↓s_loopi, ↓v_pq, ↓PRE, POST, CORE, Nat.reduceDiv, Nat.reduceMod, Int.reduceLT, Int.reduceLE, Int.reduceToNat, Int.reduceAdd, ↓reduceIte, Nat.reduceEqDiff, Nat.reduceAdd, Nat.reduceMul, Nat.reduceSub, Nat.reduceLeDiff, Nat.reduceLT, reduceCtorEq, if_true, eq_self, forall_const, implies_true]
      refine ⟨g, _, bs, many, rfl, hrd _, hb5, hg, ⟨hmy.1, by omega⟩, fun q => by omega, fun _ => ⟨fun hn => ?_, fun s' hs => ?_⟩⟩
      case refine_1 => rw [hCt] at hn hsome; rw [lanR_eq h1C (by omega), hsome] at hn; cases hn
      rw [hCt] at hs hsome
      rw [lanR_eq h1C (by omega), hsome] at hs
      injection hs with hs
      subst hs
      rw [hR]
      simp only [intS, intM, hRe, if_true]
      simp (maxSteps := 2000000) -implicitDefEqProofs only [↓G6, ↓c26, s_alt, s_alt20, s_alt2t, s_alt2f, ↓s_loopi, ↓v_pq, ↓PRE, POST, CORE, Nat.reduceDiv, Nat.reduceMod, Int.reduceLT, Int.reduceLE, Int.reduceToNat, Int.reduceAdd, ↓reduceIte, Nat.reduceEqDiff, Nat.reduceAdd, Nat.reduceMul, Nat.reduceSub, Nat.reduceLeDiff, Nat.reduceLT, reduceCtorEq, if_true, eq_self, forall_const, implies_true]
      refine ⟨g, _, bs, rfl, hrd _, hb5, hg, ?_⟩
      rw [hCt, hQ]
      simp (maxSteps := 2000000) -implicitDefEqProofs only [hCp, hq0, s_alt, s_alt20, s_alt2t, s_alt2f, ↓s_loopi, ↓v_pq, ↓PRE, POST, CORE, Nat.reduceDiv, Nat.reduceMod, Int.reduceLT, Int.reduceLE, Int.reduceToNat, Int.reduceAdd, ↓reduceIte, Nat.reduceEqDiff, Nat.reduceAdd, Nat.reduceMul, Nat.reduceSub, Nat.reduceLeDiff, Nat.reduceLT, reduceCtorEq, if_true, eq_self, forall_const, implies_true]
      refine TXi_of (TX_count (@g6 J) C (fun x => [(1, .v (.slice p bs.length c)), (3, .ptr 0 0), (7, .v (.slice none 0 0)), (8, .v (.bool true)), (9, .v (.slice none 0 0)), (10, .v (.bool true)), (11, .row 1 0 C 1), (12, .v (.int .i64 ((Q.take x).foldl min q0))), (13, .v (.int .i64 ((Q.take x).foldl max q0))), (73, .row 1 0 C 1), (74, .v (.int .i64 (C : Int))), (75, .v (.int .i64 (x : Int)))]) (fun x => [⟨true, [.v (.int .i64 g.ch), .v (.int .i64 g.di), .v (.int .i64 g.bl), .v (.int .i64 g.pa)]⟩, ⟨true, iL Q⟩]) (fun _ => True) trivial ?_ ?_ ?_)
      · exact (by refine ⟨[0, 1], by simp [NdL, NdA, oO_cells, oO_own, iL_nil], ?_, ?_, keep0 hJ⟩ <;> simp only [FitM, FitE, ObLe, LeL, Le, List.cons_append, List.nil_append] <;> (try (simp (maxSteps := 2000000) -implicitDefEqProofs only [iL_fold, iL_over, iL_all, iL_get, iL_len, iL_take, iL_drop, iL_one, iL_plain, iL_le, List.length_set, s_alt, s_alt20, s_alt2t, s_alt2f, ↓s_loopi, ↓v_pq, ↓PRE, POST, CORE, Nat.reduceDiv, Nat.reduceMod, Int.reduceLT, Int.reduceLE, Int.reduceToNat, Int.reduceAdd, ↓reduceIte, Nat.reduceEqDiff, Nat.reduceAdd, Nat.reduceMul, Nat.reduceSub, Nat.reduceLeDiff, Nat.reduceLT, reduceCtorEq, if_true, eq_self, forall_const, implies_true])) <;> (try simp only [Sz.Le, Sz.LeL, List.getElem?_cons_zero, List.getElem?_cons_succ]) <;> (try simp))
      · intro x hx _
        obtain ⟨y, hy⟩ : ∃ y, Q[x]? = some y := ⟨_, List.getElem?_eq_getElem (by omega)⟩
        have hyq : (iL Q)[x]? = some (.v (.int .i64 y)) := by unfold iL; rw [List.getElem?_map, hy]; rfl
        have k0 : (0 : Int) ≤ (x : Int) := by omega
        have k1 : (x : Int) < (C : Int) := by omega
        have k2 : x + 1 ≤ C := hx
        have w1 : IntKind.i64.wrap ((x : Int) + 1) = (x : Int) + 1 := Sz.w_64 (by omega) (by omega)
        rw [take_snoc hy, List.foldl_append, List.foldl_append]
        simp only [List.foldl_cons, List.foldl_nil]
        generalize (Q.take x).foldl min q0 = lo
        generalize (Q.take x).foldl max q0 = hi
        have e1 : (if y < lo then y else lo) = min lo y := by omega
        have e2 : (if hi < y then y else hi) = max hi y := by omega
        simp (maxSteps := 2000000) -implicitDefEqProofs only [k0, k1, k2, hyq, w1, hQl, iL_len, e1, e2, s_alt, s_alt20, s_alt2t, s_alt2f, ↓s_loopi, ↓v_pq, ↓PRE, POST, CORE, Nat.reduceDiv, Nat.reduceMod, Int.reduceLT, Int.reduceLE, Int.reduceToNat, Int.reduceAdd, ↓reduceIte, Nat.reduceEqDiff, Nat.reduceAdd, Nat.reduceMul, Nat.reduceSub, Nat.reduceLeDiff, Nat.reduceLT, reduceCtorEq, if_true, eq_self, forall_const, implies_true]
        exact (by refine ⟨[0, 1], by simp [NdL, NdA, oO_cells, oO_own, iL_nil], ?_, ?_, keep0 hJ⟩ <;> simp only [FitM, FitE, ObLe, LeL, Le, List.cons_append, List.nil_append] <;> (try (simp (maxSteps := 2000000) -implicitDefEqProofs only [iL_fold, iL_over, iL_all, iL_get, iL_len, iL_take, iL_drop, iL_one, iL_plain, iL_le, List.length_set, s_alt, s_alt20, s_alt2t, s_alt2f, ↓s_loopi, ↓v_pq, ↓PRE, POST, CORE, Nat.reduceDiv, Nat.reduceMod, Int.reduceLT, Int.reduceLE, Int.reduceToNat, Int.reduceAdd, ↓reduceIte, Nat.reduceEqDiff, Nat.reduceAdd, Nat.reduceMul, Nat.reduceSub, Nat.reduceLeDiff, Nat.reduceLT, reduceCtorEq, if_true, eq_self, forall_const, implies_true])) <;> (try simp only [Sz.Le, Sz.LeL, List.getElem?_cons_zero, List.getElem?_cons_succ]) <;> (try simp))
      · intro _
        have k1 : ¬ (C : Int) < (C : Int) := by omega
        rw [← hQl, List.take_length, hQl]
        simp (maxSteps := 2000000) -implicitDefEqProofs only [k1, beq_self_eq_true, ↓G6, ↓c27, s_alt, s_alt20, s_alt2t, s_alt2f, ↓s_loopi, ↓v_pq, ↓PRE, POST, CORE, Nat.reduceDiv, Nat.reduceMod, Int.reduceLT, Int.reduceLE, Int.reduceToNat, Int.reduceAdd, ↓reduceIte, Nat.reduceEqDiff, Nat.reduceAdd, Nat.reduceMul, Nat.reduceSub, Nat.reduceLeDiff, Nat.reduceLT, reduceCtorEq, if_true, eq_self, forall_const, implies_true]
        refine ⟨_, _, [], [], rfl, rdI_nil, rdI_nil, by simp, ?_⟩
        rw [beq_self_eq_true]
        simp (maxSteps := 2000000) -implicitDefEqProofs only [↓G6, ↓c22, s_alt, s_alt20, s_alt2t, s_alt2f, ↓s_loopi, ↓v_pq, ↓PRE, POST, CORE, Nat.reduceDiv, Nat.reduceMod, Int.reduceLT, Int.reduceLE, Int.reduceToNat, Int.reduceAdd, ↓reduceIte, Nat.reduceEqDiff, Nat.reduceAdd, Nat.reduceMul, Nat.reduceSub, Nat.reduceLeDiff, Nat.reduceLT, reduceCtorEq, if_true, eq_self, forall_const, implies_true]
        refine ⟨g, _, bs, rfl, hrd _, hb5, ?_⟩
        simp only [hg, Bool.true_eq_false, false_imp_iff, true_and, true_imp_iff, eq_self]
        rw [hOd]
        by_cases hO : O = []
        · simp only [intS, intM, hO, if_true]
          simp (maxSteps := 2000000) -implicitDefEqProofs only [beq_self_eq_true, ↓G6, ↓c28, s_alt, s_alt20, s_alt2t, s_alt2f, ↓s_loopi, ↓v_pq, ↓PRE, POST, CORE, Nat.reduceDiv, Nat.reduceMod, Int.reduceLT, Int.reduceLE, Int.reduceToNat, Int.reduceAdd, ↓reduceIte, Nat.reduceEqDiff, Nat.reduceAdd, Nat.reduceMul, Nat.reduceSub, Nat.reduceLeDiff, Nat.reduceLT, reduceCtorEq, if_true, eq_self, forall_const, implies_true]
          refine ⟨g, _, bs, rfl, hrd _, hb5, hg, ?_⟩
          rw [hCt, ← hOe]
          simp only [intS, intM, hO, if_true]
          try simp (maxSteps := 2000000) -implicitDefEqProofs only [↓G6, ↓c27, s_alt, s_alt20, s_alt2t, s_alt2f, ↓s_loopi, ↓v_pq, ↓PRE, POST, CORE, Nat.reduceDiv, Nat.reduceMod, Int.reduceLT, Int.reduceLE, Int.reduceToNat, Int.reduceAdd, ↓reduceIte, Nat.reduceEqDiff, Nat.reduceAdd, Nat.reduceMul, Nat.reduceSub, Nat.reduceLeDiff, Nat.reduceLT, reduceCtorEq, if_true, eq_self, forall_const, implies_true]
          refine ⟨_, _, [], [], rfl, rdI_nil, rdI_nil, by simp, ?_⟩
          rw [beq_self_eq_true]
          try simp (maxSteps := 2000000) -implicitDefEqProofs only [↓G6, ↓c23, s_alt, s_alt20, s_alt2t, s_alt2f, ↓s_loopi, ↓v_pq, ↓PRE, POST, CORE, Nat.reduceDiv, Nat.reduceMod, Int.reduceLT, Int.reduceLE, Int.reduceToNat, Int.reduceAdd, ↓reduceIte, Nat.reduceEqDiff, Nat.reduceAdd, Nat.reduceMul, Nat.reduceSub, Nat.reduceLeDiff, Nat.reduceLT, reduceCtorEq, if_true, eq_self, forall_const, implies_true]
          refine ⟨g, _, bs, rfl, hrd _, hb5, ?_⟩
          simp only [hg, Bool.true_eq_false, false_imp_iff, true_and, true_imp_iff, eq_self]
          rw [hCt, hQ]
          try simp (maxSteps := 2000000) -implicitDefEqProofs only [↓G6, ↓c27, s_alt, s_alt20, s_alt2t, s_alt2f, ↓s_loopi, ↓v_pq, ↓PRE, POST, CORE, Nat.reduceDiv, Nat.reduceMod, Int.reduceLT, Int.reduceLE, Int.reduceToNat, Int.reduceAdd, ↓reduceIte, Nat.reduceEqDiff, Nat.reduceAdd, Nat.reduceMul, Nat.reduceSub, Nat.reduceLeDiff, Nat.reduceLT, reduceCtorEq, if_true, eq_self, forall_const, implies_true]
          refine ⟨_, _, Q, Q, rfl, rdI_row rfl hQl.symm, rdI_row rfl hQl.symm, by omega, ?_⟩
          rw [beq_self_eq_true]
          simp (maxSteps := 2000000) -implicitDefEqProofs only [w5, ↓G6, ↓c24, s_alt, s_alt20, s_alt2t, s_alt2f, ↓s_loopi, ↓v_pq, ↓PRE, POST, CORE, Nat.reduceDiv, Nat.reduceMod, Int.reduceLT, Int.reduceLE, Int.reduceToNat, Int.reduceAdd, ↓reduceIte, Nat.reduceEqDiff, Nat.reduceAdd, Nat.reduceMul, Nat.reduceSub, Nat.reduceLeDiff, Nat.reduceLT, reduceCtorEq, if_true, eq_self, forall_const, implies_true]
          refine ⟨g, _, bs, rfl, hrd _, hb5, ?_⟩
          simp only [hg, Bool.true_eq_false, false_imp_iff, true_and, true_imp_iff, eq_self]
          rw [hCt, hQ, hev]
          try simp (maxSteps := 2000000) -implicitDefEqProofs only [beq_self_eq_true, s_alt, s_alt20, s_alt2t, s_alt2f, ↓s_loopi, ↓v_pq, ↓PRE, POST, CORE, Nat.reduceDiv, Nat.reduceMod, Int.reduceLT, Int.reduceLE, Int.reduceToNat, Int.reduceAdd, ↓reduceIte, Nat.reduceEqDiff, Nat.reduceAdd, Nat.reduceMul, Nat.reduceSub, Nat.reduceLeDiff, Nat.reduceLT, reduceCtorEq, if_true, eq_self, forall_const, implies_true]
          exact hk
        · simp only [intS, intM, hO, if_false]
          simp (maxSteps := 2000000) -implicitDefEqProofs only [beq_self_eq_true, ↓G6, ↓c28, s_alt, s_alt20, s_alt2t, s_alt2f, ↓s_loopi, ↓v_pq, ↓PRE, POST, CORE, Nat.reduceDiv, Nat.reduceMod, Int.reduceLT, Int.reduceLE, Int.reduceToNat, Int.reduceAdd, ↓reduceIte, Nat.reduceEqDiff, Nat.reduceAdd, Nat.reduceMul, Nat.reduceSub, Nat.reduceLeDiff, Nat.reduceLT, reduceCtorEq, if_true, eq_self, forall_const, implies_true]
          refine ⟨g, _, bs, rfl, hrd _, hb5, hg, ?_⟩
          rw [hCt, ← hOe]
          simp only [intS, intM, hO, if_false]
          try simp (maxSteps := 2000000) -implicitDefEqProofs only [↓G6, ↓c27, s_alt, s_alt20, s_alt2t, s_alt2f, ↓s_loopi, ↓v_pq, ↓PRE, POST, CORE, Nat.reduceDiv, Nat.reduceMod, Int.reduceLT, Int.reduceLE, Int.reduceToNat, Int.reduceAdd, ↓reduceIte, Nat.reduceEqDiff, Nat.reduceAdd, Nat.reduceMul, Nat.reduceSub, Nat.reduceLeDiff, Nat.reduceLT, reduceCtorEq, if_true, eq_self, forall_const, implies_true]
          refine ⟨_, _, O, O, rfl, rdI_row rfl rfl, rdI_row rfl rfl, by omega, ?_⟩
          rw [beq_self_eq_true]
          try simp (maxSteps := 2000000) -implicitDefEqProofs only [↓G6, ↓c23, s_alt, s_alt20, s_alt2t, s_alt2f, ↓s_loopi, ↓v_pq, ↓PRE, POST, CORE, Nat.reduceDiv, Nat.reduceMod, Int.reduceLT, Int.reduceLE, Int.reduceToNat, Int.reduceAdd, ↓reduceIte, Nat.reduceEqDiff, Nat.reduceAdd, Nat.reduceMul, Nat.reduceSub, Nat.reduceLeDiff, Nat.reduceLT, reduceCtorEq, if_true, eq_self, forall_const, implies_true]
          refine ⟨g, _, bs, rfl, hrd _, hb5, ?_⟩
          simp only [hg, Bool.true_eq_false, false_imp_iff, true_and, true_imp_iff, eq_self]
          rw [hCt, hQ]
          try simp (maxSteps := 2000000) -implicitDefEqProofs only [↓G6, ↓c27, s_alt, s_alt20, s_alt2t, s_alt2f, ↓s_loopi, ↓v_pq, ↓PRE, POST, CORE, Nat.reduceDiv, Nat.reduceMod, Int.reduceLT, Int.reduceLE, Int.reduceToNat, Int.reduceAdd, ↓reduceIte, Nat.reduceEqDiff, Nat.reduceAdd, Nat.reduceMul, Nat.reduceSub, Nat.reduceLeDiff, Nat.reduceLT, reduceCtorEq, if_true, eq_self, forall_const, implies_true]
          refine ⟨_, _, Q, Q, rfl, rdI_row rfl hQl.symm, rdI_row rfl hQl.symm, by omega, ?_⟩
          rw [beq_self_eq_true]
          simp (maxSteps := 2000000) -implicitDefEqProofs only [w5, ↓G6, ↓c24, s_alt, s_alt20, s_alt2t, s_alt2f, ↓s_loopi, ↓v_pq, ↓PRE, POST, CORE, Nat.reduceDiv, Nat.reduceMod, Int.reduceLT, Int.reduceLE, Int.reduceToNat, Int.reduceAdd, ↓reduceIte, Nat.reduceEqDiff, Nat.reduceAdd, Nat.reduceMul, Nat.reduceSub, Nat.reduceLeDiff, Nat.reduceLT, reduceCtorEq, if_true, eq_self, forall_const, implies_true]
          refine ⟨g, _, bs, rfl, hrd _, hb5, ?_⟩
          simp only [hg, Bool.true_eq_false, false_imp_iff, true_and, true_imp_iff, eq_self]
          rw [hCt, hQ, hev]
          try simp (maxSteps := 2000000) -implicitDefEqProofs only [beq_self_eq_true, s_alt, s_alt20, s_alt2t, s_alt2f, ↓s_loopi, ↓v_pq, ↓PRE, POST, CORE, Nat.reduceDiv, Nat.reduceMod, Int.reduceLT, Int.reduceLE, Int.reduceToNat, Int.reduceAdd, ↓reduceIte, Nat.reduceEqDiff, Nat.reduceAdd, Nat.reduceMul, Nat.reduceSub, Nat.reduceLeDiff, Nat.reduceLT, reduceCtorEq, if_true, eq_self, forall_const, implies_true]
          exact hk
    · simp only [intS, intM, hRe, if_false]
      simp (maxSteps := 2000000) -implicitDefEqProofs only [bne_self_eq_false, Bool.false_eq_true, ↓G6, ↓c25, s_alt, s_alt20, s_alt2t, s_alt2f, ↓s_loopi, ↓v_pq, ↓PRE, POST, CORE, Nat.reduceDiv, Nat.reduceMod, Int.reduceLT, Int.reduceLE, Int.reduceToNat, Int.reduceAdd, ↓reduceIte, Nat.reduceEqDiff, Nat.reduceAdd, Nat.reduceMul, Nat.reduceSub, Nat.reduceLeDiff, Nat.reduceLT, reduceCtorEq, if_true, eq_self, forall_const, implies_true]
      refine ⟨g, _, bs, many, rfl, hrd _, hb5, hg, ⟨hmy.1, by omega⟩, fun q => by omega, fun _ => ⟨fun hn => ?_, fun s' hs => ?_⟩⟩
      case refine_1 => rw [hCt] at hn hsome; rw [lanR_eq h1C (by omega), hsome] at hn; cases hn
      rw [hCt] at hs hsome
      rw [lanR_eq h1C (by omega), hsome] at hs
      injection hs with hs
      subst hs
      rw [hR]
      simp only [intS, intM, hRe, if_false]
      simp (maxSteps := 2000000) -implicitDefEqProofs only [↓G6, ↓c26, s_alt, s_alt20, s_alt2t, s_alt2f, ↓s_loopi, ↓v_pq, ↓PRE, POST, CORE, Nat.reduceDiv, Nat.reduceMod, Int.reduceLT, Int.reduceLE, Int.reduceToNat, Int.reduceAdd, ↓reduceIte, Nat.reduceEqDiff, Nat.reduceAdd, Nat.reduceMul, Nat.reduceSub, Nat.reduceLeDiff, Nat.reduceLT, reduceCtorEq, if_true, eq_self, forall_const, implies_true]
      refine ⟨g, _, bs, rfl, hrd _, hb5, hg, ?_⟩
      rw [hCt, hQ]
      simp (maxSteps := 2000000) -implicitDefEqProofs only [hCp, hq0, s_alt, s_alt20, s_alt2t, s_alt2f, ↓s_loopi, ↓v_pq, ↓PRE, POST, CORE, Nat.reduceDiv, Nat.reduceMod, Int.reduceLT, Int.reduceLE, Int.reduceToNat, Int.reduceAdd, ↓reduceIte, Nat.reduceEqDiff, Nat.reduceAdd, Nat.reduceMul, Nat.reduceSub, Nat.reduceLeDiff, Nat.reduceLT, reduceCtorEq, if_true, eq_self, forall_const, implies_true]
      refine TXi_of (TX_count (@g6 J) C (fun x => [(1, .v (.slice p bs.length c)), (3, .ptr 0 0), (7, .row 1 0 R.length 1), (8, .v (.bool true)), (9, .row 2 0 R.length 1), (10, .v (.bool true)), (11, .row 3 0 C 1), (12, .v (.int .i64 ((Q.take x).foldl min q0))), (13, .v (.int .i64 ((Q.take x).foldl max q0))), (73, .row 3 0 C 1), (74, .v (.int .i64 (C : Int))), (75, .v (.int .i64 (x : Int)))]) (fun x => [⟨true, [.v (.int .i64 g.ch), .v (.int .i64 g.di), .v (.int .i64 g.bl), .v (.int .i64 g.pa)]⟩, ⟨true, iL R⟩, ⟨true, iL R⟩, ⟨true, iL Q⟩]) (fun _ => True) trivial ?_ ?_ ?_)
      · exact (by refine ⟨[0, 1, 2, 3], by simp [NdL, NdA, oO_cells, oO_own, iL_nil], ?_, ?_, keep0 hJ⟩ <;> simp only [FitM, FitE, ObLe, LeL, Le, List.cons_append, List.nil_append] <;> (try (simp (maxSteps := 2000000) -implicitDefEqProofs only [iL_fold, iL_over, iL_all, iL_get, iL_len, iL_take, iL_drop, iL_one, iL_plain, iL_le, List.length_set, s_alt, s_alt20, s_alt2t, s_alt2f, ↓s_loopi, ↓v_pq, ↓PRE, POST, CORE, Nat.reduceDiv, Nat.reduceMod, Int.reduceLT, Int.reduceLE, Int.reduceToNat, Int.reduceAdd, ↓reduceIte, Nat.reduceEqDiff, Nat.reduceAdd, Nat.reduceMul, Nat.reduceSub, Nat.reduceLeDiff, Nat.reduceLT, reduceCtorEq, if_true, eq_self, forall_const, implies_true])) <;> (try simp only [Sz.Le, Sz.LeL, List.getElem?_cons_zero, List.getElem?_cons_succ]) <;> (try simp))
      · intro x hx _
        obtain ⟨y, hy⟩ : ∃ y, Q[x]? = some y := ⟨_, List.getElem?_eq_getElem (by omega)⟩
        have hyq : (iL Q)[x]? = some (.v (.int .i64 y)) := by unfold iL; rw [List.getElem?_map, hy]; rfl
        have k0 : (0 : Int) ≤ (x : Int) := by omega
        have k1 : (x : Int) < (C : Int) := by omega
        have k2 : x + 1 ≤ C := hx
        have w1 : IntKind.i64.wrap ((x : Int) + 1) = (x : Int) + 1 := Sz.w_64 (by omega) (by omega)
        rw [take_snoc hy, List.foldl_append, List.foldl_append]
        simp only [List.foldl_cons, List.foldl_nil]
        generalize (Q.take x).foldl min q0 = lo
        generalize (Q.take x).foldl max q0 = hi
        have e1 : (if y < lo then y else lo) = min lo y := by omega
        have e2 : (if hi < y then y else hi) = max hi y := by omega
        simp (maxSteps := 2000000) -implicitDefEqProofs only [k0, k1, k2, hyq, w1, hQl, iL_len, e1, e2, s_alt, s_alt20, s_alt2t, s_alt2f, ↓s_loopi, ↓v_pq, ↓PRE, POST, CORE, Nat.reduceDiv, Nat.reduceMod, Int.reduceLT, Int.reduceLE, Int.reduceToNat, Int.reduceAdd, ↓reduceIte, Nat.reduceEqDiff, Nat.reduceAdd, Nat.reduceMul, Nat.reduceSub, Nat.reduceLeDiff, Nat.reduceLT, reduceCtorEq, if_true, eq_self, forall_const, implies_true]
        exact (by refine ⟨[0, 1, 2, 3], by simp [NdL, NdA, oO_cells, oO_own, iL_nil], ?_, ?_, keep0 hJ⟩ <;> simp only [FitM, FitE, ObLe, LeL, Le, List.cons_append, List.nil_append] <;> (try (simp (maxSteps := 2000000) -implicitDefEqProofs only [iL_fold, iL_over, iL_all, iL_get, iL_len, iL_take, iL_drop, iL_one, iL_plain, iL_le, List.length_set, s_alt, s_alt20, s_alt2t, s_alt2f, ↓s_loopi, ↓v_pq, ↓PRE, POST, CORE, Nat.reduceDiv, Nat.reduceMod, Int.reduceLT, Int.reduceLE, Int.reduceToNat, Int.reduceAdd, ↓reduceIte, Nat.reduceEqDiff, Nat.reduceAdd, Nat.reduceMul, Nat.reduceSub, Nat.reduceLeDiff, Nat.reduceLT, reduceCtorEq, if_true, eq_self, forall_const, implies_true])) <;> (try simp only [Sz.Le, Sz.LeL, List.getElem?_cons_zero, List.getElem?_cons_succ]) <;> (try simp))
      · intro _
        have k1 : ¬ (C : Int) < (C : Int) := by omega
        rw [← hQl, List.take_length, hQl]
        simp (maxSteps := 2000000) -implicitDefEqProofs only [k1, beq_self_eq_true, ↓G6, ↓c27, s_alt, s_alt20, s_alt2t, s_alt2f, ↓s_loopi, ↓v_pq, ↓PRE, POST, CORE, Nat.reduceDiv, Nat.reduceMod, Int.reduceLT, Int.reduceLE, Int.reduceToNat, Int.reduceAdd, ↓reduceIte, Nat.reduceEqDiff, Nat.reduceAdd, Nat.reduceMul, Nat.reduceSub, Nat.reduceLeDiff, Nat.reduceLT, reduceCtorEq, if_true, eq_self, forall_const, implies_true]
        refine ⟨_, _, R, R, rfl, rdI_row rfl rfl, rdI_row rfl rfl, by omega, ?_⟩
        rw [beq_self_eq_true]
        simp (maxSteps := 2000000) -implicitDefEqProofs only [↓G6, ↓c22, s_alt, s_alt20, s_alt2t, s_alt2f, ↓s_loopi, ↓v_pq, ↓PRE, POST, CORE, Nat.reduceDiv, Nat.reduceMod, Int.reduceLT, Int.reduceLE, Int.reduceToNat, Int.reduceAdd, ↓reduceIte, Nat.reduceEqDiff, Nat.reduceAdd, Nat.reduceMul, Nat.reduceSub, Nat.reduceLeDiff, Nat.reduceLT, reduceCtorEq, if_true, eq_self, forall_const, implies_true]
        refine ⟨g, _, bs, rfl, hrd _, hb5, ?_⟩
        simp only [hg, Bool.true_eq_false, false_imp_iff, true_and, true_imp_iff, eq_self]
        rw [hOd]
        by_cases hO : O = []
        · simp only [intS, intM, hO, if_true]
          simp (maxSteps := 2000000) -implicitDefEqProofs only [beq_self_eq_true, ↓G6, ↓c28, s_alt, s_alt20, s_alt2t, s_alt2f, ↓s_loopi, ↓v_pq, ↓PRE, POST, CORE, Nat.reduceDiv, Nat.reduceMod, Int.reduceLT, Int.reduceLE, Int.reduceToNat, Int.reduceAdd, ↓reduceIte, Nat.reduceEqDiff, Nat.reduceAdd, Nat.reduceMul, Nat.reduceSub, Nat.reduceLeDiff, Nat.reduceLT, reduceCtorEq, if_true, eq_self, forall_const, implies_true]
          refine ⟨g, _, bs, rfl, hrd _, hb5, hg, ?_⟩
          rw [hCt, ← hOe]
          simp only [intS, intM, hO, if_true]
          try simp (maxSteps := 2000000) -implicitDefEqProofs only [↓G6, ↓c27, s_alt, s_alt20, s_alt2t, s_alt2f, ↓s_loopi, ↓v_pq, ↓PRE, POST, CORE, Nat.reduceDiv, Nat.reduceMod, Int.reduceLT, Int.reduceLE, Int.reduceToNat, Int.reduceAdd, ↓reduceIte, Nat.reduceEqDiff, Nat.reduceAdd, Nat.reduceMul, Nat.reduceSub, Nat.reduceLeDiff, Nat.reduceLT, reduceCtorEq, if_true, eq_self, forall_const, implies_true]
          refine ⟨_, _, [], [], rfl, rdI_nil, rdI_nil, by simp, ?_⟩
          rw [beq_self_eq_true]
          try simp (maxSteps := 2000000) -implicitDefEqProofs only [↓G6, ↓c23, s_alt, s_alt20, s_alt2t, s_alt2f, ↓s_loopi, ↓v_pq, ↓PRE, POST, CORE, Nat.reduceDiv, Nat.reduceMod, Int.reduceLT, Int.reduceLE, Int.reduceToNat, Int.reduceAdd, ↓reduceIte, Nat.reduceEqDiff, Nat.reduceAdd, Nat.reduceMul, Nat.reduceSub, Nat.reduceLeDiff, Nat.reduceLT, reduceCtorEq, if_true, eq_self, forall_const, implies_true]
          refine ⟨g, _, bs, rfl, hrd _, hb5, ?_⟩
          simp only [hg, Bool.true_eq_false, false_imp_iff, true_and, true_imp_iff, eq_self]
          rw [hCt, hQ]
          try simp (maxSteps := 2000000) -implicitDefEqProofs only [↓G6, ↓c27, s_alt, s_alt20, s_alt2t, s_alt2f, ↓s_loopi, ↓v_pq, ↓PRE, POST, CORE, Nat.reduceDiv, Nat.reduceMod, Int.reduceLT, Int.reduceLE, Int.reduceToNat, Int.reduceAdd, ↓reduceIte, Nat.reduceEqDiff, Nat.reduceAdd, Nat.reduceMul, Nat.reduceSub, Nat.reduceLeDiff, Nat.reduceLT, reduceCtorEq, if_true, eq_self, forall_const, implies_true]
          refine ⟨_, _, Q, Q, rfl, rdI_row rfl hQl.symm, rdI_row rfl hQl.symm, by omega, ?_⟩
          rw [beq_self_eq_true]
          simp (maxSteps := 2000000) -implicitDefEqProofs only [w5, ↓G6, ↓c24, s_alt, s_alt20, s_alt2t, s_alt2f, ↓s_loopi, ↓v_pq, ↓PRE, POST, CORE, Nat.reduceDiv, Nat.reduceMod, Int.reduceLT, Int.reduceLE, Int.reduceToNat, Int.reduceAdd, ↓reduceIte, Nat.reduceEqDiff, Nat.reduceAdd, Nat.reduceMul, Nat.reduceSub, Nat.reduceLeDiff, Nat.reduceLT, reduceCtorEq, if_true, eq_self, forall_const, implies_true]
          refine ⟨g, _, bs, rfl, hrd _, hb5, ?_⟩
          simp only [hg, Bool.true_eq_false, false_imp_iff, true_and, true_imp_iff, eq_self]
          rw [hCt, hQ, hev]
          try simp (maxSteps := 2000000) -implicitDefEqProofs only [beq_self_eq_true, s_alt, s_alt20, s_alt2t, s_alt2f, ↓s_loopi, ↓v_pq, ↓PRE, POST, CORE, Nat.reduceDiv, Nat.reduceMod, Int.reduceLT, Int.reduceLE, Int.reduceToNat, Int.reduceAdd, ↓reduceIte, Nat.reduceEqDiff, Nat.reduceAdd, Nat.reduceMul, Nat.reduceSub, Nat.reduceLeDiff, Nat.reduceLT, reduceCtorEq, if_true, eq_self, forall_const, implies_true]
          exact hk
        · simp only [intS, intM, hO, if_false]
          simp (maxSteps := 2000000) -implicitDefEqProofs only [beq_self_eq_true, ↓G6, ↓c28, s_alt, s_alt20, s_alt2t, s_alt2f, ↓s_loopi, ↓v_pq, ↓PRE, POST, CORE, Nat.reduceDiv, Nat.reduceMod, Int.reduceLT, Int.reduceLE, Int.reduceToNat, Int.reduceAdd, ↓reduceIte, Nat.reduceEqDiff, Nat.reduceAdd, Nat.reduceMul, Nat.reduceSub, Nat.reduceLeDiff, Nat.reduceLT, reduceCtorEq, if_true, eq_self, forall_const, implies_true]
          refine ⟨g, _, bs, rfl, hrd _, hb5, hg, ?_⟩
          rw [hCt, ← hOe]
          simp only [intS, intM, hO, if_false]
          try simp (maxSteps := 2000000) -implicitDefEqProofs only [↓G6, ↓c27, s_alt, s_alt20, s_alt2t, s_alt2f, ↓s_loopi, ↓v_pq, ↓PRE, POST, CORE, Nat.reduceDiv, Nat.reduceMod, Int.reduceLT, Int.reduceLE, Int.reduceToNat, Int.reduceAdd, ↓reduceIte, Nat.reduceEqDiff, Nat.reduceAdd, Nat.reduceMul, Nat.reduceSub, Nat.reduceLeDiff, Nat.reduceLT, reduceCtorEq, if_true, eq_self, forall_const, implies_true]
          refine ⟨_, _, O, O, rfl, rdI_row rfl rfl, rdI_row rfl rfl, by omega, ?_⟩
          rw [beq_self_eq_true]
          try simp (maxSteps := 2000000) -implicitDefEqProofs only [↓G6, ↓c23, s_alt, s_alt20, s_alt2t, s_alt2f, ↓s_loopi, ↓v_pq, ↓PRE, POST, CORE, Nat.reduceDiv, Nat.reduceMod, Int.reduceLT, Int.reduceLE, Int.reduceToNat, Int.reduceAdd, ↓reduceIte, Nat.reduceEqDiff, Nat.reduceAdd, Nat.reduceMul, Nat.reduceSub, Nat.reduceLeDiff, Nat.reduceLT, reduceCtorEq, if_true, eq_self, forall_const, implies_true]
          refine ⟨g, _, bs, rfl, hrd _, hb5, ?_⟩
          simp only [hg, Bool.true_eq_false, false_imp_iff, true_and, true_imp_iff, eq_self]
          rw [hCt, hQ]
          try simp (maxSteps := 2000000) -implicitDefEqProofs only [↓G6, ↓c27, s_alt, s_alt20, s_alt2t, s_alt2f, ↓s_loopi, ↓v_pq, ↓PRE, POST, CORE, Nat.reduceDiv, Nat.reduceMod, Int.reduceLT, Int.reduceLE, Int.reduceToNat, Int.reduceAdd, ↓reduceIte, Nat.reduceEqDiff, Nat.reduceAdd, Nat.reduceMul, Nat.reduceSub, Nat.reduceLeDiff, Nat.reduceLT, reduceCtorEq, if_true, eq_self, forall_const, implies_true]
          refine ⟨_, _, Q, Q, rfl, rdI_row rfl hQl.symm, rdI_row rfl hQl.symm, by omega, ?_⟩
          rw [beq_self_eq_true]
          simp (maxSteps := 2000000) -implicitDefEqProofs only [w5, ↓G6, ↓c24, s_alt, s_alt20, s_alt2t, s_alt2f, ↓s_loopi, ↓v_pq, ↓PRE, POST, CORE, Nat.reduceDiv, Nat.reduceMod, Int.reduceLT, Int.reduceLE, Int.reduceToNat, Int.reduceAdd, ↓reduceIte, Nat.reduceEqDiff, Nat.reduceAdd, Nat.reduceMul, Nat.reduceSub, Nat.reduceLeDiff, Nat.reduceLT, reduceCtorEq, if_true, eq_self, forall_const, implies_true]
          refine ⟨g, _, bs, rfl, hrd _, hb5, ?_⟩
          simp only [hg, Bool.true_eq_false, false_imp_iff, true_and, true_imp_iff, eq_self]
          rw [hCt, hQ, hev]
          try simp (maxSteps := 2000000) -implicitDefEqProofs only [beq_self_eq_true, s_alt, s_alt20, s_alt2t, s_alt2f, ↓s_loopi, ↓v_pq, ↓PRE, POST, CORE, Nat.reduceDiv, Nat.reduceMod, Int.reduceLT, Int.reduceLE, Int.reduceToNat, Int.reduceAdd, ↓reduceIte, Nat.reduceEqDiff, Nat.reduceAdd, Nat.reduceMul, Nat.reduceSub, Nat.reduceLeDiff, Nat.reduceLT, reduceCtorEq, if_true, eq_self, forall_const, implies_true]
          exact hk
end St
end Go.Proofs.Ytibefgdjijmncaa
end
section
namespace Go.Proofs.Ytibefgdjijmncaa
open Go.ChangeShapes Go.WideShapes Go.ChangeAt Go.RowKit Go.Deep
theorem add_plain' (g o j : Nat) : (⟨g, o, none⟩ : Addr).add j = ⟨g, o + j, none⟩ := by unfold Addr.add; split <;> simp_all
inductive Sh where
  | nil
  | int (k : IntKind) (r : Sh)
  | bool (r : Sh)
  | str (r : Sh)
  | sl (e : Sh) (r : Sh)
def Sh.len : Sh → Nat
  | .nil => 0
  | .int _ r | .bool r | .str r | .sl _ r => r.len + 1
def Sh.app : Sh → Sh → Sh
  | .nil, b => b
  | .int k r, b => .int k (r.app b)
  | .bool r, b => .bool (r.app b)
  | .str r, b => .str (r.app b)
  | .sl e r, b => .sl e (r.app b)
def Sh.rep (a : Sh) : Nat → Sh
  | 0 => .nil
  | n + 1 => a.app (a.rep n)
def SlFits (w : World) (v : Value) (sz : Nat) (F : List Value → Prop) : Prop :=
  ∃ A n c, v = .slice A n c ∧ n ≤ c ∧ c ≤ maxLen ∧ (A = none → c = 0) ∧
    ∀ a, A = some a → ∀ i, i < n → ∃ cs : List Value, cs.length = sz ∧ (∀ j u, cs[j]? = some u → w.cell? ((a.add (i * sz)).add j) = some u) ∧ F cs
def Sh.fits (w : World) : Sh → List Value → Prop
  | .nil, cs => cs = []
  | .int k r, cs => ∃ n cs', cs = .int k n :: cs' ∧ (Lit.int k n).wf = true ∧ r.fits w cs'
  | .bool r, cs => ∃ b cs', cs = .bool b :: cs' ∧ r.fits w cs'
  | .str r, cs => ∃ s cs', cs = .string s :: cs' ∧ s.size ≤ maxLen ∧ r.fits w cs'
  | .sl e r, cs => ∃ v cs', cs = v :: cs' ∧ SlFits w v e.len (e.fits w) ∧ r.fits w cs'
theorem Sh.fits_len {w : World} : ∀ {s : Sh} {cs : List Value}, s.fits w cs → cs.length = s.len
  | .nil, cs, h => by simp only [Sh.fits] at h; simp [h, Sh.len]
  | .int k r, cs, h => by obtain ⟨n, cs', rfl, _, h'⟩ := h; simp [Sh.len, Sh.fits_len h']
  | .bool r, cs, h => by obtain ⟨n, cs', rfl, h'⟩ := h; simp [Sh.len, Sh.fits_len h']
  | .str r, cs, h => by obtain ⟨n, cs', rfl, _, h'⟩ := h; simp [Sh.len, Sh.fits_len h']
  | .sl e r, cs, h => by obtain ⟨n, cs', rfl, _, h'⟩ := h; simp [Sh.len, Sh.fits_len h']
theorem Sh.fits_app {w : World} {b : Sh} {ds : List Value} (hb : b.fits w ds) : ∀ {a : Sh} {cs : List Value}, a.fits w cs → (a.app b).fits w (cs ++ ds)
  | .nil, cs, h => by simp only [Sh.fits] at h; subst h; simpa [Sh.app] using hb
  | .int k r, cs, h => by obtain ⟨n, cs', rfl, h1, h'⟩ := h; exact ⟨n, cs' ++ ds, rfl, h1, Sh.fits_app hb h'⟩
  | .bool r, cs, h => by obtain ⟨n, cs', rfl, h'⟩ := h; exact ⟨n, cs' ++ ds, rfl, Sh.fits_app hb h'⟩
  | .str r, cs, h => by obtain ⟨n, cs', rfl, h1, h'⟩ := h; exact ⟨n, cs' ++ ds, rfl, h1, Sh.fits_app hb h'⟩
  | .sl e r, cs, h => by obtain ⟨n, cs', rfl, h1, h'⟩ := h; exact ⟨n, cs' ++ ds, rfl, h1, Sh.fits_app hb h'⟩
theorem Sh.app_len : ∀ {a b : Sh}, (a.app b).len = a.len + b.len
  | .nil, b => by simp [Sh.app, Sh.len]
  | .int k r, b => by simp [Sh.app, Sh.len, Sh.app_len (a := r)]; omega
  | .bool r, b => by simp [Sh.app, Sh.len, Sh.app_len (a := r)]; omega
  | .str r, b => by simp [Sh.app, Sh.len, Sh.app_len (a := r)]; omega
  | .sl e r, b => by simp [Sh.app, Sh.len, Sh.app_len (a := r)]; omega
section
variable (P : Program)
def shFields (one : TypeId → Option Sh) : Nat → List Field → Option Sh
  | _, [] => some .nil
  | off, f :: fs => (one f.type).bind fun a => if f.offset = off ∧ P.cellsOf f.type = a.len then (shFields one (off + a.len) fs).map (a.app ·) else none
def shOf : Nat → TypeId → Option Sh
  | 0, _ => none
  | n + 1, t => match P.underlying t with
    | some .bool => some (.bool .nil)
    | some (.int k) => some (.int k .nil)
    | some .string => some (.str .nil)
    | some (.slice e) => (shOf n e).bind fun a => if P.cellsOf e = a.len then some (.sl a .nil) else none
    | some (.struct fs) => (shFields P (shOf n) 0 fs.toList).bind fun a => if P.cellsOf t = a.len then some a else none
    | some (.array k e) => (shOf n e).bind fun a => if P.cellsOf e = a.len ∧ P.cellsOf t = k * a.len then some (a.rep k) else none
    | _ => none
end
section
variable {P : Program} {H : Type} {enc : TypeId × Value → H} {w : World} {base : Nat} {spare : Nat → Bool} {held : Bool}
def isAggT (P : Program) (t : TypeId) : Bool := match P.underlying t with
  | some (.struct _) | some (.array _ _) => true
  | _ => false
end
theorem sl_open {w : World} {v : Value} {sz : Nat} {F : List Value → Prop} (h : SlFits w v sz F) (hsz : 0 < sz) :
    ∃ A n c, v = .slice A n c ∧ n ≤ c ∧ c ≤ maxLen ∧ (n = 0 ∨ ∃ g o, A = some ⟨g, o, none⟩ ∧ ∀ i, i < n → ∃ cs : List Value, cs.length = sz ∧ (∀ j u, cs[j]? = some u → w.cell? ⟨g, o + i * sz + j, none⟩ = some u) ∧ F cs) := by
  obtain ⟨A, n, c, rfl, hn, hc, hA, hcell⟩ := h
  refine ⟨A, n, c, rfl, hn, hc, ?_⟩
  rcases Nat.eq_zero_or_pos n with h0 | h0
  · exact .inl h0
  · right
    cases A with
    | none => have := hA rfl; omega
    | some a =>
      obtain ⟨g, o, spot⟩ := a
      obtain ⟨cs, hl, hg, _⟩ := hcell _ rfl 0 h0
      obtain ⟨x, hx⟩ : ∃ x, cs[0]? = some x := ⟨_, List.getElem?_eq_getElem (by omega)⟩
      have hc0 := hg 0 x hx
      have hspot : spot = Option.none := by simpa [Addr.add] using World.cell?_spot hc0
      subst hspot
      refine ⟨g, o, rfl, fun i hi => ?_⟩
      obtain ⟨cs, hl, hg, hF⟩ := hcell _ rfl i hi
      refine ⟨cs, hl, fun j u hj => ?_, hF⟩
      have := hg j u hj
      rwa [add_plain', add_plain'] at this
theorem list_of {α : Type} {p : Nat → α → Prop} : ∀ (n : Nat), (∀ i, i < n → ∃ x, p i x) → ∃ l : List α, l.length = n ∧ ∀ i x, l[i]? = some x → p i x
  | 0, _ => ⟨[], rfl, fun i x h => by simp at h⟩
  | n + 1, h => by
    obtain ⟨l, hl, hp⟩ := list_of n (fun i hi => h i (by omega))
    obtain ⟨x, hx⟩ := h n (by omega)
    refine ⟨l ++ [x], by simp [hl], fun i y hy => ?_⟩
    rcases Nat.lt_or_ge i n with hi | hi
    · rw [List.getElem?_append_left (by omega)] at hy; exact hp i y hy
    · rw [List.getElem?_append_right (by omega)] at hy
      have : i - l.length = 0 := by
        rcases Nat.eq_zero_or_pos (i - l.length) with h | h
        · exact h
        · rw [List.getElem?_eq_none (by simp; omega)] at hy; cases hy
      rw [this] at hy
      simp at hy
      subst hy
      have : i = n := by omega
      subst this; exact hx
theorem wf_bounds_i64 {n : Int} (h : (Lit.int .i64 n).wf = true) : -9223372036854775808 ≤ n ∧ n ≤ 9223372036854775807 := by
  simpa [Lit.wf, IntKind.min, IntKind.max, IntKind.signed, IntKind.bits] using h
end Go.Proofs.Ytibefgdjijmncaa
end
section
namespace Go.Proofs.Ytibefgdjijmncaa.Sz
open Go.RowKit
theorem rowV_get {α : Type} {cs : α → List Value} {z : Nat} (hz : ∀ x, (cs x).length = z) (h0 : 0 < z) : ∀ {l : List α} {j : Nat} {u : Value}, (rowV cs l)[j]? = some u → ∃ x, l[j / z]? = some x ∧ (cs x)[j % z]? = some u
  | [], j, u, h => by simp [rowV] at h
  | x :: l, j, u, h => by
    have e : rowV cs (x :: l) = cs x ++ rowV cs l := rfl
    rw [e] at h
    by_cases hj : j < z
    · rw [List.getElem?_append_left (by rw [hz]; exact hj)] at h
      exact ⟨x, by rw [Nat.div_eq_of_lt hj]; rfl, by rw [Nat.mod_eq_of_lt hj]; exact h⟩
    · rw [List.getElem?_append_right (by rw [hz]; omega), hz] at h
      obtain ⟨y, h1, h2⟩ := rowV_get hz h0 h
      refine ⟨y, ?_, ?_⟩
      · rw [Nat.div_eq_sub_div h0 (by omega)]
        simpa using h1
      · rw [Nat.mod_eq_sub_mod (by omega)]; exact h2
theorem rows_of_sl {α : Type} {cs : α → List Value} {z : Nat} (hz : ∀ x, (cs x).length = z) (h0 : 0 < z) {W : World} {v : Value} {F : List Value → Prop} {Q : α → Prop} (h : SlFits W v z F) (hF : ∀ l, F l → ∃ x, cs x = l ∧ Q x) :
    ∃ A n c l, v = .slice A n c ∧ n ≤ c ∧ c ≤ 9223372036854775807 ∧ l.length = n ∧ (∀ x ∈ l, Q x) ∧ @inpL (inpOf W) A (n * z) = some (rowV cs l) := by
  obtain ⟨A, n, c, rfl, hn, hc, hh⟩ := sl_open h h0
  have hc' : c ≤ 9223372036854775807 := by simpa [maxLen] using hc
  rcases hh with rfl | ⟨g, o, rfl, hcell⟩
  · exact ⟨A, 0, c, [], rfl, hn, hc', rfl, by simp, by simp [inpL, rowV]⟩
  · obtain ⟨l, hl, hp⟩ := list_of (p := fun i x => Q x ∧ ∀ j u, (cs x)[j]? = some u → W.cell? ⟨g, o + i * z + j, none⟩ = some u) n (fun i hi => by
      obtain ⟨us, _, h1, h2⟩ := hcell i hi
      obtain ⟨x, rfl, hq⟩ := hF us h2
      exact ⟨x, hq, h1⟩)
    refine ⟨_, n, c, l, rfl, hn, hc', hl, fun x hx => ?_, inpL_of (I := inpOf W) (by rw [rowV_len hz, hl]) fun _ => ⟨_, rfl, rfl, fun j u hj => ?_⟩⟩
    · obtain ⟨i, hi⟩ := List.getElem?_of_mem hx
      exact (hp i x hi).1
    · obtain ⟨x, h1, h2⟩ := rowV_get hz h0 hj
      have := (hp _ x h1).2 _ u h2
      show W.cell? ((⟨g, o, none⟩ : Addr).add j) = some u
      rw [Addr.add_lit]
      have e : o + j / z * z + j % z = o + j := by rw [Nat.add_assoc, Nat.mul_comm, Nat.div_add_mod]
      rwa [e] at this
end Go.Proofs.Ytibefgdjijmncaa.Sz
end
section
namespace Go.Proofs.Ytibefgdjijmncaa
open Go.ChangeShapes Go.WideShapes Go.ChangeAt Go.RowKit Go.Deep
inductive ShR where
  | nil
  | int (k : IntKind) (r : ShR)
  | bool (r : ShR)
  | str (r : ShR)
  | sl (b : Nat) (e : ShR) (r : ShR)
def ShR.len : ShR → Nat
  | .nil => 0
  | .int _ r | .bool r | .str r | .sl _ _ r => r.len + 1
def ShR.app : ShR → ShR → ShR
  | .nil, b => b
  | .int k r, b => .int k (r.app b)
  | .bool r, b => .bool (r.app b)
  | .str r, b => .str (r.app b)
  | .sl q e r, b => .sl q e (r.app b)
def ShR.rep (a : ShR) : Nat → ShR
  | 0 => .nil
  | n + 1 => a.app (a.rep n)
def SlFitsR (w : World) (v : Value) (sz b : Nat) (F : List Value → Prop) : Prop :=
  SlFits w v sz F ∧ ∀ A n c, v = .slice A n c → n * b ≤ reachBytes
def ShR.fits (w : World) : ShR → List Value → Prop
  | .nil, cs => cs = []
  | .int k r, cs => ∃ n cs', cs = .int k n :: cs' ∧ (Lit.int k n).wf = true ∧ r.fits w cs'
  | .bool r, cs => ∃ b cs', cs = .bool b :: cs' ∧ r.fits w cs'
  | .str r, cs => ∃ s cs', cs = .string s :: cs' ∧ s.size ≤ reachBytes ∧ r.fits w cs'
  | .sl q e r, cs => ∃ v cs', cs = v :: cs' ∧ SlFitsR w v e.len q (e.fits w) ∧ r.fits w cs'
theorem ShR.fits_len {w : World} : ∀ {s : ShR} {cs : List Value}, s.fits w cs → cs.length = s.len
  | .nil, cs, h => by simp only [ShR.fits] at h; simp [h, ShR.len]
  | .int k r, cs, h => by obtain ⟨n, cs', rfl, _, h'⟩ := h; simp [ShR.len, ShR.fits_len h']
  | .bool r, cs, h => by obtain ⟨n, cs', rfl, h'⟩ := h; simp [ShR.len, ShR.fits_len h']
  | .str r, cs, h => by obtain ⟨n, cs', rfl, _, h'⟩ := h; simp [ShR.len, ShR.fits_len h']
  | .sl q e r, cs, h => by obtain ⟨n, cs', rfl, _, h'⟩ := h; simp [ShR.len, ShR.fits_len h']
theorem ShR.fits_app {w : World} {b : ShR} {ds : List Value} (hb : b.fits w ds) : ∀ {a : ShR} {cs : List Value}, a.fits w cs → (a.app b).fits w (cs ++ ds)
  | .nil, cs, h => by simp only [ShR.fits] at h; subst h; simpa [ShR.app] using hb
  | .int k r, cs, h => by obtain ⟨n, cs', rfl, h1, h'⟩ := h; exact ⟨n, cs' ++ ds, rfl, h1, ShR.fits_app hb h'⟩
  | .bool r, cs, h => by obtain ⟨n, cs', rfl, h'⟩ := h; exact ⟨n, cs' ++ ds, rfl, ShR.fits_app hb h'⟩
  | .str r, cs, h => by obtain ⟨n, cs', rfl, h1, h'⟩ := h; exact ⟨n, cs' ++ ds, rfl, h1, ShR.fits_app hb h'⟩
  | .sl q e r, cs, h => by obtain ⟨n, cs', rfl, h1, h'⟩ := h; exact ⟨n, cs' ++ ds, rfl, h1, ShR.fits_app hb h'⟩
theorem ShR.app_len : ∀ {a b : ShR}, (a.app b).len = a.len + b.len
  | .nil, b => by simp [ShR.app, ShR.len]
  | .int k r, b => by simp [ShR.app, ShR.len, ShR.app_len (a := r)]; omega
  | .bool r, b => by simp [ShR.app, ShR.len, ShR.app_len (a := r)]; omega
  | .str r, b => by simp [ShR.app, ShR.len, ShR.app_len (a := r)]; omega
  | .sl q e r, b => by simp [ShR.app, ShR.len, ShR.app_len (a := r)]; omega
section
variable (P : Program)
def shFieldsR (one : TypeId → Option ShR) : Nat → List Field → Option ShR
  | _, [] => some .nil
  | off, f :: fs => (one f.type).bind fun a => if f.offset = off ∧ P.cellsOf f.type = a.len then (shFieldsR one (off + a.len) fs).map (a.app ·) else none
def shOfR : Nat → TypeId → Option ShR
  | 0, _ => none
  | n + 1, t => match P.underlying t with
    | some .bool => some (.bool .nil)
    | some (.int k) => some (.int k .nil)
    | some .string => some (.str .nil)
    | some (.slice e) => (shOfR n e).bind fun a => if P.cellsOf e = a.len then some (.sl (P.bytesOf e) a .nil) else none
    | some (.struct fs) => (shFieldsR P (shOfR n) 0 fs.toList).bind fun a => if P.cellsOf t = a.len then some a else none
    | some (.array k e) => (shOfR n e).bind fun a => if P.cellsOf e = a.len ∧ P.cellsOf t = k * a.len then some (a.rep k) else none
    | _ => none
end
section
variable {P : Program} {H : Type} {enc : TypeId × Value → H} {w : World} {base : Nat} {spare : Nat → Bool} {held : Bool}
theorem weightsAll_mem {e : TypeId} : ∀ {l : List (DataW H)} {d : DataW H}, d ∈ l → ∀ {q : Nat}, q ∈ d.weights P e → q ∈ DataW.weightsAll P e l
  | [], d, h, q, hq => by simp at h
  | x :: l, d, h, q, hq => by
    simp only [DataW.weightsAll, List.mem_append]
    rcases List.mem_cons.1 h with rfl | h
    · exact .inl hq
    · exact .inr (weightsAll_mem h hq)
theorem fieldsR_fit {one : TypeId → Option ShR} {m : Nat} {cs : List Value} (ih : ∀ t sh ds x, one t = some sh → DataW.trod enc P w base spare held m t ds = some x → (∀ q ∈ x.1.weights P t, q ≤ reachBytes) → sh.fits w ds) :
    ∀ (fs : List Field) (off : Nat) (sh : ShR), shFieldsR P one off fs = some sh → (∀ f ∈ fs, ∃ y, DataW.trod enc P w base spare held m f.type ((cs.drop f.offset).take (P.cellsOf f.type)) = some y ∧ (∀ q ∈ y.1.weights P f.type, q ≤ reachBytes)) →
      cs.length = off + sh.len → sh.fits w (cs.drop off)
  | [], off, sh, h, _, hl => by
    simp only [shFieldsR, Option.some.injEq] at h
    subst h
    simp only [ShR.len, Nat.add_zero] at hl
    show cs.drop off = []
    rw [List.drop_eq_nil_iff]; omega
  | f :: fs, off, sh, h, hf, hl => by
    simp only [shFieldsR, Option.bind_eq_some_iff] at h
    obtain ⟨a, ha, h⟩ := h
    split at h
    · rename_i hc
      obtain ⟨ho, hk⟩ := hc
      simp only [Option.map_eq_some_iff] at h
      obtain ⟨b, hb, rfl⟩ := h
      rw [ShR.app_len] at hl
      obtain ⟨y, hy, hyw⟩ := hf f (by simp)
      rw [ho, hk] at hy
      have h1 := ih _ _ _ _ ha hy hyw
      have h2 := fieldsR_fit ih fs (off + a.len) b hb (fun g hg => hf g (by simp [hg])) (by omega)
      have e : cs.drop off = (cs.drop off).take a.len ++ cs.drop (off + a.len) := by
        rw [← List.drop_drop, List.take_append_drop]
      rw [e]
      exact ShR.fits_app h2 h1
    · cases h
theorem arrayR_fit {m : Nat} {cs : List Value} {e : TypeId} {a : ShR} (ih : ∀ ds x, DataW.trod enc P w base spare held m e ds = some x → (∀ q ∈ x.1.weights P e, q ≤ reachBytes) → a.fits w ds) :
    ∀ (k i : Nat), (∀ j, i ≤ j → j < i + k → ∃ y, DataW.trod enc P w base spare held m e ((cs.drop (j * a.len)).take a.len) = some y ∧ (∀ q ∈ y.1.weights P e, q ≤ reachBytes)) → cs.length = (i + k) * a.len → (a.rep k).fits w (cs.drop (i * a.len))
  | 0, i, _, hl => by
    show cs.drop _ = []
    rw [List.drop_eq_nil_iff]; simp at hl; omega
  | k + 1, i, hf, hl => by
    obtain ⟨y, hy, hyw⟩ := hf i (Nat.le_refl _) (by omega)
    have h1 := ih _ _ hy hyw
    have h2 := arrayR_fit ih k (i + 1) (fun j h1 h2 => hf j (by omega) (by omega)) (by rw [hl]; congr 1; omega)
    have e : cs.drop (i * a.len) = (cs.drop (i * a.len)).take a.len ++ cs.drop ((i + 1) * a.len) := by
      rw [Nat.add_mul, Nat.one_mul, ← List.drop_drop, List.take_append_drop]
    rw [e]
    exact ShR.fits_app h2 h1
theorem fitsR_of_trod : ∀ (n : Nat) (t : TypeId) (sh : ShR) (fuel : Nat) (cs : List Value) (x : DataW H × List MemPlace), shOfR P n t = some sh → DataW.trod enc P w base spare held fuel t cs = some x → (∀ q ∈ x.1.weights P t, q ≤ reachBytes) → sh.fits w cs
  | 0, _, _, _, _, _, h, _, _ => by simp [shOfR] at h
  | n + 1, t, sh, fuel, cs, x, h, ht, hz => by
    unfold shOfR at h
    split at h
    · rename_i hu
      obtain ⟨b, rfl, _⟩ := DataW.trod_bool hu ht
      simp only [Option.some.injEq] at h; subst h
      exact ⟨b, [], rfl, rfl⟩
    · rename_i k hu
      obtain ⟨z, rfl, _, hw⟩ := DataW.trod_int hu ht
      simp only [Option.some.injEq] at h; subst h
      exact ⟨z, [], rfl, hw, rfl⟩
    · rename_i hu
      obtain ⟨z, rfl, rfl, hw⟩ := DataW.trod_string hu ht
      simp only [Option.some.injEq] at h; subst h
      have hz1 := hz z.data.toList.length (by simp [DataW.weights])
      exact ⟨z, [], rfl, by rw [Array.length_toList] at hz1; exact hz1, rfl⟩
    · rename_i e hu
      simp only [Option.bind_eq_some_iff] at h
      obtain ⟨a, ha, h⟩ := h
      split at h
      · rename_i hc
        simp only [Option.some.injEq] at h; subst h
        rcases open_slice hu ht with ⟨rfl, _⟩ | ⟨ad, len, cap, m, f, D, Pl, rfl, _, hl, hm, hmm, rfl, hi⟩
        · exact ⟨_, [], rfl, ⟨⟨Option.none, 0, 0, rfl, Nat.le_refl _, Nat.zero_le _, fun _ => rfl, fun a ha => by cases ha⟩, fun A n c hv => by cases hv; omega⟩, rfl⟩
        · have hzl : len * P.bytesOf e ≤ reachBytes := by
            have h1 := hz ((((List.range len).map D).length + ((List.range (m - len)).map fun j => D (len + j)).length) * P.bytesOf e) (by simp [DataW.weights, hu])
            refine Nat.le_trans (Nat.mul_le_mul_right _ ?_) h1
            simp
          refine ⟨_, [], rfl, ⟨⟨some ad, len, cap, rfl, hl, hm, ?_, fun a' ha' i hilt => ?_⟩, fun A n c hv => by cases hv; exact hzl⟩, rfl⟩
          · intro h; cases h
          simp only [Option.some.injEq] at ha'
          subst ha'
          have him : i < m := by rw [hmm]; split <;> omega
          obtain ⟨cs', hc', ht'⟩ := hi i him
          obtain ⟨_, hlen, hget⟩ := World.cells?_some hc'
          rw [hc] at hlen hget
          refine ⟨cs', hlen, fun j u hj => ?_, fitsR_of_trod n e a f cs' _ ha ht' fun q hq => hz q ?_⟩
          rotate_left
          · simp only [DataW.weights, hu, List.mem_cons, List.mem_append]
            exact .inr (.inl (weightsAll_mem (List.mem_map.2 ⟨i, by simpa using hilt, rfl⟩) hq))
          have hjl : j < cs'.length := (List.getElem?_eq_some_iff.1 hj).1
          rw [hget j (by omega)]; exact hj
      · cases h
    · rename_i fs hu
      simp only [Option.bind_eq_some_iff] at h
      obtain ⟨a, ha, h⟩ := h
      split at h
      · rename_i hc
        simp only [Option.some.injEq] at h; subst h
        obtain ⟨xs, m, _, rfl, hl, hxl, hf⟩ := DataW.trod_struct hu ht
        have := fieldsR_fit (cs := cs) (m := m) (enc := enc) (base := base) (spare := spare) (held := held) (w := w) (fun t sh ds x h1 h2 h3 => fitsR_of_trod n t sh m ds x h1 h2 h3) fs.toList 0 a ha (fun f hf' => ?_) (by omega)
        · simpa using this
        · obtain ⟨i, hi, hfi⟩ := List.getElem_of_mem hf'
          have hfi' : fs[i]? = some f := by rw [← hfi, Array.getElem_toList, Array.getElem?_eq_getElem]
          have h3 := hf i f hfi'
          have hlt : i < xs.length := by rw [hxl]; simpa using hi
          refine ⟨xs[i], by rw [h3]; exact List.getElem?_eq_getElem hlt, fun q hq => hz q ?_⟩
          simp only [DataW.weights, hu]
          exact DataW.weights_mem_each (j := i) (t := f.type) (d := xs[i].1) (by simp [hfi']) (by simp [hlt]) q hq
      · cases h
    · rename_i k e hu
      simp only [Option.bind_eq_some_iff] at h
      obtain ⟨a, ha, h⟩ := h
      split at h
      · rename_i hc
        obtain ⟨hc1, hc2⟩ := hc
        simp only [Option.some.injEq] at h; subst h
        obtain ⟨xs, m, _, rfl, hl, hxl, hf⟩ := DataW.trod_array hu ht
        rw [hc1] at hf
        have := arrayR_fit (cs := cs) (m := m) (enc := enc) (base := base) (spare := spare) (held := held) (w := w) (P := P) (fun ds x h2 h3 => fitsR_of_trod n e a m ds x ha h2 h3) k 0 (fun j _ hj => ?_) (by rw [hl, hc2, Nat.zero_add])
        · simpa using this
        · have hlt : j < xs.length := by omega
          refine ⟨xs[j], by rw [hf j (by omega)]; exact List.getElem?_eq_getElem hlt, fun q hq => hz q ?_⟩
          simp only [DataW.weights, hu]
          exact weightsAll_mem (List.mem_map.2 ⟨xs[j], List.getElem_mem _, rfl⟩) hq
      · cases h
    · cases h
theorem openR_any {t : TypeId} {v : Value} {d : DataW H} {p : List MemPlace} {n : Nat} {sh : ShR} (hs : shOfR P n t = some sh) (h : DataW.Trod enc P w base spare held t v d p) (hz : ∀ q ∈ d.weights P t, q ≤ reachBytes) : sh.fits w v.cells.toList := by
  obtain ⟨fuel, hf⟩ := h
  exact fitsR_of_trod n t sh fuel _ _ hs hf hz
theorem openR_aggs {t : TypeId} {v : Value} {d : DataW H} {p : List MemPlace} {n b : Nat} {r : Reach} {sh : ShR} (hu : isAggT P t = true) (hs : shOfR P n t = some sh) (hv : Value.okWide P w r b t v) (h : DataW.Trod enc P w base spare held t v d p) (hz : ∀ q ∈ d.weights P t, q ≤ reachBytes) :
    ∃ cs : List Value, v = .agg cs.toArray ∧ sh.fits w cs := by
  have hf := openR_any hs h hz
  unfold Value.okWide at hv
  unfold isAggT at hu
  split at hv
  · obtain ⟨cs, rfl, _⟩ := hv
    exact ⟨cs.toList, by simp, hf⟩
  · obtain ⟨cs, rfl, _⟩ := hv
    exact ⟨cs.toList, by simp, hf⟩
  · split at hu <;> simp_all
theorem openR_sls {t e : TypeId} {v : Value} {d : DataW H} {p : List MemPlace} {n b : Nat} {r : Reach} {a : ShR} {y : Nat} (hu : P.underlying t = some (.slice e)) (hs : shOfR P n t = some (.sl y a .nil)) (hv : Value.okWide P w r b t v) (h : DataW.Trod enc P w base spare held t v d p) (hz : ∀ q ∈ d.weights P t, q ≤ reachBytes) :
    SlFitsR w v a.len y (a.fits w) := by
  have hf := openR_any hs h hz
  obtain ⟨A, l, c, rfl⟩ := okWide_slice hu hv
  obtain ⟨x, cs', he, hx, _⟩ := hf
  simp only [Value.cells, List.cons.injEq] at he
  rw [he.1]; exact hx
end
end Go.Proofs.Ytibefgdjijmncaa
end
