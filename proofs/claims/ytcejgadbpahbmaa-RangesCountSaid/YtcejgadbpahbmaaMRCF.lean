/- Walks and plain facts for the law RangesCount, part MRCF. No condition. -/
import Derived.Test.YtcejgadbpahbmaaMRCE
import Derived.Test.YtcejgadbpahbmaaMRCA
import Derived.ProofKit
import Derived.OpenShut
import Derived.Deep.Slices
import Derived.Test.YtcejgadbpahbmaaMRCC
import Derived.SizedLaws
set_option linter.unusedVariables false
set_option linter.unusedSimpArgs false
section
namespace Go.Proofs.Ytcejgadbpahbmaa
open Go.RowKit Sz
set_option maxHeartbeats 16000000
set_option maxRecDepth 20000
namespace Rc
-- almshouse/almshouseref51.Mix (3 parameters)
def x21 : XC := (.seq (.tree (.seq ⟨some 6, none, (.ofA (.mv (.cst (.v (.slice none 0 0)))))⟩
 .done))
 (.seq (.tree (.seq ⟨some 7, none, (.ofA (.mv (.cst (.v (.slice none 0 0)))))⟩
 .done))
 (.seq (.tree (.seq ⟨some 13, none, (.ofA (.mv (.tmp 0)))⟩
 (.seq ⟨some 14, none, (.ofA (.mv (.tmp 1)))⟩
 (.seq ⟨some 15, none, (.buildSl 1 2 [(.v (.slice none 0 0)), (.v (.slice none 0 0))] [(0, 1, (.tmp 13)), (1, 1, (.tmp 14))])⟩
 (.seq ⟨some 16, none, (.call (.cst (.fn 56 [])) [(.tmp 15)])⟩
 (.seq ⟨some 8, none, (.ofA (.mv (.tmp 16)))⟩
 .done))))))
 (.seq (.seq (.tree (.seq ⟨some 9, none, (.ofA (.mv (.cst (.v (.int .i64 0)))))⟩
 .done))
 (.block 0 (.loop (.seq (.seq (.tree (.seq ⟨some 17, none, (.ofA (.mv (.tmp 9)))⟩
 (.seq ⟨some 18, none, (.ofA (.bin .add (.tmp 17) (.cst (.v (.int .i64 1)))))⟩
 (.seq ⟨some 19, none, (.ofA (.mv (.tmp 8)))⟩
 (.seq ⟨some 20, none, (.ofA (.len (.tmp 19)))⟩
 (.seq ⟨some 21, none, (.ofA (.bin .lss (.tmp 18) (.tmp 20)))⟩
 .done))))))
 (.cond (.tmp 21)
 .skip
 (.exit 0)))
 (.seq (.block 1 (.seq (.tree (.take ⟨some 24, none, (.ofA (.mv (.tmp 0)))⟩
 (.take ⟨some 25, none, (.ofA (.mv (.tmp 8)))⟩
 (.take ⟨some 26, none, (.ofA (.mv (.tmp 9)))⟩
 (.take ⟨some 27, none, (.ofA (.isl 1 (.tmp 25) (.tmp 26)))⟩
 (.take ⟨some 28, none, (.ofA (.load none (.tmp 27)))⟩
 (.take ⟨some 30, none, (.ofA (.mv (.tmp 1)))⟩
 (.take ⟨some 31, none, (.ofA (.mv (.tmp 8)))⟩
 (.take ⟨some 32, none, (.ofA (.mv (.tmp 9)))⟩
 (.take ⟨some 33, none, (.ofA (.isl 1 (.tmp 31) (.tmp 32)))⟩
 (.take ⟨some 34, none, (.ofA (.load none (.tmp 33)))⟩
 (.act true [(⟨some 29, none, (.call (.cst (.fn 57 [])) [(.tmp 24), (.tmp 28)])⟩,
 (.act true [(⟨some 35, none, (.call (.cst (.fn 57 [])) [(.tmp 30), (.tmp 34)])⟩,
 (.take ⟨some 10, none, (.ofA (.mv (.tmp 29)))⟩
 (.take ⟨some 11, none, (.ofA (.mv (.tmp 35)))⟩
 .done)))]))]))))))))))))
 (.seq (.tree (.seq ⟨some 36, none, (.ofA (.mv (.tmp 10)))⟩
 (.seq ⟨some 37, none, (.ofA (.mv (.tmp 36)))⟩
 (.seq ⟨some 38, some (37, false), (.ofA (.mv (.tmp 11)))⟩
 (.seq ⟨some 39, none, (.ofA (.pick (.tmp 37) (.cst (.v (.bool true))) (.tmp 38)))⟩
 (.seq ⟨some 12, none, (.ofA (.mv (.tmp 39)))⟩
 .done))))))
 (.seq (.seq (.tree (.seq ⟨some 40, none, (.ofA (.mv (.tmp 2)))⟩
 (.seq ⟨some 41, none, (.ofA (.bin .eql (.tmp 40) (.cst (.v (.int .i64 1)))))⟩
 .done)))
 (.cond (.tmp 41)
 (.tree (.seq ⟨some 42, none, (.ofA (.mv (.tmp 10)))⟩
 (.seq ⟨some 43, none, (.ofA (.mv (.tmp 42)))⟩
 (.seq ⟨some 44, some (43, true), (.ofA (.mv (.tmp 11)))⟩
 (.seq ⟨some 45, some (43, true), (.ofA (.un .not (.tmp 44)))⟩
 (.seq ⟨some 46, none, (.ofA (.pick (.tmp 43) (.tmp 45) (.cst (.v (.bool false)))))⟩
 (.seq ⟨some 12, none, (.ofA (.mv (.tmp 46)))⟩
 .done)))))))
 .skip))
 (.seq (.seq (.tree (.seq ⟨some 47, none, (.ofA (.mv (.tmp 2)))⟩
 (.seq ⟨some 48, none, (.ofA (.bin .eql (.tmp 47) (.cst (.v (.int .i64 2)))))⟩
 .done)))
 (.cond (.tmp 48)
 (.tree (.seq ⟨some 49, none, (.ofA (.mv (.tmp 10)))⟩
 (.seq ⟨some 50, none, (.ofA (.mv (.tmp 49)))⟩
 (.seq ⟨some 51, some (50, true), (.ofA (.mv (.tmp 11)))⟩
 (.seq ⟨some 52, none, (.ofA (.pick (.tmp 50) (.tmp 51) (.cst (.v (.bool false)))))⟩
 (.seq ⟨some 12, none, (.ofA (.mv (.tmp 52)))⟩
 .done))))))
 .skip))
 (.seq (.seq (.tree (.seq ⟨some 53, none, (.ofA (.mv (.tmp 12)))⟩
 (.seq ⟨some 54, none, (.ofA (.un .not (.tmp 53)))⟩
 .done)))
 (.cond (.tmp 54)
 (.exit 1)
 .skip))
 (.seq (.tree (.take ⟨some 55, none, (.ofA (.mv (.tmp 7)))⟩
 (.take ⟨some 56, none, (.ofA (.len (.tmp 55)))⟩
 (.take ⟨some 57, none, (.ofA (.bin .gtr (.tmp 56) (.cst (.v (.int .i64 0)))))⟩
 (.take ⟨some 58, none, (.ofA (.mv (.tmp 57)))⟩
 (.take ⟨some 59, some (58, true), (.ofA (.mv (.tmp 7)))⟩
 (.take ⟨some 60, some (58, true), (.ofA (.mv (.tmp 7)))⟩
 (.take ⟨some 61, some (58, true), (.ofA (.len (.tmp 60)))⟩
 (.take ⟨some 62, some (58, true), (.ofA (.bin .sub (.tmp 61) (.cst (.v (.int .i64 1)))))⟩
 (.take ⟨some 63, some (58, true), (.ofA (.isl 2 (.tmp 59) (.tmp 62)))⟩
 (.take ⟨some 64, some (58, true), (.ofA (.faddr 1 (.tmp 63)))⟩
 (.take ⟨some 65, some (58, true), (.ofA (.load none (.tmp 64)))⟩
 (.take ⟨some 66, some (58, true), (.ofA (.mv (.tmp 8)))⟩
 (.take ⟨some 67, some (58, true), (.ofA (.mv (.tmp 9)))⟩
 (.take ⟨some 68, some (58, true), (.ofA (.isl 1 (.tmp 66) (.tmp 67)))⟩
 (.take ⟨some 69, some (58, true), (.ofA (.load none (.tmp 68)))⟩
 (.take ⟨some 70, some (58, true), (.ofA (.bin .eql (.tmp 65) (.tmp 69)))⟩
 (.take ⟨some 71, none, (.ofA (.pick (.tmp 58) (.tmp 70) (.cst (.v (.bool false)))))⟩
 .done))))))))))))))))))
 (.cond (.tmp 71)
 (.tree (.seq ⟨some 72, none, (.ofA (.mv (.tmp 7)))⟩
 (.seq ⟨some 73, none, (.ofA (.mv (.tmp 7)))⟩
 (.seq ⟨some 74, none, (.ofA (.len (.tmp 73)))⟩
 (.seq ⟨some 75, none, (.ofA (.bin .sub (.tmp 74) (.cst (.v (.int .i64 1)))))⟩
 (.seq ⟨some 76, none, (.ofA (.mv (.tmp 8)))⟩
 (.seq ⟨some 77, none, (.ofA (.mv (.tmp 9)))⟩
 (.seq ⟨some 78, none, (.ofA (.bin .add (.tmp 77) (.cst (.v (.int .i64 1)))))⟩
 (.seq ⟨some 79, none, (.ofA (.isl 1 (.tmp 76) (.tmp 78)))⟩
 (.seq ⟨some 80, none, (.ofA (.load none (.tmp 79)))⟩
 (.seq ⟨some 81, none, (.ofA (.isl 2 (.tmp 72) (.tmp 75)))⟩
 (.seq ⟨some 82, none, (.ofA (.faddr 1 (.tmp 81)))⟩
 (.seq ⟨none, none, (.store 1 (.tmp 82) (.tmp 80))⟩
 .done)))))))))))))
 (.tree (.take ⟨some 83, none, (.ofA (.mv (.tmp 7)))⟩
 (.take ⟨some 84, none, (.ofA (.mv (.tmp 8)))⟩
 (.take ⟨some 85, none, (.ofA (.mv (.tmp 9)))⟩
 (.take ⟨some 86, none, (.ofA (.isl 1 (.tmp 84) (.tmp 85)))⟩
 (.take ⟨some 87, none, (.ofA (.load none (.tmp 86)))⟩
 (.take ⟨some 88, none, (.ofA (.mv (.tmp 8)))⟩
 (.take ⟨some 89, none, (.ofA (.mv (.tmp 9)))⟩
 (.take ⟨some 90, none, (.ofA (.bin .add (.tmp 89) (.cst (.v (.int .i64 1)))))⟩
 (.take ⟨some 91, none, (.ofA (.isl 1 (.tmp 88) (.tmp 90)))⟩
 (.take ⟨some 92, none, (.ofA (.load none (.tmp 91)))⟩
 (.alt [true] [(⟨some 93, none, (.build [(.v (.int .i64 0)), (.v (.int .i64 0))] [(0, 1, (.tmp 87)), (1, 1, (.tmp 92))])⟩,
 (.alt [true] [(⟨some 94, none, (.buildSl 2 1 [(.v (.int .i64 0)), (.v (.int .i64 0))] [(0, 2, (.tmp 93))])⟩,
 (.alt [false] [(⟨some 95, none, (.app 2 16 (.tmp 83) (.tmp 94))⟩,
 (.take ⟨some 7, none, (.ofA (.mv (.tmp 95)))⟩
 .done))]))]))]))))))))))))))))))))
 (.tree (.seq ⟨some 22, none, (.ofA (.mv (.tmp 9)))⟩
 (.seq ⟨some 23, none, (.ofA (.bin .add (.tmp 22) (.cst (.v (.int .i64 1)))))⟩
 (.seq ⟨some 9, none, (.ofA (.mv (.tmp 23)))⟩
 .done)))))))))
 (.seq (.tree (.seq ⟨some 96, none, (.ofA (.mv (.tmp 7)))⟩
 (.seq ⟨some 6, none, (.ofA (.mv (.tmp 96)))⟩
 .done)))
 .ret)))))
def r21 : List XR := [.tmp 6]
theorem fn21 : FnX Try.prog 21 [92] 97 x21 r21 := ⟨_, Try.func21, by kernel_rfl, by kernel_rfl, by kernel_rfl, by kernel_rfl⟩
def mixA (a : List Ra.Rg) : List Ra.Rg := Ra.mixN a (Ra.edN a) ((Ra.edN a).length - 1)
def c21 [Inp] : Trans := fun args m k => ∃ (s : SV) (a : List Ra.Rg), args = [s, .v (.slice none 0 0), .v (.int .i64 0)] ∧ rdG m s = some a ∧ a.length ≤ 1000 ∧ k (rS m.length 2 (mixA a).length) (m ++ rM (vL gV (mixA a)))
def G21 [Inp] : List CEntry := [⟨56, true, c56⟩, ⟨57, true, c57⟩]
theorem s21 [Inp] : GOk Try.prog G21 := GOk.cons c56_ok (GOk.cons c57_ok (g0 _))
theorem mixS_no {X : List Ra.Rg} {x y : Int} : Ra.mixS X x y false = X := by simp [Ra.mixS]
theorem mixS_nil {x y : Int} : Ra.mixS [] x y true = [⟨x, y⟩] := by simp [Ra.mixS, Ra.endAt]
theorem mixS_app {D : List Ra.Rg} {r : Ra.Rg} {x y : Int} : Ra.mixS (D ++ [r]) x y true = if r.to = x then D ++ [⟨r.fr, y⟩] else D ++ [r] ++ [⟨x, y⟩] := by
  unfold Ra.mixS Ra.endAt
  rw [Ra.last_app, if_pos rfl, Ra.setTo_app]
  simp only [beq_iff_eq]
theorem a57 [Inp] {s : SV} {l : List Ra.Rg} {m : Mem} {n : Int} {k : SV → Mem → Prop} (h : rdG m s = some l) (hl : l.length ≤ 100000) : c57 [s, .v (.int .i64 n)] m k = k (.v (.bool (Ra.cov l n))) m := by
  unfold c57
  refine propext ⟨?_, fun hk => ⟨s, l, n, rfl, h, hl, hk⟩⟩
  rintro ⟨s', l', n', e, h', _, hk⟩
  injection e with e1 e2
  injection e2 with e2 _
  injection e2 with e2
  injection e2 with _ e2
  subst e1; subst e2
  rw [h] at h'
  injection h' with h'
  subst h'
  exact hk
theorem g_nil {L : List Ra.Rg} (h : L = []) : rM (vL gV L) = [] ∧ ∀ j, rS j 2 L.length = .v (.slice none 0 0) := by subst h; exact ⟨rfl, fun _ => rfl⟩
theorem g_ne {L : List Ra.Rg} (h : L ≠ []) : rM (vL gV L) = [⟨true, vL gV L⟩] ∧ ∀ j, rS j 2 L.length = .row j 0 L.length 2 := ⟨rM_ne (vL_ne gV_len (by omega) h), fun _ => rS_ne fun e => h (List.length_eq_zero_iff.1 e)⟩
theorem c21_ok [I : Inp] : Contract Try.prog 21 true c21 := by
  refine .readF3 fn21 (G := fun J => @G21 J) (fun J => @s21 J) _ fun args m k h => ?_
  obtain ⟨s, a, rfl, ha, hmax, hk⟩ := h
  refine ⟨by simp, fun J hJ us hus => ?_⟩
  obtain ⟨u, t1, rfl, hu1, u2, t2, rfl, hu2, u3, t3, rfl, hu3, rfl⟩ := hus
  obtain rfl := hu2.1 _ rfl
  obtain rfl := hu3.1 _ rfl
  obtain ⟨p, c, rfl, hin⟩ := rdG_knows ha hu1
  rw [List.map_cons, List.map_cons, List.map_cons, List.map_nil, of_sl, of_sl, of_int]
  simp (maxSteps := 2000000) -implicitDefEqProofs only [↓x21, ↓r21, ↓G21, ↓c56, s_alt, s_alt20, s_alt2t, s_alt2f, ↓s_loopi, ↓v_pq, ↓PRE, POST, CORE, Nat.reduceDiv, Nat.reduceMod, Int.reduceLT, Int.reduceLE, Int.reduceToNat, Int.reduceAdd, ↓reduceIte, Nat.reduceEqDiff, Nat.reduceAdd, Nat.reduceMul, Nat.reduceSub, Nat.reduceLeDiff, Nat.reduceLT, reduceCtorEq, if_true, eq_self, forall_const, implies_true]
  refine ⟨_, a, p, c, rfl, rfl, hin, hmax, ?_⟩
  unfold mixA at hk
  have hEl := (Ra.edN_all a).2.1
  by_cases hE : Ra.edN a = []
  · obtain ⟨e1, e2⟩ := nil_facts hE
    rw [e1, e2]
    refine TXi_of (TX_count (@s21 J) 0 (fun i => [(7, .v (.slice none 0 0)), (8, .v (.slice none 0 0)), (9, .v (.int .i64 0))]) (fun i => []) (fun _ => True) trivial ?_ ?_ ?_)
    · exact (by refine ⟨[], by simp [NdL, NdA, oO_cells, oO_own, iL_nil], ?_, ?_, keep0 hJ⟩ <;> simp only [FitM, FitE, ObLe, LeL, Le, List.cons_append, List.nil_append] <;> (try (simp (maxSteps := 2000000) -implicitDefEqProofs only [s_alt, s_alt20, s_alt2t, s_alt2f, ↓s_loopi, ↓v_pq, ↓PRE, POST, CORE, Nat.reduceDiv, Nat.reduceMod, Int.reduceLT, Int.reduceLE, Int.reduceToNat, Int.reduceAdd, ↓reduceIte, Nat.reduceEqDiff, Nat.reduceAdd, Nat.reduceMul, Nat.reduceSub, Nat.reduceLeDiff, Nat.reduceLT, reduceCtorEq, if_true, eq_self, forall_const, implies_true])) <;> (try simp only [Sz.Le, Sz.LeL, List.getElem?_cons_zero, List.getElem?_cons_succ]) <;> (try simp))
    · intro i hi; omega
    · intro _
      have w : IntKind.i64.wrap ((0 : Int) + 1) = 1 := rfl
      simp (maxSteps := 2000000) -implicitDefEqProofs only [w, s_alt, s_alt20, s_alt2t, s_alt2f, ↓s_loopi, ↓v_pq, ↓PRE, POST, CORE, Nat.reduceDiv, Nat.reduceMod, Int.reduceLT, Int.reduceLE, Int.reduceToNat, Int.reduceAdd, ↓reduceIte, Nat.reduceEqDiff, Nat.reduceAdd, Nat.reduceMul, Nat.reduceSub, Nat.reduceLeDiff, Nat.reduceLT, reduceCtorEq, if_true, eq_self, forall_const, implies_true]
      rw [hE] at hk
      exact fin_row gV_len (by omega) [] _ _ 0 (fun _ => rfl) (fun h => (h rfl).elim) hk
  · obtain ⟨e1, e2⟩ := ne_facts hE
    rw [e1, e2]
    have hEp : 0 < (Ra.edN a).length := List.length_pos_iff.2 hE
    obtain ⟨E, hEe⟩ : ∃ E, E = Ra.edN a := ⟨_, rfl⟩
    rw [← hEe] at hk hEl hEp ⊢
    clear e1 e2 hE
    obtain ⟨N, hN⟩ : ∃ N, N = E.length - 1 := ⟨_, rfl⟩
    rw [← hN] at hk
    refine TXi_of (TX_count (@s21 J) N (fun i => [(0, .v (.slice p a.length c)), (1, .v (.slice none 0 0)), (2, .v (.int .i64 0)), (7, rS 1 2 (Ra.mixN a E i).length), (8, .row 0 0 E.length 1), (9, .v (.int .i64 (i : Int)))]) (fun i => ⟨true, iL E⟩ :: rM (vL gV (Ra.mixN a E i))) (fun _ => True) trivial ?_ ?_ ?_)
    · have e0 : Ra.mixN a E 0 = [] := rfl
      rw [e0, List.length_nil, rS_0, vL_nil, rM_0]
      exact (by refine ⟨[1], by simp [NdL, NdA, oO_cells, oO_own, iL_nil], ?_, ?_, keep0 hJ⟩ <;> simp only [FitM, FitE, ObLe, LeL, Le, List.cons_append, List.nil_append] <;> (try (simp (maxSteps := 2000000) -implicitDefEqProofs only [iL_fold, iL_over, iL_all, iL_get, iL_len, iL_take, iL_drop, iL_one, iL_plain, iL_le, List.length_set, s_alt, s_alt20, s_alt2t, s_alt2f, ↓s_loopi, ↓v_pq, ↓PRE, POST, CORE, Nat.reduceDiv, Nat.reduceMod, Int.reduceLT, Int.reduceLE, Int.reduceToNat, Int.reduceAdd, ↓reduceIte, Nat.reduceEqDiff, Nat.reduceAdd, Nat.reduceMul, Nat.reduceSub, Nat.reduceLeDiff, Nat.reduceLT, reduceCtorEq, if_true, eq_self, forall_const, implies_true])) <;> (try simp only [Sz.Le, Sz.LeL, List.getElem?_cons_zero, List.getElem?_cons_succ]) <;> (try simp))
    · intro i hi _
      obtain ⟨x, hx⟩ : ∃ x, E[i]? = some x := ⟨_, List.getElem?_eq_getElem (by omega)⟩
      obtain ⟨y, hy⟩ : ∃ y, E[i + 1]? = some y := ⟨_, List.getElem?_eq_getElem (by omega)⟩
      have hxc : (iL E)[i]? = some (.v (.int .i64 x)) := by simp [iL, hx]
      have hyc : (iL E)[i + 1]? = some (.v (.int .i64 y)) := by simp [iL, hy]
      have i0 : (0 : Int) ≤ (i : Int) := by omega
      have i1 : (i : Int) + 1 < (E.length : Int) := by omega
      have i2 : (i : Int) < (E.length : Int) := by omega
      have i3 : (0 : Int) ≤ (i : Int) + 1 := by omega
      have i4 : ((i : Int) + 1).toNat = i + 1 := by omega
      have w1 : IntKind.i64.wrap ((i : Int) + 1) = (i : Int) + 1 := Sz.w_64 (by omega) (by omega)
      have hol := Ra.mixN_len a E i
      rw [Ra.mixN_succ hx hy]
      generalize Ra.mixN a E i = X at hol ⊢
      have A1 : ∀ (m : Mem) (n : Int) (k : SV → Mem → Prop), c57 [.v (.slice p a.length c), .v (.int .i64 n)] m k = k (.v (.bool (Ra.cov a n))) m := fun m n k => a57 (rdG_v hin) (by omega)
      have A2 : ∀ (m : Mem) (n : Int) (k : SV → Mem → Prop), c57 [.v (.slice none 0 0), .v (.int .i64 n)] m k = k (.v (.bool false)) m := fun m n k => a57 rdG_nil (by simp)
      have hnl1 : ∀ g, LeL g (iL E) (iL E) = True := fun g => iL_le
      have hvl1 : ∀ (g : List Nat) (L : List Ra.Rg), LeL g (vL gV L) (vL gV L) = True := fun g L => vL_le
      have n1 : ((0 : Int) == 1) = false := rfl
      have n2 : ((0 : Int) == 2) = false := rfl
      cases hcov : Ra.cov a x with
      | false =>
        rw [mixS_no]
        by_cases hX : X = []
        · obtain ⟨e1, e2⟩ := g_nil hX
          rw [e1, e2]
          simp (maxSteps := 2000000) -implicitDefEqProofs only [i0, i1, i2, w1, hxc, ↓G21, ↓A1, ↓A2, hcov, n1, n2, s_alt, s_alt20, s_alt2t, s_alt2f, ↓s_loopi, ↓v_pq, ↓PRE, POST, CORE, Nat.reduceDiv, Nat.reduceMod, Int.reduceLT, Int.reduceLE, Int.reduceToNat, Int.reduceAdd, ↓reduceIte, Nat.reduceEqDiff, Nat.reduceAdd, Nat.reduceMul, Nat.reduceSub, Nat.reduceLeDiff, Nat.reduceLT, reduceCtorEq, if_true, eq_self, forall_const, implies_true]
          exact (by refine ⟨[0], by simp [NdL, NdA, oO_cells, oO_own, iL_nil], ?_, ?_, keep0 hJ⟩ <;> simp only [FitM, FitE, ObLe, LeL, Le, List.cons_append, List.nil_append] <;> (try (simp (maxSteps := 2000000) -implicitDefEqProofs only [hnl1, s_alt, s_alt20, s_alt2t, s_alt2f, ↓s_loopi, ↓v_pq, ↓PRE, POST, CORE, Nat.reduceDiv, Nat.reduceMod, Int.reduceLT, Int.reduceLE, Int.reduceToNat, Int.reduceAdd, ↓reduceIte, Nat.reduceEqDiff, Nat.reduceAdd, Nat.reduceMul, Nat.reduceSub, Nat.reduceLeDiff, Nat.reduceLT, reduceCtorEq, if_true, eq_self, forall_const, implies_true])) <;> (try simp only [Sz.Le, Sz.LeL, List.getElem?_cons_zero, List.getElem?_cons_succ]) <;> (try simp))
        · obtain ⟨e1, e2⟩ := g_ne hX
          rw [e1, e2]
          simp (maxSteps := 2000000) -implicitDefEqProofs only [i0, i1, i2, w1, hxc, ↓G21, ↓A1, ↓A2, hcov, n1, n2, s_alt, s_alt20, s_alt2t, s_alt2f, ↓s_loopi, ↓v_pq, ↓PRE, POST, CORE, Nat.reduceDiv, Nat.reduceMod, Int.reduceLT, Int.reduceLE, Int.reduceToNat, Int.reduceAdd, ↓reduceIte, Nat.reduceEqDiff, Nat.reduceAdd, Nat.reduceMul, Nat.reduceSub, Nat.reduceLeDiff, Nat.reduceLT, reduceCtorEq, if_true, eq_self, forall_const, implies_true]
          exact (by refine ⟨[0, 1], by simp [NdL, NdA, oO_cells, oO_own, iL_nil], ?_, ?_, keep0 hJ⟩ <;> simp only [FitM, FitE, ObLe, LeL, Le, List.cons_append, List.nil_append] <;> (try (simp (maxSteps := 2000000) -implicitDefEqProofs only [hnl1, hvl1, s_alt, s_alt20, s_alt2t, s_alt2f, ↓s_loopi, ↓v_pq, ↓PRE, POST, CORE, Nat.reduceDiv, Nat.reduceMod, Int.reduceLT, Int.reduceLE, Int.reduceToNat, Int.reduceAdd, ↓reduceIte, Nat.reduceEqDiff, Nat.reduceAdd, Nat.reduceMul, Nat.reduceSub, Nat.reduceLeDiff, Nat.reduceLT, reduceCtorEq, if_true, eq_self, forall_const, implies_true])) <;> (try simp only [Sz.Le, Sz.LeL, List.getElem?_cons_zero, List.getElem?_cons_succ]) <;> (try simp))
      | true =>
        rcases List.eq_nil_or_concat X with hX | ⟨D, r, hX⟩
        · subst hX
          rw [mixS_nil]
          have e1 : rM (vL gV ([] : List Ra.Rg)) = [] := rfl
          have e3 : rM (vL gV [⟨x, y⟩]) = [⟨true, [.v (.int .i64 x), .v (.int .i64 y)]⟩] := rfl
          rw [e1, e3, List.length_cons, List.length_nil, rS_0, rS_s]
          simp (maxSteps := 2000000) -implicitDefEqProofs only [↓G21, ↓A1, ↓A2, hcov, n1, n2, i0, i1, i2, i3, i4, w1, hxc, hyc, inp00, Option.map_some, List.map_nil, iL_len, s_alt, s_alt20, s_alt2t, s_alt2f, ↓s_loopi, ↓v_pq, ↓PRE, POST, CORE, Nat.reduceDiv, Nat.reduceMod, Int.reduceLT, Int.reduceLE, Int.reduceToNat, Int.reduceAdd, ↓reduceIte, Nat.reduceEqDiff, Nat.reduceAdd, Nat.reduceMul, Nat.reduceSub, Nat.reduceLeDiff, Nat.reduceLT, reduceCtorEq, if_true, eq_self, forall_const, implies_true]
          exact ⟨by unfold maxLen; omega, (by refine ⟨[0, 2], by simp [NdL, NdA, oO_cells, oO_own, iL_nil], ?_, ?_, keep0 hJ⟩ <;> simp only [FitM, FitE, ObLe, LeL, Le, List.cons_append, List.nil_append] <;> (try (simp (maxSteps := 2000000) -implicitDefEqProofs only [hnl1, s_alt, s_alt20, s_alt2t, s_alt2f, ↓s_loopi, ↓v_pq, ↓PRE, POST, CORE, Nat.reduceDiv, Nat.reduceMod, Int.reduceLT, Int.reduceLE, Int.reduceToNat, Int.reduceAdd, ↓reduceIte, Nat.reduceEqDiff, Nat.reduceAdd, Nat.reduceMul, Nat.reduceSub, Nat.reduceLeDiff, Nat.reduceLT, reduceCtorEq, if_true, eq_self, forall_const, implies_true])) <;> (try simp only [Sz.Le, Sz.LeL, List.getElem?_cons_zero, List.getElem?_cons_succ]) <;> (try simp))⟩
        · rw [List.concat_eq_append] at hX
          subst hX
          obtain ⟨e1, e2⟩ := g_ne (L := D ++ [r]) (by simp)
          rw [e1, e2, mixS_app]
          have hDn : ∀ q : Ra.Rg, (D ++ [q]).length = D.length + 1 := fun q => by simp
          have hDn2 : ∀ q : Ra.Rg, (D ++ [r] ++ [q]).length = D.length + 1 + 1 := fun q => by simp
          have hgV : ∀ q : Ra.Rg, vL gV (D ++ [q]) = vL gV D ++ [.v (.int .i64 q.fr), .v (.int .i64 q.to)] := fun q => by rw [← vL_app]; rfl
          have hCl : (vL gV D).length = D.length * 2 := g_len
          have hgV2 : ∀ q : Ra.Rg, vL gV (D ++ [r] ++ [q]) = vL gV D ++ [.v (.int .i64 r.fr), .v (.int .i64 r.to)] ++ [.v (.int .i64 q.fr), .v (.int .i64 q.to)] := fun q => by rw [← vL_app, hgV]; rfl
          have hvC : ∀ (g : List Nat) (a b : Int), LeL g (vL gV D ++ [.v (.int .i64 a), .v (.int .i64 b)]) (vL gV D ++ [.v (.int .i64 a), .v (.int .i64 b)]) = True := fun g a b => by rw [← hgV ⟨a, b⟩]; exact vL_le
          have hvC2 : ∀ (g : List Nat) (a b : Int), LeL g (vL gV D ++ [.v (.int .i64 r.fr), .v (.int .i64 r.to)] ++ [.v (.int .i64 a), .v (.int .i64 b)]) (vL gV D ++ [.v (.int .i64 r.fr), .v (.int .i64 r.to)] ++ [.v (.int .i64 a), .v (.int .i64 b)]) = True := fun g a b => by rw [← hgV2 ⟨a, b⟩]; exact vL_le
          rw [hDn] at hol
          have k0 : (0 : Int) ≤ (D.length : Int) := by omega
          have k1 : (D.length : Int) < ((D.length + 1 : Nat) : Int) := by omega
          have k2 : (0 : Int) < ((D.length + 1 : Nat) : Int) := by omega
          have w3 : IntKind.i64.wrap (((D.length + 1 : Nat) : Int) - 1) = (D.length : Int) := by
            rw [show ((D.length + 1 : Nat) : Int) - 1 = (D.length : Int) by omega]
            exact Sz.w_64 (by omega) (by omega)
          by_cases h2 : r.to = x
          · obtain ⟨e3, e4⟩ := g_ne (L := D ++ [⟨r.fr, y⟩]) (by simp)
            have h2b : (r.to == x) = true := by simpa using h2
            rw [if_pos h2, e3, e4, hDn, hDn, hgV, hgV]
            generalize vL gV D = C at hCl hvC ⊢
            have hto : ∀ a b : SV, (C ++ [a, b])[D.length * 2 + 1]? = some b := fun a b => by
              rw [List.getElem?_append_right (by omega), hCl, show D.length * 2 + 1 - D.length * 2 = 1 by omega]
              rfl
            have hov : ∀ a b s : SV, over (C ++ [a, b]) (D.length * 2 + 1) [s] = C ++ [a, s] := fun a b s => by
              unfold over
              rw [List.take_append, List.drop_append, List.take_of_length_le (by omega), hCl, show D.length * 2 + 1 - D.length * 2 = 1 by omega, show D.length * 2 + 1 + [s].length - D.length * 2 = 2 by simp; omega, List.drop_of_length_le (by simp; omega)]
              simp
            have hls : ∀ a b : SV, D.length * 2 + 1 + 1 ≤ (C ++ [a, b]).length := fun a b => by rw [List.length_append, hCl]; simp
            simp (maxSteps := 2000000) -implicitDefEqProofs only [↓G21, ↓A1, ↓A2, hcov, n1, n2, i0, i1, i2, i3, i4, w1, hxc, hyc, w3, gt_iff_lt, k0, k1, k2, hto, h2b, hov, hls, s_alt, s_alt20, s_alt2t, s_alt2f, ↓s_loopi, ↓v_pq, ↓PRE, POST, CORE, Nat.reduceDiv, Nat.reduceMod, Int.reduceLT, Int.reduceLE, Int.reduceToNat, Int.reduceAdd, ↓reduceIte, Nat.reduceEqDiff, Nat.reduceAdd, Nat.reduceMul, Nat.reduceSub, Nat.reduceLeDiff, Nat.reduceLT, reduceCtorEq, if_true, eq_self, forall_const, implies_true]
            exact (by refine ⟨[0, 1], by simp [NdL, NdA, oO_cells, oO_own, iL_nil], ?_, ?_, keep0 hJ⟩ <;> simp only [FitM, FitE, ObLe, LeL, Le, List.cons_append, List.nil_append] <;> (try (simp (maxSteps := 2000000) -implicitDefEqProofs only [hnl1, hvC, s_alt, s_alt20, s_alt2t, s_alt2f, ↓s_loopi, ↓v_pq, ↓PRE, POST, CORE, Nat.reduceDiv, Nat.reduceMod, Int.reduceLT, Int.reduceLE, Int.reduceToNat, Int.reduceAdd, ↓reduceIte, Nat.reduceEqDiff, Nat.reduceAdd, Nat.reduceMul, Nat.reduceSub, Nat.reduceLeDiff, Nat.reduceLT, reduceCtorEq, if_true, eq_self, forall_const, implies_true])) <;> (try simp only [Sz.Le, Sz.LeL, List.getElem?_cons_zero, List.getElem?_cons_succ]) <;> (try simp))
          · obtain ⟨e3, e4⟩ := g_ne (L := D ++ [r] ++ [⟨x, y⟩]) (by simp)
            have h2b : (r.to == x) = false := by simpa using h2
            rw [if_neg h2, e3, e4, hDn, hDn2, hgV2, hgV]
            generalize vL gV D = C at hCl hvC2 ⊢
            have hto : ∀ a b : SV, (C ++ [a, b])[D.length * 2 + 1]? = some b := fun a b => by
              rw [List.getElem?_append_right (by omega), hCl, show D.length * 2 + 1 - D.length * 2 = 1 by omega]
              rfl
            have hl2 : ∀ a b : SV, (C ++ [a, b]).length = (D.length + 1) * 2 := fun a b => by rw [List.length_append, hCl]; simp; omega
            have htk : ∀ a b : SV, (C ++ [a, b]).take ((D.length + 1) * 2) = C ++ [a, b] := fun a b => List.take_of_length_le (by rw [hl2]; exact Nat.le_refl _)
            simp (maxSteps := 2000000) -implicitDefEqProofs only [↓G21, ↓A1, ↓A2, hcov, n1, n2, i0, i1, i2, i3, i4, w1, hxc, hyc, w3, gt_iff_lt, k0, k1, k2, hto, h2b, hl2, htk, Nat.le_refl, s_alt, s_alt20, s_alt2t, s_alt2f, ↓s_loopi, ↓v_pq, ↓PRE, POST, CORE, Nat.reduceDiv, Nat.reduceMod, Int.reduceLT, Int.reduceLE, Int.reduceToNat, Int.reduceAdd, ↓reduceIte, Nat.reduceEqDiff, Nat.reduceAdd, Nat.reduceMul, Nat.reduceSub, Nat.reduceLeDiff, Nat.reduceLT, reduceCtorEq, if_true, eq_self, forall_const, implies_true]
            exact ⟨⟨by unfold maxLen; omega, by omega⟩, (by refine ⟨[0, 3], by simp [NdL, NdA, oO_cells, oO_own, iL_nil], ?_, ?_, keep0 hJ⟩ <;> simp only [FitM, FitE, ObLe, LeL, Le, List.cons_append, List.nil_append] <;> (try (simp (maxSteps := 2000000) -implicitDefEqProofs only [hnl1, hvC2, s_alt, s_alt20, s_alt2t, s_alt2f, ↓s_loopi, ↓v_pq, ↓PRE, POST, CORE, Nat.reduceDiv, Nat.reduceMod, Int.reduceLT, Int.reduceLE, Int.reduceToNat, Int.reduceAdd, ↓reduceIte, Nat.reduceEqDiff, Nat.reduceAdd, Nat.reduceMul, Nat.reduceSub, Nat.reduceLeDiff, Nat.reduceLT, reduceCtorEq, if_true, eq_self, forall_const, implies_true])) <;> (try simp only [Sz.Le, Sz.LeL, List.getElem?_cons_zero, List.getElem?_cons_succ]) <;> (try simp))⟩
    · intro _
      have j0 : ¬ (N : Int) + 1 < (E.length : Int) := by omega
      have w1 : IntKind.i64.wrap ((N : Int) + 1) = (N : Int) + 1 := Sz.w_64 (by omega) (by omega)
      generalize Ra.mixN a E N = Z at hk ⊢
      simp (maxSteps := 2000000) -implicitDefEqProofs only [w1, j0, s_alt, s_alt20, s_alt2t, s_alt2f, ↓s_loopi, ↓v_pq, ↓PRE, POST, CORE, Nat.reduceDiv, Nat.reduceMod, Int.reduceLT, Int.reduceLE, Int.reduceToNat, Int.reduceAdd, ↓reduceIte, Nat.reduceEqDiff, Nat.reduceAdd, Nat.reduceMul, Nat.reduceSub, Nat.reduceLeDiff, Nat.reduceLT, reduceCtorEq, if_true, eq_self, forall_const, implies_true]
      exact fin_row gV_len (by omega) Z _ _ 1 (fun h => by rw [h]; rfl) (fun h => ⟨rS_ne (fun e => h (List.length_eq_zero_iff.1 e)), by rw [List.getElem?_cons_succ]; exact rM_at gV_len (by omega) h⟩) hk
end Rc
end Go.Proofs.Ytcejgadbpahbmaa
end
section
namespace Go.Proofs.Ytcejgadbpahbmaa
open Go.RowKit Sz
set_option maxHeartbeats 16000000
set_option maxRecDepth 20000
namespace Rc
theorem mixA_set (a : List Ra.Rg) : mixA a = setG a := Ra.isSet_eq (Ra.mix_set a) (Ra.swp_set rfl a [])
-- almshouse/almshouselaw51.RangesCount (1 parameters)
def x5 : XC := (.seq (.tree (.seq ⟨some 2, none, (.ofA (.mv (.cst (.v (.bool false)))))⟩
 .done))
 (.seq (.seq (.tree (.seq ⟨some 7, none, (.call (.cst (.fn 20 [])) [])⟩
 (.seq ⟨some 8, none, (.ofA (.un .not (.tmp 7)))⟩
 .done)))
 (.cond (.tmp 8)
 (.seq (.tree (.seq ⟨some 2, none, (.ofA (.mv (.cst (.v (.bool false)))))⟩
 .done))
 .ret)
 .skip))
 (.seq (.seq (.tree (.seq ⟨some 9, none, (.ofA (.mv (.tmp 0)))⟩
 (.seq ⟨some 10, none, (.ofA (.len (.tmp 9)))⟩
 (.seq ⟨some 11, none, (.ofA (.bin .gtr (.tmp 10) (.cst (.v (.int .i64 20)))))⟩
 .done))))
 (.cond (.tmp 11)
 (.seq (.tree (.seq ⟨some 2, none, (.ofA (.mv (.cst (.v (.bool true)))))⟩
 .done))
 .ret)
 .skip))
 (.seq (.tree (.seq ⟨some 3, none, (.ofA (.mv (.cst (.v (.int .i64 0)))))⟩
 .done))
 (.seq (.seq (.tree (.seq ⟨some 12, none, (.ofA (.mv (.tmp 0)))⟩
 (.seq ⟨some 13, none, (.call (.cst (.fn 22 [])) [(.tmp 12)])⟩
 (.seq ⟨some 14, none, (.call (.cst (.fn 21 [])) [(.tmp 13), (.cst (.v (.slice none 0 0))), (.cst (.v (.int .i64 0)))])⟩
 (.seq ⟨some 15, none, (.ofA (.len (.tmp 14)))⟩
 (.seq ⟨some 16, none, (.ofA (.mv (.cst (.v (.int .i64 0)))))⟩
 .done))))))
 (.block 0 (.loop (.seq (.tree (.seq ⟨some 17, none, (.ofA (.bin .lss (.tmp 16) (.tmp 15)))⟩
 .done))
 (.seq (.cond (.tmp 17)
 .skip
 (.exit 0))
 (.seq (.block 1 (.seq (.tree (.seq ⟨some 18, none, (.ofA (.isl 2 (.tmp 14) (.tmp 16)))⟩
 (.seq ⟨some 19, none, (.ofA (.load (some 2) (.tmp 18)))⟩
 (.seq ⟨some 5, none, (.alloc [(.v (.int .i64 0)), (.v (.int .i64 0))])⟩
 (.seq ⟨none, none, (.store 2 (.tmp 5) (.tmp 19))⟩
 .done)))))
 (.tree (.seq ⟨some 20, none, (.ofA (.mv (.tmp 3)))⟩
 (.seq ⟨some 21, none, (.ofA (.faddr 1 (.tmp 5)))⟩
 (.seq ⟨some 22, none, (.ofA (.load none (.tmp 21)))⟩
 (.seq ⟨some 23, none, (.ofA (.faddr 0 (.tmp 5)))⟩
 (.seq ⟨some 24, none, (.ofA (.load none (.tmp 23)))⟩
 (.seq ⟨some 25, none, (.ofA (.bin .sub (.tmp 22) (.tmp 24)))⟩
 (.seq ⟨some 26, none, (.ofA (.bin .add (.tmp 20) (.tmp 25)))⟩
 (.seq ⟨some 3, none, (.ofA (.mv (.tmp 26)))⟩
 .done)))))))))))
 (.tree (.seq ⟨some 27, none, (.ofA (.bin .add (.tmp 16) (.cst (.v (.int .i64 1)))))⟩
 (.seq ⟨some 16, none, (.ofA (.mv (.tmp 27)))⟩
 .done)))))))))
 (.seq (.tree (.seq ⟨some 28, none, (.ofA (.mv (.tmp 0)))⟩
 (.seq ⟨some 29, none, (.ofA (.mv (.tmp 0)))⟩
 (.seq ⟨some 30, none, (.call (.cst (.fn 22 [])) [(.tmp 29)])⟩
 (.seq ⟨some 31, none, (.call (.cst (.fn 21 [])) [(.tmp 30), (.cst (.v (.slice none 0 0))), (.cst (.v (.int .i64 0)))])⟩
 (.seq ⟨some 32, none, (.call (.cst (.fn 23 [])) [(.tmp 28), (.tmp 31)])⟩
 (.seq ⟨some 6, none, (.ofA (.mv (.tmp 32)))⟩
 .done)))))))
 (.seq (.tree (.seq ⟨some 33, none, (.ofA (.mv (.tmp 0)))⟩
 (.seq ⟨some 34, none, (.call (.cst (.fn 24 [])) [(.tmp 33)])⟩
 (.seq ⟨some 35, none, (.ofA (.mv (.tmp 3)))⟩
 (.seq ⟨some 36, none, (.ofA (.bin .eql (.tmp 34) (.tmp 35)))⟩
 (.seq ⟨some 37, none, (.ofA (.mv (.tmp 36)))⟩
 (.seq ⟨some 38, some (37, true), (.ofA (.mv (.tmp 0)))⟩
 (.seq ⟨some 39, some (37, true), (.call (.cst (.fn 25 [])) [(.tmp 38)])⟩
 (.seq ⟨some 40, some (37, true), (.ofA (.mv (.tmp 6)))⟩
 (.seq ⟨some 41, some (37, true), (.ofA (.eqb false (.tmp 39) (.tmp 40)))⟩
 (.seq ⟨some 42, none, (.ofA (.pick (.tmp 37) (.tmp 41) (.cst (.v (.bool false)))))⟩
 (.seq ⟨some 2, none, (.ofA (.mv (.tmp 42)))⟩
 .done))))))))))))
 .ret)))))))
def r5 : List XR := [.tmp 2]
theorem fn5 : FnX Try.prog 5 [92] 43 x5 r5 := ⟨_, Try.func5, by kernel_rfl, by kernel_rfl, by kernel_rfl, by kernel_rfl⟩
def c5 [Inp] : Trans := fun args m k => ∃ (p : Option Addr) (c : Nat) (l : List Ra.Rg), args = [.v (.slice p l.length c)] ∧ inpL p (l.length * 2) = some (rowV gV l) ∧ k (.v (.bool true)) m
def G5 [Inp] : List CEntry := [⟨20, true, c20⟩, ⟨21, true, c21⟩, ⟨22, true, c22⟩, ⟨23, true, c23⟩, ⟨24, true, c24⟩, ⟨25, true, c25⟩]
theorem s5 [Inp] : GOk Try.prog G5 := GOk.cons c20_ok (GOk.cons c21_ok (GOk.cons c22_ok (GOk.cons c23_ok (GOk.cons c24_ok (GOk.cons c25_ok (g0 _))))))
section
variable [Inp] {l : List SV} {m : Mem} {K : SV → Mem → Prop} {s1 : SV} {a : List Ra.Rg}
theorem i21 : c21 l m K = @useI c21 l m ⟨K⟩ := Eq.trans rfl rfl
theorem useDoc (h1 : RdE m s1 a) (ha : a.length ≤ 1000) (hk : ∀ j m', RdE m' (rS j 2 (setG a).length) (setG a) → (setG a ≠ [] → m'[j]? = some ⟨true, vL gV (setG a)⟩) → (∀ s L, RdE m s L → RdE m' s L) → K (rS j 2 (setG a).length) m') : c21 [s1, .v (.slice none 0 0), .v (.int .i64 0)] m K :=
  ⟨s1, a, rfl, h1.get, ha, by rw [mixA_set]; exact hk _ _ RdE_new (fun h => rM_new h) (fun s L h => h.ext _)⟩
end
theorem c5_ok [I : Inp] : Contract Try.prog 5 true c5 := by
  refine .plain0 fn5 (G := fun J => @G5 J) (fun J => @s5 J) _ fun args m k h => ?_
  obtain ⟨p, c, l, rfl, hin, hk⟩ := h
  refine ⟨[], [], [.v (.slice p l.length c)], by simp, trivial, by simp, LeL_plain _ rfl, by simp, fun J hK hI => ?_⟩
  replace hin := hI _ _ _ hin
  simp (maxSteps := 2000000) -implicitDefEqProofs only [↓x5, ↓r5, ↓G5, ↓i20, s_alt, s_alt20, s_alt2t, s_alt2f, ↓s_loopi, ↓v_pq, ↓PRE, POST, CORE, Nat.reduceDiv, Nat.reduceMod, Int.reduceLT, Int.reduceLE, Int.reduceToNat, Int.reduceAdd, ↓reduceIte, Nat.reduceEqDiff, Nat.reduceAdd, Nat.reduceMul, Nat.reduceSub, Nat.reduceLeDiff, Nat.reduceLT, reduceCtorEq, if_true, eq_self, forall_const, implies_true]
  refine useI_of ⟨rfl, ?_⟩
  by_cases ha : (20 : Int) < (l.length : Int)
  · simp (maxSteps := 2000000) -implicitDefEqProofs only [↓v_kq, ↓G5, ha, s_alt, s_alt20, s_alt2t, s_alt2f, ↓s_loopi, ↓v_pq, ↓PRE, POST, CORE, Nat.reduceDiv, Nat.reduceMod, Int.reduceLT, Int.reduceLE, Int.reduceToNat, Int.reduceAdd, ↓reduceIte, Nat.reduceEqDiff, Nat.reduceAdd, Nat.reduceMul, Nat.reduceSub, Nat.reduceLeDiff, Nat.reduceLT, reduceCtorEq, if_true, eq_self, forall_const, implies_true]
    exact hk
  have na : l.length ≤ 20 := by omega
  simp (maxSteps := 2000000) -implicitDefEqProofs only [↓v_kq, ↓G5, ↓i21, ↓i22, ↓i23, ↓i24, ↓i25, ha, s_alt, s_alt20, s_alt2t, s_alt2f, ↓s_loopi, ↓v_pq, ↓PRE, POST, CORE, Nat.reduceDiv, Nat.reduceMod, Int.reduceLT, Int.reduceLE, Int.reduceToNat, Int.reduceAdd, ↓reduceIte, Nat.reduceEqDiff, Nat.reduceAdd, Nat.reduceMul, Nat.reduceSub, Nat.reduceLeDiff, Nat.reduceLT, reduceCtorEq, if_true, eq_self, forall_const, implies_true]
  refine useI_of (useRows (RdE_v hin) (by omega) fun j1 m1 r1 _ _ _ => ?_)
  simp (maxSteps := 2000000) -implicitDefEqProofs only [↓v_kq, ↓G5, ↓i21, ↓i22, ↓i23, ↓i24, ↓i25, s_alt, s_alt20, s_alt2t, s_alt2f, ↓s_loopi, ↓v_pq, ↓PRE, POST, CORE, Nat.reduceDiv, Nat.reduceMod, Int.reduceLT, Int.reduceLE, Int.reduceToNat, Int.reduceAdd, ↓reduceIte, Nat.reduceEqDiff, Nat.reduceAdd, Nat.reduceMul, Nat.reduceSub, Nat.reduceLeDiff, Nat.reduceLT, reduceCtorEq, if_true, eq_self, forall_const, implies_true]
  refine useI_of (useDoc r1 (by omega) fun j2 m2 r2 g2 _ => ?_)
  have hset : Ra.isSet Ra.tOr l [] (setG l) := Ra.swp_set rfl l []
  have his := Ra.is_set hset
  have hlen := setG_len l
  have hin2 := Ra.lenS_in hset.2.1 hset.1
  simp (maxSteps := 2000000) -implicitDefEqProofs only [↓v_kq, s_len, s_alt, s_alt20, s_alt2t, s_alt2f, ↓s_loopi, ↓v_pq, ↓PRE, POST, CORE, Nat.reduceDiv, Nat.reduceMod, Int.reduceLT, Int.reduceLE, Int.reduceToNat, Int.reduceAdd, ↓reduceIte, Nat.reduceEqDiff, Nat.reduceAdd, Nat.reduceMul, Nat.reduceSub, Nat.reduceLeDiff, Nat.reduceLT, reduceCtorEq, if_true, eq_self, forall_const, implies_true]
  obtain ⟨S, hS⟩ : ∃ S, S = setG l := ⟨_, rfl⟩
  rw [← hS] at his hlen hin2 r2 g2 ⊢
  refine TXi_of (TX_count (@s5 J) S.length (fun x => [(0, .v (.slice p l.length c)), (3, .v (.int .i64 (IntKind.i64.wrap (Ra.lenS (S.take x))))), (14, rS 0 2 S.length), (15, .v (.int .i64 (S.length : Int))), (16, .v (.int .i64 (x : Int)))]) (fun x => rM (vL gV S)) (fun x => True) trivial ?_ ?_ ?_)
  · have e0 : IntKind.i64.wrap (Ra.lenS (S.take 0)) = 0 := rfl
    rw [e0]
    by_cases h0 : S = []
    · rw [h0, vL_nil, rM_0, List.length_nil, rS_0]
      exact ⟨[], by simp [NdL], by simp only [FitM], by simp only [FitE, Le, List.length_nil, rS_0] <;> (try simp (maxSteps := 2000000) -implicitDefEqProofs only [s_alt, s_alt20, s_alt2t, s_alt2f, ↓s_loopi, ↓v_pq, ↓PRE, POST, CORE, Nat.reduceDiv, Nat.reduceMod, Int.reduceLT, Int.reduceLE, Int.reduceToNat, Int.reduceAdd, ↓reduceIte, Nat.reduceEqDiff, Nat.reduceAdd, Nat.reduceMul, Nat.reduceSub, Nat.reduceLeDiff, Nat.reduceLT, reduceCtorEq, if_true, eq_self, forall_const, implies_true]) <;> (try simp), keep0 hK⟩
    · have hg := g2 h0
      have hle : ∀ g, LeL g (vL gV S) (vL gV S) := fun g => by rw [vL_le]; trivial
      rw [rM_ne (vL_ne gV_len (by omega) h0), rS_ne (fun e => h0 (List.length_eq_zero_iff.1 e)), rS_ne (fun e => h0 (List.length_eq_zero_iff.1 e))]
      refine ⟨[j2], by simp [NdL, NdA], ?_, ?_, keep0 hK⟩
      · simp [FitM, hg, ObLe, hle]
      · simp only [FitE, Le, LeL] <;> (try (simp (maxSteps := 2000000) -implicitDefEqProofs only [s_alt, s_alt20, s_alt2t, s_alt2f, ↓s_loopi, ↓v_pq, ↓PRE, POST, CORE, Nat.reduceDiv, Nat.reduceMod, Int.reduceLT, Int.reduceLE, Int.reduceToNat, Int.reduceAdd, ↓reduceIte, Nat.reduceEqDiff, Nat.reduceAdd, Nat.reduceMul, Nat.reduceSub, Nat.reduceLeDiff, Nat.reduceLT, reduceCtorEq, if_true, eq_self, forall_const, implies_true])) <;> (try simp)
  · intro x hx _
    obtain ⟨r, hr⟩ : ∃ r, S[x]? = some r := ⟨_, List.getElem?_eq_getElem hx⟩
    have f2 : ((vL gV S).drop (x * 2)).take 2 = [.v (.int .i64 r.fr), .v (.int .i64 r.to)] := vL_item gV_len hr
    have i0 : (0 : Int) ≤ (x : Int) := by omega
    have i1 : (x : Int) < (S.length : Int) := by omega
    have w1 : IntKind.i64.wrap ((x : Int) + 1) = (x : Int) + 1 := Sz.w_64 (by omega) (by omega)
    have w2 := wsum (Ra.lenS (S.take x)) r.fr r.to
    rw [← lenS_snoc, ← take_snoc hr] at w2
    have h0 : S ≠ [] := fun e => by rw [e] at hx; simp at hx
    have hl : x * 2 + 2 ≤ (vL gV S).length := by rw [g_len]; omega
    have hle : ∀ g, LeL g (vL gV S) (vL gV S) = True := fun g => vL_le
    have hJ := hK
    rw [rM_ne (vL_ne gV_len (by omega) h0), rS_ne (fun e => h0 (List.length_eq_zero_iff.1 e))]
    simp (maxSteps := 2000000) -implicitDefEqProofs only [i0, i1, f2, hl, w1, w2, s_alt, s_alt20, s_alt2t, s_alt2f, ↓s_loopi, ↓v_pq, ↓PRE, POST, CORE, Nat.reduceDiv, Nat.reduceMod, Int.reduceLT, Int.reduceLE, Int.reduceToNat, Int.reduceAdd, ↓reduceIte, Nat.reduceEqDiff, Nat.reduceAdd, Nat.reduceMul, Nat.reduceSub, Nat.reduceLeDiff, Nat.reduceLT, reduceCtorEq, if_true, eq_self, forall_const, implies_true]
    exact (by refine ⟨[0], by simp [NdL, NdA, oO_cells, oO_own, iL_nil], ?_, ?_, keep0 hJ⟩ <;> simp only [FitM, FitE, ObLe, LeL, Le, List.cons_append, List.nil_append] <;> (try (simp (maxSteps := 2000000) -implicitDefEqProofs only [hle, s_alt, s_alt20, s_alt2t, s_alt2f, ↓s_loopi, ↓v_pq, ↓PRE, POST, CORE, Nat.reduceDiv, Nat.reduceMod, Int.reduceLT, Int.reduceLE, Int.reduceToNat, Int.reduceAdd, ↓reduceIte, Nat.reduceEqDiff, Nat.reduceAdd, Nat.reduceMul, Nat.reduceSub, Nat.reduceLeDiff, Nat.reduceLT, reduceCtorEq, if_true, eq_self, forall_const, implies_true])) <;> (try simp only [Sz.Le, Sz.LeL, List.getElem?_cons_zero, List.getElem?_cons_succ]) <;> (try simp))
  · intro _
    have j0 : ¬ (S.length : Int) < (S.length : Int) := by omega
    have w2 : IntKind.i64.wrap (Ra.lenS S) = Ra.lenS S := Sz.w_64 (by unfold Ra.Mx at hin2; omega) (by unfold Ra.Mx at hin2; omega)
    rw [List.take_length, w2]
    simp (maxSteps := 2000000) -implicitDefEqProofs only [↓G5, ↓i21, ↓i22, ↓i23, ↓i24, ↓i25, j0, s_alt, s_alt20, s_alt2t, s_alt2f, ↓s_loopi, ↓v_pq, ↓PRE, POST, CORE, Nat.reduceDiv, Nat.reduceMod, Int.reduceLT, Int.reduceLE, Int.reduceToNat, Int.reduceAdd, ↓reduceIte, Nat.reduceEqDiff, Nat.reduceAdd, Nat.reduceMul, Nat.reduceSub, Nat.reduceLeDiff, Nat.reduceLT, reduceCtorEq, if_true, eq_self, forall_const, implies_true]
    refine useI_of (useRows (RdE_v hin) (by omega) fun j3 m3 r3 _ _ _ => ?_)
    simp (maxSteps := 2000000) -implicitDefEqProofs only [↓v_kq, ↓G5, ↓i21, ↓i22, ↓i23, ↓i24, ↓i25, s_alt, s_alt20, s_alt2t, s_alt2f, ↓s_loopi, ↓v_pq, ↓PRE, POST, CORE, Nat.reduceDiv, Nat.reduceMod, Int.reduceLT, Int.reduceLE, Int.reduceToNat, Int.reduceAdd, ↓reduceIte, Nat.reduceEqDiff, Nat.reduceAdd, Nat.reduceMul, Nat.reduceSub, Nat.reduceLeDiff, Nat.reduceLT, reduceCtorEq, if_true, eq_self, forall_const, implies_true]
    refine useI_of (useDoc r3 (by omega) fun j4 m4 r4 g4 _ => ?_)
    rw [← hS] at r4 ⊢
    simp (maxSteps := 2000000) -implicitDefEqProofs only [↓v_kq, ↓G5, ↓i21, ↓i22, ↓i23, ↓i24, ↓i25, s_alt, s_alt20, s_alt2t, s_alt2f, ↓s_loopi, ↓v_pq, ↓PRE, POST, CORE, Nat.reduceDiv, Nat.reduceMod, Int.reduceLT, Int.reduceLE, Int.reduceToNat, Int.reduceAdd, ↓reduceIte, Nat.reduceEqDiff, Nat.reduceAdd, Nat.reduceMul, Nat.reduceSub, Nat.reduceLeDiff, Nat.reduceLT, reduceCtorEq, if_true, eq_self, forall_const, implies_true]
    refine useI_of (useSame (RdE_v hin) r4 (by omega) (by omega) ?_)
    simp (maxSteps := 2000000) -implicitDefEqProofs only [↓v_kq, ↓G5, ↓i21, ↓i22, ↓i23, ↓i24, ↓i25, s_alt, s_alt20, s_alt2t, s_alt2f, ↓s_loopi, ↓v_pq, ↓PRE, POST, CORE, Nat.reduceDiv, Nat.reduceMod, Int.reduceLT, Int.reduceLE, Int.reduceToNat, Int.reduceAdd, ↓reduceIte, Nat.reduceEqDiff, Nat.reduceAdd, Nat.reduceMul, Nat.reduceSub, Nat.reduceLeDiff, Nat.reduceLT, reduceCtorEq, if_true, eq_self, forall_const, implies_true]
    refine useI_of (useCount (RdE_v hin) (by omega) ?_)
    rw [← hS]
    simp (maxSteps := 2000000) -implicitDefEqProofs only [↓v_kq, ↓G5, ↓i21, ↓i22, ↓i23, ↓i24, ↓i25, beq_self_eq_true, s_alt, s_alt20, s_alt2t, s_alt2f, ↓s_loopi, ↓v_pq, ↓PRE, POST, CORE, Nat.reduceDiv, Nat.reduceMod, Int.reduceLT, Int.reduceLE, Int.reduceToNat, Int.reduceAdd, ↓reduceIte, Nat.reduceEqDiff, Nat.reduceAdd, Nat.reduceMul, Nat.reduceSub, Nat.reduceLeDiff, Nat.reduceLT, reduceCtorEq, if_true, eq_self, forall_const, implies_true]
    refine useI_of (useIs (RdE_v hin) (by omega) ?_)
    rw [his]
    simp (maxSteps := 2000000) -implicitDefEqProofs only [↓v_kq, beq_self_eq_true, s_alt, s_alt20, s_alt2t, s_alt2f, ↓s_loopi, ↓v_pq, ↓PRE, POST, CORE, Nat.reduceDiv, Nat.reduceMod, Int.reduceLT, Int.reduceLE, Int.reduceToNat, Int.reduceAdd, ↓reduceIte, Nat.reduceEqDiff, Nat.reduceAdd, Nat.reduceMul, Nat.reduceSub, Nat.reduceLeDiff, Nat.reduceLT, reduceCtorEq, if_true, eq_self, forall_const, implies_true]
    exact hk
end Rc
end Go.Proofs.Ytcejgadbpahbmaa
end
section
namespace Go.Proofs.Ytcejgadbpahbmaa
open Go.ChangeShapes Go.WideShapes Go.ChangeAt Go.RowKit Go.Deep
theorem add_plain' (g o j : Nat) : (⟨g, o, none⟩ : Addr).add j = ⟨g, o + j, none⟩ := by unfold Addr.add; split <;> simp_all
inductive Sh where
  | nil
  | int (k : IntKind) (r : Sh)
  | bool (r : Sh)
  | str (r : Sh)
  | sl (e : Sh) (r : Sh)
def Sh.len : Sh → Nat
  | .nil => 0
  | .int _ r | .bool r | .str r | .sl _ r => r.len + 1
def Sh.app : Sh → Sh → Sh
  | .nil, b => b
  | .int k r, b => .int k (r.app b)
  | .bool r, b => .bool (r.app b)
  | .str r, b => .str (r.app b)
  | .sl e r, b => .sl e (r.app b)
def Sh.rep (a : Sh) : Nat → Sh
  | 0 => .nil
  | n + 1 => a.app (a.rep n)
def SlFits (w : World) (v : Value) (sz : Nat) (F : List Value → Prop) : Prop :=
  ∃ A n c, v = .slice A n c ∧ n ≤ c ∧ c ≤ maxLen ∧ (A = none → c = 0) ∧
    ∀ a, A = some a → ∀ i, i < n → ∃ cs : List Value, cs.length = sz ∧ (∀ j u, cs[j]? = some u → w.cell? ((a.add (i * sz)).add j) = some u) ∧ F cs
def Sh.fits (w : World) : Sh → List Value → Prop
  | .nil, cs => cs = []
  | .int k r, cs => ∃ n cs', cs = .int k n :: cs' ∧ (Lit.int k n).wf = true ∧ r.fits w cs'
  | .bool r, cs => ∃ b cs', cs = .bool b :: cs' ∧ r.fits w cs'
  | .str r, cs => ∃ s cs', cs = .string s :: cs' ∧ s.size ≤ maxLen ∧ r.fits w cs'
  | .sl e r, cs => ∃ v cs', cs = v :: cs' ∧ SlFits w v e.len (e.fits w) ∧ r.fits w cs'
theorem Sh.fits_len {w : World} : ∀ {s : Sh} {cs : List Value}, s.fits w cs → cs.length = s.len
  | .nil, cs, h => by simp only [Sh.fits] at h; simp [h, Sh.len]
  | .int k r, cs, h => by obtain ⟨n, cs', rfl, _, h'⟩ := h; simp [Sh.len, Sh.fits_len h']
  | .bool r, cs, h => by obtain ⟨n, cs', rfl, h'⟩ := h; simp [Sh.len, Sh.fits_len h']
  | .str r, cs, h => by obtain ⟨n, cs', rfl, _, h'⟩ := h; simp [Sh.len, Sh.fits_len h']
  | .sl e r, cs, h => by obtain ⟨n, cs', rfl, _, h'⟩ := h; simp [Sh.len, Sh.fits_len h']
theorem Sh.fits_app {w : World} {b : Sh} {ds : List Value} (hb : b.fits w ds) : ∀ {a : Sh} {cs : List Value}, a.fits w cs → (a.app b).fits w (cs ++ ds)
  | .nil, cs, h => by simp only [Sh.fits] at h; subst h; simpa [Sh.app] using hb
  | .int k r, cs, h => by obtain ⟨n, cs', rfl, h1, h'⟩ := h; exact ⟨n, cs' ++ ds, rfl, h1, Sh.fits_app hb h'⟩
  | .bool r, cs, h => by obtain ⟨n, cs', rfl, h'⟩ := h; exact ⟨n, cs' ++ ds, rfl, Sh.fits_app hb h'⟩
  | .str r, cs, h => by obtain ⟨n, cs', rfl, h1, h'⟩ := h; exact ⟨n, cs' ++ ds, rfl, h1, Sh.fits_app hb h'⟩
  | .sl e r, cs, h => by obtain ⟨n, cs', rfl, h1, h'⟩ := h; exact ⟨n, cs' ++ ds, rfl, h1, Sh.fits_app hb h'⟩
theorem Sh.app_len : ∀ {a b : Sh}, (a.app b).len = a.len + b.len
  | .nil, b => by simp [Sh.app, Sh.len]
  | .int k r, b => by simp [Sh.app, Sh.len, Sh.app_len (a := r)]; omega
  | .bool r, b => by simp [Sh.app, Sh.len, Sh.app_len (a := r)]; omega
  | .str r, b => by simp [Sh.app, Sh.len, Sh.app_len (a := r)]; omega
  | .sl e r, b => by simp [Sh.app, Sh.len, Sh.app_len (a := r)]; omega
section
variable (P : Program)
end
section
variable {P : Program} {H : Type} {enc : TypeId × Value → H} {w : World} {base : Nat} {spare : Nat → Bool} {held : Bool}
end
theorem sl_open {w : World} {v : Value} {sz : Nat} {F : List Value → Prop} (h : SlFits w v sz F) (hsz : 0 < sz) :
    ∃ A n c, v = .slice A n c ∧ n ≤ c ∧ c ≤ maxLen ∧ (n = 0 ∨ ∃ g o, A = some ⟨g, o, none⟩ ∧ ∀ i, i < n → ∃ cs : List Value, cs.length = sz ∧ (∀ j u, cs[j]? = some u → w.cell? ⟨g, o + i * sz + j, none⟩ = some u) ∧ F cs) := by
  obtain ⟨A, n, c, rfl, hn, hc, hA, hcell⟩ := h
  refine ⟨A, n, c, rfl, hn, hc, ?_⟩
  rcases Nat.eq_zero_or_pos n with h0 | h0
  · exact .inl h0
  · right
    cases A with
    | none => have := hA rfl; omega
    | some a =>
      obtain ⟨g, o, spot⟩ := a
      obtain ⟨cs, hl, hg, _⟩ := hcell _ rfl 0 h0
      obtain ⟨x, hx⟩ : ∃ x, cs[0]? = some x := ⟨_, List.getElem?_eq_getElem (by omega)⟩
      have hc0 := hg 0 x hx
      have hspot : spot = Option.none := by simpa [Addr.add] using World.cell?_spot hc0
      subst hspot
      refine ⟨g, o, rfl, fun i hi => ?_⟩
      obtain ⟨cs, hl, hg, hF⟩ := hcell _ rfl i hi
      refine ⟨cs, hl, fun j u hj => ?_, hF⟩
      have := hg j u hj
      rwa [add_plain', add_plain'] at this
theorem list_of {α : Type} {p : Nat → α → Prop} : ∀ (n : Nat), (∀ i, i < n → ∃ x, p i x) → ∃ l : List α, l.length = n ∧ ∀ i x, l[i]? = some x → p i x
  | 0, _ => ⟨[], rfl, fun i x h => by simp at h⟩
  | n + 1, h => by
    obtain ⟨l, hl, hp⟩ := list_of n (fun i hi => h i (by omega))
    obtain ⟨x, hx⟩ := h n (by omega)
    refine ⟨l ++ [x], by simp [hl], fun i y hy => ?_⟩
    rcases Nat.lt_or_ge i n with hi | hi
    · rw [List.getElem?_append_left (by omega)] at hy; exact hp i y hy
    · rw [List.getElem?_append_right (by omega)] at hy
      have : i - l.length = 0 := by
        rcases Nat.eq_zero_or_pos (i - l.length) with h | h
        · exact h
        · rw [List.getElem?_eq_none (by simp; omega)] at hy; cases hy
      rw [this] at hy
      simp at hy
      subst hy
      have : i = n := by omega
      subst this; exact hx
end Go.Proofs.Ytcejgadbpahbmaa
end
section
namespace Go.Proofs.Ytcejgadbpahbmaa.Sz
open Go.RowKit
theorem rowV_get {α : Type} {cs : α → List Value} {z : Nat} (hz : ∀ x, (cs x).length = z) (h0 : 0 < z) : ∀ {l : List α} {j : Nat} {u : Value}, (rowV cs l)[j]? = some u → ∃ x, l[j / z]? = some x ∧ (cs x)[j % z]? = some u
  | [], j, u, h => by simp [rowV] at h
  | x :: l, j, u, h => by
    have e : rowV cs (x :: l) = cs x ++ rowV cs l := rfl
    rw [e] at h
    by_cases hj : j < z
    · rw [List.getElem?_append_left (by rw [hz]; exact hj)] at h
      exact ⟨x, by rw [Nat.div_eq_of_lt hj]; rfl, by rw [Nat.mod_eq_of_lt hj]; exact h⟩
    · rw [List.getElem?_append_right (by rw [hz]; omega), hz] at h
      obtain ⟨y, h1, h2⟩ := rowV_get hz h0 h
      refine ⟨y, ?_, ?_⟩
      · rw [Nat.div_eq_sub_div h0 (by omega)]
        simpa using h1
      · rw [Nat.mod_eq_sub_mod (by omega)]; exact h2
theorem rows_of_sl {α : Type} {cs : α → List Value} {z : Nat} (hz : ∀ x, (cs x).length = z) (h0 : 0 < z) {W : World} {v : Value} {F : List Value → Prop} {Q : α → Prop} (h : SlFits W v z F) (hF : ∀ l, F l → ∃ x, cs x = l ∧ Q x) :
    ∃ A n c l, v = .slice A n c ∧ n ≤ c ∧ c ≤ 9223372036854775807 ∧ l.length = n ∧ (∀ x ∈ l, Q x) ∧ @inpL (inpOf W) A (n * z) = some (rowV cs l) := by
  obtain ⟨A, n, c, rfl, hn, hc, hh⟩ := sl_open h h0
  have hc' : c ≤ 9223372036854775807 := by simpa [maxLen] using hc
  rcases hh with rfl | ⟨g, o, rfl, hcell⟩
  · exact ⟨A, 0, c, [], rfl, hn, hc', rfl, by simp, by simp [inpL, rowV]⟩
  · obtain ⟨l, hl, hp⟩ := list_of (p := fun i x => Q x ∧ ∀ j u, (cs x)[j]? = some u → W.cell? ⟨g, o + i * z + j, none⟩ = some u) n (fun i hi => by
      obtain ⟨us, _, h1, h2⟩ := hcell i hi
      obtain ⟨x, rfl, hq⟩ := hF us h2
      exact ⟨x, hq, h1⟩)
    refine ⟨_, n, c, l, rfl, hn, hc', hl, fun x hx => ?_, inpL_of (I := inpOf W) (by rw [rowV_len hz, hl]) fun _ => ⟨_, rfl, rfl, fun j u hj => ?_⟩⟩
    · obtain ⟨i, hi⟩ := List.getElem?_of_mem hx
      exact (hp i x hi).1
    · obtain ⟨x, h1, h2⟩ := rowV_get hz h0 hj
      have := (hp _ x h1).2 _ u h2
      show W.cell? ((⟨g, o, none⟩ : Addr).add j) = some u
      rw [Addr.add_lit]
      have e : o + j / z * z + j % z = o + j := by rw [Nat.add_assoc, Nat.mul_comm, Nat.div_add_mod]
      rwa [e] at this
end Go.Proofs.Ytcejgadbpahbmaa.Sz
end
section
namespace Go.Proofs.Ytcejgadbpahbmaa
open Go.ChangeShapes Go.WideShapes Go.ChangeAt Go.RowKit Go.Deep
inductive ShR where
  | nil
  | int (k : IntKind) (r : ShR)
  | bool (r : ShR)
  | str (r : ShR)
  | sl (b : Nat) (e : ShR) (r : ShR)
def ShR.len : ShR → Nat
  | .nil => 0
  | .int _ r | .bool r | .str r | .sl _ _ r => r.len + 1
def ShR.app : ShR → ShR → ShR
  | .nil, b => b
  | .int k r, b => .int k (r.app b)
  | .bool r, b => .bool (r.app b)
  | .str r, b => .str (r.app b)
  | .sl q e r, b => .sl q e (r.app b)
def ShR.rep (a : ShR) : Nat → ShR
  | 0 => .nil
  | n + 1 => a.app (a.rep n)
def SlFitsR (w : World) (v : Value) (sz b : Nat) (F : List Value → Prop) : Prop :=
  SlFits w v sz F ∧ ∀ A n c, v = .slice A n c → n * b ≤ reachBytes
def ShR.fits (w : World) : ShR → List Value → Prop
  | .nil, cs => cs = []
  | .int k r, cs => ∃ n cs', cs = .int k n :: cs' ∧ (Lit.int k n).wf = true ∧ r.fits w cs'
  | .bool r, cs => ∃ b cs', cs = .bool b :: cs' ∧ r.fits w cs'
  | .str r, cs => ∃ s cs', cs = .string s :: cs' ∧ s.size ≤ reachBytes ∧ r.fits w cs'
  | .sl q e r, cs => ∃ v cs', cs = v :: cs' ∧ SlFitsR w v e.len q (e.fits w) ∧ r.fits w cs'
theorem ShR.fits_len {w : World} : ∀ {s : ShR} {cs : List Value}, s.fits w cs → cs.length = s.len
  | .nil, cs, h => by simp only [ShR.fits] at h; simp [h, ShR.len]
  | .int k r, cs, h => by obtain ⟨n, cs', rfl, _, h'⟩ := h; simp [ShR.len, ShR.fits_len h']
  | .bool r, cs, h => by obtain ⟨n, cs', rfl, h'⟩ := h; simp [ShR.len, ShR.fits_len h']
  | .str r, cs, h => by obtain ⟨n, cs', rfl, _, h'⟩ := h; simp [ShR.len, ShR.fits_len h']
  | .sl q e r, cs, h => by obtain ⟨n, cs', rfl, _, h'⟩ := h; simp [ShR.len, ShR.fits_len h']
theorem ShR.fits_app {w : World} {b : ShR} {ds : List Value} (hb : b.fits w ds) : ∀ {a : ShR} {cs : List Value}, a.fits w cs → (a.app b).fits w (cs ++ ds)
  | .nil, cs, h => by simp only [ShR.fits] at h; subst h; simpa [ShR.app] using hb
  | .int k r, cs, h => by obtain ⟨n, cs', rfl, h1, h'⟩ := h; exact ⟨n, cs' ++ ds, rfl, h1, ShR.fits_app hb h'⟩
  | .bool r, cs, h => by obtain ⟨n, cs', rfl, h'⟩ := h; exact ⟨n, cs' ++ ds, rfl, ShR.fits_app hb h'⟩
  | .str r, cs, h => by obtain ⟨n, cs', rfl, h1, h'⟩ := h; exact ⟨n, cs' ++ ds, rfl, h1, ShR.fits_app hb h'⟩
  | .sl q e r, cs, h => by obtain ⟨n, cs', rfl, h1, h'⟩ := h; exact ⟨n, cs' ++ ds, rfl, h1, ShR.fits_app hb h'⟩
theorem ShR.app_len : ∀ {a b : ShR}, (a.app b).len = a.len + b.len
  | .nil, b => by simp [ShR.app, ShR.len]
  | .int k r, b => by simp [ShR.app, ShR.len, ShR.app_len (a := r)]; omega
  | .bool r, b => by simp [ShR.app, ShR.len, ShR.app_len (a := r)]; omega
  | .str r, b => by simp [ShR.app, ShR.len, ShR.app_len (a := r)]; omega
  | .sl q e r, b => by simp [ShR.app, ShR.len, ShR.app_len (a := r)]; omega
section
variable (P : Program)
def shFieldsR (one : TypeId → Option ShR) : Nat → List Field → Option ShR
  | _, [] => some .nil
  | off, f :: fs => (one f.type).bind fun a => if f.offset = off ∧ P.cellsOf f.type = a.len then (shFieldsR one (off + a.len) fs).map (a.app ·) else none
def shOfR : Nat → TypeId → Option ShR
  | 0, _ => none
  | n + 1, t => match P.underlying t with
    | some .bool => some (.bool .nil)
    | some (.int k) => some (.int k .nil)
    | some .string => some (.str .nil)
    | some (.slice e) => (shOfR n e).bind fun a => if P.cellsOf e = a.len then some (.sl (P.bytesOf e) a .nil) else none
    | some (.struct fs) => (shFieldsR P (shOfR n) 0 fs.toList).bind fun a => if P.cellsOf t = a.len then some a else none
    | some (.array k e) => (shOfR n e).bind fun a => if P.cellsOf e = a.len ∧ P.cellsOf t = k * a.len then some (a.rep k) else none
    | _ => none
end
section
variable {P : Program} {H : Type} {enc : TypeId × Value → H} {w : World} {base : Nat} {spare : Nat → Bool} {held : Bool}
theorem weightsAll_mem {e : TypeId} : ∀ {l : List (DataW H)} {d : DataW H}, d ∈ l → ∀ {q : Nat}, q ∈ d.weights P e → q ∈ DataW.weightsAll P e l
  | [], d, h, q, hq => by simp at h
  | x :: l, d, h, q, hq => by
    simp only [DataW.weightsAll, List.mem_append]
    rcases List.mem_cons.1 h with rfl | h
    · exact .inl hq
    · exact .inr (weightsAll_mem h hq)
theorem fieldsR_fit {one : TypeId → Option ShR} {m : Nat} {cs : List Value} (ih : ∀ t sh ds x, one t = some sh → DataW.trod enc P w base spare held m t ds = some x → (∀ q ∈ x.1.weights P t, q ≤ reachBytes) → sh.fits w ds) :
    ∀ (fs : List Field) (off : Nat) (sh : ShR), shFieldsR P one off fs = some sh → (∀ f ∈ fs, ∃ y, DataW.trod enc P w base spare held m f.type ((cs.drop f.offset).take (P.cellsOf f.type)) = some y ∧ (∀ q ∈ y.1.weights P f.type, q ≤ reachBytes)) →
      cs.length = off + sh.len → sh.fits w (cs.drop off)
  | [], off, sh, h, _, hl => by
    simp only [shFieldsR, Option.some.injEq] at h
    subst h
    simp only [ShR.len, Nat.add_zero] at hl
    show cs.drop off = []
    rw [List.drop_eq_nil_iff]; omega
  | f :: fs, off, sh, h, hf, hl => by
    simp only [shFieldsR, Option.bind_eq_some_iff] at h
    obtain ⟨a, ha, h⟩ := h
    split at h
    · rename_i hc
      obtain ⟨ho, hk⟩ := hc
      simp only [Option.map_eq_some_iff] at h
      obtain ⟨b, hb, rfl⟩ := h
      rw [ShR.app_len] at hl
      obtain ⟨y, hy, hyw⟩ := hf f (by simp)
      rw [ho, hk] at hy
      have h1 := ih _ _ _ _ ha hy hyw
      have h2 := fieldsR_fit ih fs (off + a.len) b hb (fun g hg => hf g (by simp [hg])) (by omega)
      have e : cs.drop off = (cs.drop off).take a.len ++ cs.drop (off + a.len) := by
        rw [← List.drop_drop, List.take_append_drop]
      rw [e]
      exact ShR.fits_app h2 h1
    · cases h
theorem arrayR_fit {m : Nat} {cs : List Value} {e : TypeId} {a : ShR} (ih : ∀ ds x, DataW.trod enc P w base spare held m e ds = some x → (∀ q ∈ x.1.weights P e, q ≤ reachBytes) → a.fits w ds) :
    ∀ (k i : Nat), (∀ j, i ≤ j → j < i + k → ∃ y, DataW.trod enc P w base spare held m e ((cs.drop (j * a.len)).take a.len) = some y ∧ (∀ q ∈ y.1.weights P e, q ≤ reachBytes)) → cs.length = (i + k) * a.len → (a.rep k).fits w (cs.drop (i * a.len))
  | 0, i, _, hl => by
    show cs.drop _ = []
    rw [List.drop_eq_nil_iff]; simp at hl; omega
  | k + 1, i, hf, hl => by
    obtain ⟨y, hy, hyw⟩ := hf i (Nat.le_refl _) (by omega)
    have h1 := ih _ _ hy hyw
    have h2 := arrayR_fit ih k (i + 1) (fun j h1 h2 => hf j (by omega) (by omega)) (by rw [hl]; congr 1; omega)
    have e : cs.drop (i * a.len) = (cs.drop (i * a.len)).take a.len ++ cs.drop ((i + 1) * a.len) := by
      rw [Nat.add_mul, Nat.one_mul, ← List.drop_drop, List.take_append_drop]
    rw [e]
    exact ShR.fits_app h2 h1
theorem fitsR_of_trod : ∀ (n : Nat) (t : TypeId) (sh : ShR) (fuel : Nat) (cs : List Value) (x : DataW H × List MemPlace), shOfR P n t = some sh → DataW.trod enc P w base spare held fuel t cs = some x → (∀ q ∈ x.1.weights P t, q ≤ reachBytes) → sh.fits w cs
  | 0, _, _, _, _, _, h, _, _ => by simp [shOfR] at h
  | n + 1, t, sh, fuel, cs, x, h, ht, hz => by
    unfold shOfR at h
    split at h
    · rename_i hu
      obtain ⟨b, rfl, _⟩ := DataW.trod_bool hu ht
      simp only [Option.some.injEq] at h; subst h
      exact ⟨b, [], rfl, rfl⟩
    · rename_i k hu
      obtain ⟨z, rfl, _, hw⟩ := DataW.trod_int hu ht
      simp only [Option.some.injEq] at h; subst h
      exact ⟨z, [], rfl, hw, rfl⟩
    · rename_i hu
      obtain ⟨z, rfl, rfl, hw⟩ := DataW.trod_string hu ht
      simp only [Option.some.injEq] at h; subst h
      have hz1 := hz z.data.toList.length (by simp [DataW.weights])
      exact ⟨z, [], rfl, by rw [Array.length_toList] at hz1; exact hz1, rfl⟩
    · rename_i e hu
      simp only [Option.bind_eq_some_iff] at h
      obtain ⟨a, ha, h⟩ := h
      split at h
      · rename_i hc
        simp only [Option.some.injEq] at h; subst h
        rcases open_slice hu ht with ⟨rfl, _⟩ | ⟨ad, len, cap, m, f, D, Pl, rfl, _, hl, hm, hmm, rfl, hi⟩
        · exact ⟨_, [], rfl, ⟨⟨Option.none, 0, 0, rfl, Nat.le_refl _, Nat.zero_le _, fun _ => rfl, fun a ha => by cases ha⟩, fun A n c hv => by cases hv; omega⟩, rfl⟩
        · have hzl : len * P.bytesOf e ≤ reachBytes := by
            have h1 := hz ((((List.range len).map D).length + ((List.range (m - len)).map fun j => D (len + j)).length) * P.bytesOf e) (by simp [DataW.weights, hu])
            refine Nat.le_trans (Nat.mul_le_mul_right _ ?_) h1
            simp
          refine ⟨_, [], rfl, ⟨⟨some ad, len, cap, rfl, hl, hm, ?_, fun a' ha' i hilt => ?_⟩, fun A n c hv => by cases hv; exact hzl⟩, rfl⟩
          · intro h; cases h
          simp only [Option.some.injEq] at ha'
          subst ha'
          have him : i < m := by rw [hmm]; split <;> omega
          obtain ⟨cs', hc', ht'⟩ := hi i him
          obtain ⟨_, hlen, hget⟩ := World.cells?_some hc'
          rw [hc] at hlen hget
          refine ⟨cs', hlen, fun j u hj => ?_, fitsR_of_trod n e a f cs' _ ha ht' fun q hq => hz q ?_⟩
          rotate_left
          · simp only [DataW.weights, hu, List.mem_cons, List.mem_append]
            exact .inr (.inl (weightsAll_mem (List.mem_map.2 ⟨i, by simpa using hilt, rfl⟩) hq))
          have hjl : j < cs'.length := (List.getElem?_eq_some_iff.1 hj).1
          rw [hget j (by omega)]; exact hj
      · cases h
    · rename_i fs hu
      simp only [Option.bind_eq_some_iff] at h
      obtain ⟨a, ha, h⟩ := h
      split at h
      · rename_i hc
        simp only [Option.some.injEq] at h; subst h
        obtain ⟨xs, m, _, rfl, hl, hxl, hf⟩ := DataW.trod_struct hu ht
        have := fieldsR_fit (cs := cs) (m := m) (enc := enc) (base := base) (spare := spare) (held := held) (w := w) (fun t sh ds x h1 h2 h3 => fitsR_of_trod n t sh m ds x h1 h2 h3) fs.toList 0 a ha (fun f hf' => ?_) (by omega)
        · simpa using this
        · obtain ⟨i, hi, hfi⟩ := List.getElem_of_mem hf'
          have hfi' : fs[i]? = some f := by rw [← hfi, Array.getElem_toList, Array.getElem?_eq_getElem]
          have h3 := hf i f hfi'
          have hlt : i < xs.length := by rw [hxl]; simpa using hi
          refine ⟨xs[i], by rw [h3]; exact List.getElem?_eq_getElem hlt, fun q hq => hz q ?_⟩
          simp only [DataW.weights, hu]
          exact DataW.weights_mem_each (j := i) (t := f.type) (d := xs[i].1) (by simp [hfi']) (by simp [hlt]) q hq
      · cases h
    · rename_i k e hu
      simp only [Option.bind_eq_some_iff] at h
      obtain ⟨a, ha, h⟩ := h
      split at h
      · rename_i hc
        obtain ⟨hc1, hc2⟩ := hc
        simp only [Option.some.injEq] at h; subst h
        obtain ⟨xs, m, _, rfl, hl, hxl, hf⟩ := DataW.trod_array hu ht
        rw [hc1] at hf
        have := arrayR_fit (cs := cs) (m := m) (enc := enc) (base := base) (spare := spare) (held := held) (w := w) (P := P) (fun ds x h2 h3 => fitsR_of_trod n e a m ds x ha h2 h3) k 0 (fun j _ hj => ?_) (by rw [hl, hc2, Nat.zero_add])
        · simpa using this
        · have hlt : j < xs.length := by omega
          refine ⟨xs[j], by rw [hf j (by omega)]; exact List.getElem?_eq_getElem hlt, fun q hq => hz q ?_⟩
          simp only [DataW.weights, hu]
          exact weightsAll_mem (List.mem_map.2 ⟨xs[j], List.getElem_mem _, rfl⟩) hq
      · cases h
    · cases h
theorem openR_any {t : TypeId} {v : Value} {d : DataW H} {p : List MemPlace} {n : Nat} {sh : ShR} (hs : shOfR P n t = some sh) (h : DataW.Trod enc P w base spare held t v d p) (hz : ∀ q ∈ d.weights P t, q ≤ reachBytes) : sh.fits w v.cells.toList := by
  obtain ⟨fuel, hf⟩ := h
  exact fitsR_of_trod n t sh fuel _ _ hs hf hz
theorem openR_sls {t e : TypeId} {v : Value} {d : DataW H} {p : List MemPlace} {n b : Nat} {r : Reach} {a : ShR} {y : Nat} (hu : P.underlying t = some (.slice e)) (hs : shOfR P n t = some (.sl y a .nil)) (hv : Value.okWide P w r b t v) (h : DataW.Trod enc P w base spare held t v d p) (hz : ∀ q ∈ d.weights P t, q ≤ reachBytes) :
    SlFitsR w v a.len y (a.fits w) := by
  have hf := openR_any hs h hz
  obtain ⟨A, l, c, rfl⟩ := okWide_slice hu hv
  obtain ⟨x, cs', he, hx, _⟩ := hf
  simp only [Value.cells, List.cons.injEq] at he
  rw [he.1]; exact hx
end
end Go.Proofs.Ytcejgadbpahbmaa
end
