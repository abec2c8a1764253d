/- Walks and plain facts for the law QuotaFullest, part MQFF. No condition. -/
import Derived.Test.YtcejgadbpahbmaaMQFE
import Derived.Test.YtcejgadbpahbmaaMQFA
import Derived.ProofKit
import Derived.OpenShut
import Derived.Deep.Slices
import Derived.Test.YtcejgadbpahbmaaMQFC
import Derived.SizedLaws
set_option linter.unusedVariables false
set_option linter.unusedSimpArgs false
section
namespace Go.Proofs.Ytcejgadbpahbmaa
open Go.RowKit Sz
set_option linter.unusedSectionVars false
set_option maxHeartbeats 16000000
set_option maxRecDepth 20000
namespace Qu
open Rc
def RdI [Inp] (m : Mem) (s : SV) (L : List Int) : Prop := ∀ t, rdI (m ++ t) s = some L
section
variable [Inp] {m : Mem} {s s1 s2 : SV} {L : List Int} {l : List Ra.Rg} {b n : Int} {K : SV → Mem → Prop}
theorem RdI.get (h : RdI m s L) : rdI m s = some L := by have := h []; rwa [List.append_nil] at this
theorem RdI.ext (h : RdI m s L) (t : Mem) : RdI (m ++ t) s L := fun u => by rw [List.append_assoc]; exact h _
theorem iM_new (h : L ≠ []) : (m ++ rM (iL L))[m.length]? = some ⟨true, iL L⟩ := by
  rw [(ne_facts h).1, List.getElem?_append_right (Nat.le_refl _), Nat.sub_self]
  rfl
theorem RdI_new : RdI (m ++ rM (iL L)) (rS m.length 1 L.length) L := fun t => by
  by_cases h : L = []
  · rw [(nil_facts h).2, h]
    have := @rdI_v _ (m ++ rM (iL ([] : List Int)) ++ t) none 0 0 [] rfl
    exact this
  · rw [(ne_facts h).2]
    refine rdI_r (o := true) ?_
    rw [List.getElem?_append_left (by rw [List.length_append, (ne_facts h).1]; simp)]
    exact iM_new h
theorem i35 {l : List SV} : c35 l m K = @useI c35 l m ⟨K⟩ := Eq.trans rfl rfl
theorem i36 {l : List SV} : c36 l m K = @useI c36 l m ⟨K⟩ := Eq.trans rfl rfl
theorem i32 {l : List SV} : c32 l m K = @useI c32 l m ⟨K⟩ := Eq.trans rfl rfl
theorem i34 {l : List SV} : c34 l m K = @useI c34 l m ⟨K⟩ := Eq.trans rfl rfl
def Up (m m' : Mem) : Prop := (∀ s L, RdE m s L → RdE m' s L) ∧ (∀ s L, RdI m s L → RdI m' s L) ∧ ∀ (i : Nat) o, m[i]? = some o → m'[i]? = some o
theorem up_app (t : Mem) : Up m (m ++ t) := ⟨fun s L h => h.ext _, fun s L h => h.ext _, fun i o h => at_app h⟩
theorem useNew {F : List Int} (hk : ∀ j m', RdI m' (rS j 1 F.length) F → (F ≠ [] → m'[j]? = some ⟨true, iL F⟩) → Up m m' → K (rS j 1 F.length) m') : K (rS m.length 1 F.length) (m ++ rM (iL F)) := hk _ _ RdI_new (fun h => iM_new h) (up_app _)
theorem useFirst {F : List Int} (hF : grantF l (idN l.length) b n = F) (h1 : RdE m s l) (hl : l.length ≤ 1000) (hk : ∀ j m', RdI m' (rS j 1 F.length) F → (F ≠ [] → m'[j]? = some ⟨true, iL F⟩) → Up m m' → K (rS j 1 F.length) m') : c35 [s, .v (.int .i64 b), .v (.int .i64 n)] m K :=
  ⟨s, l, b, n, rfl, h1.get, hl, by rw [hF]; exact useNew hk⟩
theorem useMost {F : List Int} (hF : mostF l b n = F) (h1 : RdE m s l) (hl : l.length < 20) (hk : ∀ j m', RdI m' (rS j 1 F.length) F → (F ≠ [] → m'[j]? = some ⟨true, iL F⟩) → Up m m' → K (rS j 1 F.length) m') : c36 [s, .v (.int .i64 b), .v (.int .i64 n)] m K :=
  ⟨s, l, b, n, rfl, h1.get, hl, by rw [hF]; exact useNew hk⟩
theorem useFull {F : List Int} (hF : fullF l b n = F) (h1 : RdE m s l) (hl : l.length ≤ 1000) (hk : ∀ j m', RdI m' (rS j 1 F.length) F → (F ≠ [] → m'[j]? = some ⟨true, iL F⟩) → Up m m' → K (rS j 1 F.length) m') : c32 [s, .v (.int .i64 b), .v (.int .i64 n)] m K :=
  ⟨s, l, b, n, rfl, h1.get, hl, by rw [hF]; exact useNew hk⟩
theorem useWish (h1 : RdE m s l) (hl : l.length ≤ 1000) (hk : ∀ j m', RdE m' (rS j 2 l.length) l → Up m m' → K (rS j 2 l.length) m') : c34 [s] m K :=
  ⟨s, l, rfl, h1.get, by omega, hk _ _ RdE_new (up_app _)⟩
end
-- almshouse/almshouselaw41.fixed (0 parameters)
def x30 : XC := (.seq (.tree (.seq ⟨some 0, none, (.ofA (.mv (.cst (.v (.bool false)))))⟩
 .done))
 (.seq (.tree (.seq ⟨some 5, none, (.build [(.v (.int .i64 0)), (.v (.int .i64 0))] [(0, 1, (.cst (.v (.int .i64 8))))])⟩
 (.seq ⟨some 6, none, (.build [(.v (.int .i64 0)), (.v (.int .i64 0))] [(0, 1, (.cst (.v (.int .i64 3))))])⟩
 (.seq ⟨some 7, none, (.build [(.v (.int .i64 0)), (.v (.int .i64 0))] [(0, 1, (.cst (.v (.int .i64 1)))), (1, 1, (.cst (.v (.int .i64 1))))])⟩
 (.seq ⟨some 8, none, (.buildSl 2 3 [(.v (.int .i64 0)), (.v (.int .i64 0)), (.v (.int .i64 0)), (.v (.int .i64 0)), (.v (.int .i64 0)), (.v (.int .i64 0))] [(0, 2, (.tmp 5)), (2, 2, (.tmp 6)), (4, 2, (.tmp 7))])⟩
 (.seq ⟨some 1, none, (.ofA (.mv (.tmp 8)))⟩
 .done))))))
 (.seq (.tree (.seq ⟨some 9, none, (.ofA (.mv (.tmp 1)))⟩
 (.seq ⟨some 10, none, (.call (.cst (.fn 35 [])) [(.tmp 9), (.cst (.v (.int .i64 6))), (.cst (.v (.int .i64 4)))])⟩
 (.seq ⟨some 11, none, (.ofA (.mv (.tmp 1)))⟩
 (.seq ⟨some 12, none, (.call (.cst (.fn 36 [])) [(.tmp 11), (.cst (.v (.int .i64 6))), (.cst (.v (.int .i64 4)))])⟩
 (.seq ⟨some 13, none, (.ofA (.mv (.tmp 1)))⟩
 (.seq ⟨some 14, none, (.call (.cst (.fn 32 [])) [(.tmp 13), (.cst (.v (.int .i64 6))), (.cst (.v (.int .i64 4)))])⟩
 (.seq ⟨some 2, none, (.ofA (.mv (.tmp 10)))⟩
 (.seq ⟨some 3, none, (.ofA (.mv (.tmp 12)))⟩
 (.seq ⟨some 4, none, (.ofA (.mv (.tmp 14)))⟩
 .done))))))))))
 (.seq (.tree (.seq ⟨some 15, none, (.ofA (.mv (.tmp 1)))⟩
 (.seq ⟨some 16, none, (.ofA (.isl 2 (.tmp 15) (.cst (.v (.int .i64 0)))))⟩
 (.seq ⟨some 17, none, (.ofA (.load (some 2) (.tmp 16)))⟩
 (.seq ⟨some 18, none, (.call (.cst (.fn 62 [])) [(.tmp 17), (.cst (.v (.int .i64 4)))])⟩
 (.seq ⟨some 19, none, (.ofA (.bin .eql (.tmp 18) (.cst (.v (.int .i64 4)))))⟩
 (.seq ⟨some 20, none, (.ofA (.mv (.tmp 19)))⟩
 (.seq ⟨some 21, some (20, true), (.ofA (.mv (.tmp 2)))⟩
 (.seq ⟨some 22, some (20, true), (.ofA (.len (.tmp 21)))⟩
 (.seq ⟨some 23, some (20, true), (.ofA (.bin .eql (.tmp 22) (.cst (.v (.int .i64 2)))))⟩
 (.seq ⟨some 24, none, (.ofA (.pick (.tmp 20) (.tmp 23) (.cst (.v (.bool false)))))⟩
 (.seq ⟨some 25, none, (.ofA (.mv (.tmp 24)))⟩
 (.seq ⟨some 26, some (25, true), (.ofA (.mv (.tmp 2)))⟩
 (.seq ⟨some 27, some (25, true), (.ofA (.isl 1 (.tmp 26) (.cst (.v (.int .i64 1)))))⟩
 (.seq ⟨some 28, some (25, true), (.ofA (.load none (.tmp 27)))⟩
 (.seq ⟨some 29, some (25, true), (.ofA (.bin .eql (.tmp 28) (.cst (.v (.int .i64 1)))))⟩
 (.seq ⟨some 30, none, (.ofA (.pick (.tmp 25) (.tmp 29) (.cst (.v (.bool false)))))⟩
 (.seq ⟨some 31, none, (.ofA (.mv (.tmp 30)))⟩
 (.seq ⟨some 32, some (31, true), (.ofA (.mv (.tmp 3)))⟩
 (.seq ⟨some 33, some (31, true), (.ofA (.len (.tmp 32)))⟩
 (.seq ⟨some 34, some (31, true), (.ofA (.bin .eql (.tmp 33) (.cst (.v (.int .i64 2)))))⟩
 (.seq ⟨some 35, none, (.ofA (.pick (.tmp 31) (.tmp 34) (.cst (.v (.bool false)))))⟩
 (.seq ⟨some 36, none, (.ofA (.mv (.tmp 35)))⟩
 (.seq ⟨some 37, some (36, true), (.ofA (.mv (.tmp 3)))⟩
 (.seq ⟨some 38, some (36, true), (.ofA (.isl 1 (.tmp 37) (.cst (.v (.int .i64 0)))))⟩
 (.seq ⟨some 39, some (36, true), (.ofA (.load none (.tmp 38)))⟩
 (.seq ⟨some 40, some (36, true), (.ofA (.bin .eql (.tmp 39) (.cst (.v (.int .i64 1)))))⟩
 (.seq ⟨some 41, none, (.ofA (.pick (.tmp 36) (.tmp 40) (.cst (.v (.bool false)))))⟩
 (.seq ⟨some 42, none, (.ofA (.mv (.tmp 41)))⟩
 (.seq ⟨some 43, some (42, true), (.ofA (.mv (.tmp 4)))⟩
 (.seq ⟨some 44, some (42, true), (.ofA (.len (.tmp 43)))⟩
 (.seq ⟨some 45, some (42, true), (.ofA (.bin .eql (.tmp 44) (.cst (.v (.int .i64 2)))))⟩
 (.seq ⟨some 46, none, (.ofA (.pick (.tmp 42) (.tmp 45) (.cst (.v (.bool false)))))⟩
 (.seq ⟨some 47, none, (.ofA (.mv (.tmp 46)))⟩
 (.seq ⟨some 48, some (47, true), (.ofA (.mv (.tmp 4)))⟩
 (.seq ⟨some 49, some (47, true), (.ofA (.isl 1 (.tmp 48) (.cst (.v (.int .i64 0)))))⟩
 (.seq ⟨some 50, some (47, true), (.ofA (.load none (.tmp 49)))⟩
 (.seq ⟨some 51, some (47, true), (.ofA (.bin .eql (.tmp 50) (.cst (.v (.int .i64 0)))))⟩
 (.seq ⟨some 52, none, (.ofA (.pick (.tmp 47) (.tmp 51) (.cst (.v (.bool false)))))⟩
 (.seq ⟨some 53, none, (.ofA (.mv (.tmp 52)))⟩
 (.seq ⟨some 54, some (53, true), (.call (.cst (.fn 35 [])) [(.cst (.v (.slice none 0 0))), (.cst (.v (.int .i64 9))), (.cst (.v (.int .i64 4)))])⟩
 (.seq ⟨some 55, some (53, true), (.ofA (.len (.tmp 54)))⟩
 (.seq ⟨some 56, some (53, true), (.ofA (.bin .eql (.tmp 55) (.cst (.v (.int .i64 0)))))⟩
 (.seq ⟨some 57, none, (.ofA (.pick (.tmp 53) (.tmp 56) (.cst (.v (.bool false)))))⟩
 (.seq ⟨some 0, none, (.ofA (.mv (.tmp 57)))⟩
 .done)))))))))))))))))))))))))))))))))))))))))))))
 .ret))))
def r30 : List XR := [.tmp 0]
theorem fn30 : FnX Try.prog 30 [82, 68, 97, 118] 58 x30 r30 := ⟨_, Try.func30, by kernel_rfl, by kernel_rfl, by kernel_rfl, by kernel_rfl⟩
-- almshouse/almshouselaw41.QuotaMost (3 parameters)
def l30 : List Ra.Rg := [⟨8, 0⟩, ⟨3, 0⟩, ⟨1, 1⟩]
theorem srt_id {L : List Int} (h : L.Pairwise (· ≤ ·)) : srt L = L := by
  unfold srt
  refine List.mergeSort_of_pairwise (h.imp fun {a b} hab => by simpa using hab)
theorem v1 : grantF l30 (idN l30.length) 6 4 = [0, 1] := by
  have e : (grF (cA l30 4) (idN l30.length) (room 6)).2 = [0, 1] := by decide
  unfold grantF
  rw [e]
  exact srt_id (by decide)
theorem v2 : mostF l30 6 4 = [1, 2] := by
  have e : (grF (cA l30 4) (isN (cA l30 4) (idN l30.length)) (room 6)).2 = [1, 2] := by decide
  unfold mostF grantF
  rw [e]
  exact srt_id (by decide)
theorem v3 : fullF l30 6 4 = [0, 1] := by kernel_rfl
theorem v4 : grantF [] (idN ([] : List Ra.Rg).length) 9 4 = [] := by
  have e : (grF (cA [] 4) (idN ([] : List Ra.Rg).length) (room 9)).2 = [] := rfl
  unfold grantF
  rw [e]
  exact srt_id List.Pairwise.nil
def c30 [Inp] : Trans := fun args m k => args = [] ∧ k (.v (.bool true)) m
def G30 [Inp] : List CEntry := [⟨35, true, c35⟩, ⟨36, true, c36⟩, ⟨32, true, c32⟩, ⟨62, true, c62⟩]
theorem s30 [Inp] : GOk Try.prog G30 := GOk.cons c35_ok (GOk.cons c36_ok (GOk.cons c32_ok (GOk.cons c62_ok (g0 _))))
theorem c30_ok [I : Inp] : Contract Try.prog 30 true c30 := by
  refine .plainArgs fn30 s30 _ fun args m k h => ?_
  obtain ⟨rfl, hk⟩ := h
  refine ⟨rfl, by simp, ?_⟩
  simp (maxSteps := 2000000) -implicitDefEqProofs only [↓x30, ↓r30, ↓G30, ↓i35, ↓i36, ↓i32, ↓a62, s_alt, s_alt20, s_alt2t, s_alt2f, ↓s_loopi, ↓v_pq, ↓PRE, POST, CORE, Nat.reduceDiv, Nat.reduceMod, Int.reduceLT, Int.reduceLE, Int.reduceToNat, Int.reduceAdd, ↓reduceIte, Nat.reduceEqDiff, Nat.reduceAdd, Nat.reduceMul, Nat.reduceSub, Nat.reduceLeDiff, Nat.reduceLT, reduceCtorEq, if_true, eq_self, forall_const, implies_true]
  have hr : ∀ t, rdG ([⟨true, [.v (.int .i64 8), .v (.int .i64 0), .v (.int .i64 3), .v (.int .i64 0), .v (.int .i64 1), .v (.int .i64 1)]⟩] ++ t) (.row 0 0 3 2) = some l30 := fun t => rfl
  refine useI_of (useFirst v1 hr (by decide) fun j1 m1 r1 g1 u1 => ?_)
  replace g1 := g1 (by simp)
  simp (maxSteps := 2000000) -implicitDefEqProofs only [↓v_kq, ↓G30, ↓i35, ↓i36, ↓i32, ↓a62, s_alt, s_alt20, s_alt2t, s_alt2f, ↓s_loopi, ↓v_pq, ↓PRE, POST, CORE, Nat.reduceDiv, Nat.reduceMod, Int.reduceLT, Int.reduceLE, Int.reduceToNat, Int.reduceAdd, ↓reduceIte, Nat.reduceEqDiff, Nat.reduceAdd, Nat.reduceMul, Nat.reduceSub, Nat.reduceLeDiff, Nat.reduceLT, reduceCtorEq, if_true, eq_self, forall_const, implies_true]
  refine useI_of (useMost v2 (u1.1 _ _ hr) (by decide) fun j2 m2 r2 g2 u2 => ?_)
  replace g2 := g2 (by simp)
  simp (maxSteps := 2000000) -implicitDefEqProofs only [↓v_kq, ↓G30, ↓i35, ↓i36, ↓i32, ↓a62, s_alt, s_alt20, s_alt2t, s_alt2f, ↓s_loopi, ↓v_pq, ↓PRE, POST, CORE, Nat.reduceDiv, Nat.reduceMod, Int.reduceLT, Int.reduceLE, Int.reduceToNat, Int.reduceAdd, ↓reduceIte, Nat.reduceEqDiff, Nat.reduceAdd, Nat.reduceMul, Nat.reduceSub, Nat.reduceLeDiff, Nat.reduceLT, reduceCtorEq, if_true, eq_self, forall_const, implies_true]
  refine useI_of (useFull v3 (u2.1 _ _ (u1.1 _ _ hr)) (by decide) fun j3 m3 r3 g3 u3 => ?_)
  replace g3 := g3 (by simp)
  have a0 := u3.2.2 _ _ (u2.2.2 _ _ (u1.2.2 0 _ rfl))
  have a1 := u3.2.2 _ _ (u2.2.2 _ _ g1)
  have a2 := u3.2.2 _ _ g2
  have t0 : totF 8 0 4 = 4 := by decide
  rw [iL_cons, iL_cons, iL_nil] at a1 a2 g3
  simp (maxSteps := 2000000) -implicitDefEqProofs only [↓v_kq, ↓G30, ↓i35, ↓i36, ↓i32, ↓a62, a0, a1, a2, g3, t0, List.length_cons, List.length_nil, rS_s, s_alt, s_alt20, s_alt2t, s_alt2f, ↓s_loopi, ↓v_pq, ↓PRE, POST, CORE, Nat.reduceDiv, Nat.reduceMod, Int.reduceLT, Int.reduceLE, Int.reduceToNat, Int.reduceAdd, ↓reduceIte, Nat.reduceEqDiff, Nat.reduceAdd, Nat.reduceMul, Nat.reduceSub, Nat.reduceLeDiff, Nat.reduceLT, reduceCtorEq, if_true, eq_self, forall_const, implies_true]
  simp only [beq_self_eq_true, if_true]
  refine useI_of (useFirst v4 (l := []) (fun t => rdG_nil) (by decide) fun j4 m4 r4 g4 u4 => ?_)
  rw [List.length_nil, rS_0]
  simp (maxSteps := 2000000) -implicitDefEqProofs only [↓v_kq, beq_self_eq_true, s_alt, s_alt20, s_alt2t, s_alt2f, ↓s_loopi, ↓v_pq, ↓PRE, POST, CORE, Nat.reduceDiv, Nat.reduceMod, Int.reduceLT, Int.reduceLE, Int.reduceToNat, Int.reduceAdd, ↓reduceIte, Nat.reduceEqDiff, Nat.reduceAdd, Nat.reduceMul, Nat.reduceSub, Nat.reduceLeDiff, Nat.reduceLT, reduceCtorEq, if_true, eq_self, forall_const, implies_true]
  exact hk
theorem i30 [Inp] {l : List SV} {m : Mem} {K : SV → Mem → Prop} : c30 l m K = @useI c30 l m ⟨K⟩ := Eq.trans rfl rfl
end Qu
end Go.Proofs.Ytcejgadbpahbmaa
end
section
namespace Go.Proofs.Ytcejgadbpahbmaa
open Go.RowKit Sz
set_option linter.unusedSectionVars false
set_option maxHeartbeats 16000000
set_option maxRecDepth 20000
namespace Qu
open Rc
-- almshouse/almshouselaw41.QuotaFullest (3 parameters)
def x7 : XC := (.seq (.tree (.seq ⟨some 6, none, (.ofA (.mv (.cst (.v (.bool false)))))⟩
 .done))
 (.seq (.seq (.tree (.seq ⟨some 7, none, (.call (.cst (.fn 30 [])) [])⟩
 (.seq ⟨some 8, none, (.ofA (.un .not (.tmp 7)))⟩
 .done)))
 (.cond (.tmp 8)
 (.seq (.tree (.seq ⟨some 6, none, (.ofA (.mv (.cst (.v (.bool false)))))⟩
 .done))
 .ret)
 .skip))
 (.seq (.seq (.tree (.seq ⟨some 9, none, (.ofA (.mv (.tmp 0)))⟩
 (.seq ⟨some 10, none, (.ofA (.len (.tmp 9)))⟩
 (.seq ⟨some 11, none, (.ofA (.bin .gtr (.tmp 10) (.cst (.v (.int .i64 14)))))⟩
 .done))))
 (.cond (.tmp 11)
 (.seq (.tree (.seq ⟨some 6, none, (.ofA (.mv (.cst (.v (.bool true)))))⟩
 .done))
 .ret)
 .skip))
 (.seq (.seq (.tree (.seq ⟨some 12, none, (.ofA (.mv (.tmp 0)))⟩
 (.seq ⟨some 13, none, (.ofA (.len (.tmp 12)))⟩
 (.seq ⟨some 14, none, (.ofA (.bin .gtr (.tmp 13) (.cst (.v (.int .i64 7)))))⟩
 (.seq ⟨some 15, none, (.ofA (.mv (.tmp 14)))⟩
 (.seq ⟨some 16, some (15, true), (.ofA (.mv (.tmp 0)))⟩
 (.seq ⟨some 17, some (15, true), (.ofA (.len (.tmp 16)))⟩
 (.seq ⟨some 18, some (15, true), (.ofA (.bin .leq (.tmp 17) (.cst (.v (.int .i64 12)))))⟩
 (.seq ⟨some 19, none, (.ofA (.pick (.tmp 15) (.tmp 18) (.cst (.v (.bool false)))))⟩
 .done)))))))))
 (.cond (.tmp 19)
 (.tree (.seq ⟨some 20, none, (.ofA (.mv (.tmp 0)))⟩
 (.seq ⟨some 21, none, (.ofA (.slc 2 (.tmp 20) none (some (.cst (.v (.int .i64 7))))))⟩
 (.seq ⟨some 0, none, (.ofA (.mv (.tmp 21)))⟩
 .done))))
 .skip))
 (.seq (.tree (.seq ⟨some 22, none, (.ofA (.mv (.tmp 0)))⟩
 (.seq ⟨some 23, none, (.ofA (.mv (.tmp 1)))⟩
 (.seq ⟨some 24, none, (.ofA (.mv (.tmp 2)))⟩
 (.seq ⟨some 25, none, (.call (.cst (.fn 32 [])) [(.tmp 22), (.tmp 23), (.tmp 24)])⟩
 (.seq ⟨some 26, none, (.ofA (.mv (.tmp 0)))⟩
 (.seq ⟨some 27, none, (.call (.cst (.fn 34 [])) [(.tmp 26)])⟩
 (.seq ⟨some 28, none, (.ofA (.mv (.tmp 1)))⟩
 (.seq ⟨some 29, none, (.ofA (.mv (.tmp 2)))⟩
 (.seq ⟨some 30, none, (.call (.cst (.fn 33 [])) [(.tmp 27), (.tmp 28), (.tmp 29)])⟩
 (.seq ⟨some 31, none, (.call (.cst (.fn 31 [])) [(.tmp 25), (.tmp 30)])⟩
 (.seq ⟨some 6, none, (.ofA (.mv (.tmp 31)))⟩
 .done))))))))))))
 .ret)))))
def r7 : List XR := [.tmp 6]
theorem fn7 : FnX Try.prog 7 [82, 68, 97, 118, 64] 32 x7 r7 := ⟨_, Try.func7, by kernel_rfl, by kernel_rfl, by kernel_rfl, by kernel_rfl⟩
section
variable [Inp] {m : Mem} {s s1 s2 : SV} {L : List Int} {l : List Ra.Rg} {b n : Int} {K : SV → Mem → Prop}
theorem i33 {l : List SV} : c33 l m K = @useI c33 l m ⟨K⟩ := Eq.trans rfl rfl
theorem i31 {l : List SV} : c31 l m K = @useI c31 l m ⟨K⟩ := Eq.trans rfl rfl
theorem useDoc33 {F : List Int} (hF : refF l b n = F) (h1 : RdE m s l) (hl : l.length ≤ 1000) (hk : ∀ j m', RdI m' (rS j 1 F.length) F → (F ≠ [] → m'[j]? = some ⟨true, iL F⟩) → Up m m' → K (rS j 1 F.length) m') : c33 [s, .v (.int .i64 b), .v (.int .i64 n)] m K :=
  ⟨s, l, b, n, rfl, h1.get, hl, by rw [hF]; exact useNew hk⟩
end
theorem fullF_len (l : List Ra.Rg) (b n : Int) : (fullF l b n).length ≤ l.length := by
  unfold fullF
  split
  · simp
  · exact bitsL_len _ _
theorem rowV_take : ∀ (k : Nat) (l : List Ra.Rg), (rowV gV l).take (k * 2) = rowV gV (l.take k)
  | 0, l => by simp [rowV]
  | k + 1, [] => by simp [rowV]
  | k + 1, r :: l => by
    have e : rowV gV (r :: l) = .int .i64 r.fr :: .int .i64 r.to :: rowV gV l := rfl
    rw [e, show (k + 1) * 2 = k * 2 + 1 + 1 by omega, List.take_succ_cons, List.take_succ_cons, rowV_take k l, List.take_succ_cons]
    rfl
def c7 [Inp] : Trans := fun args m k => ∃ (p : Option Addr) (c : Nat) (l : List Ra.Rg) (b n : Int), args = [.v (.slice p l.length c), .v (.int .i64 b), .v (.int .i64 n)] ∧ inpL p (l.length * 2) = some (rowV gV l) ∧ l.length ≤ c ∧ k (.v (.bool true)) m
def G7 [Inp] : List CEntry := [⟨30, true, c30⟩, ⟨34, true, c34⟩, ⟨32, true, c32⟩, ⟨33, true, c33⟩, ⟨31, true, c31⟩]
theorem s7 [Inp] : GOk Try.prog G7 := GOk.cons c30_ok (GOk.cons c34_ok (GOk.cons c32_ok (GOk.cons c33_ok (GOk.cons c31_ok (g0 _)))))
theorem c7_ok [I : Inp] : Contract Try.prog 7 true c7 := by
  refine .plain0 fn7 (G := fun J => @G7 J) (fun J => @s7 J) _ fun args m k h => ?_
  obtain ⟨p, c, l, b, n, rfl, hin, hlc, hk⟩ := h
  refine ⟨[], [], [.v (.slice p l.length c), .v (.int .i64 b), .v (.int .i64 n)], by simp, trivial, by simp, LeL_plain _ rfl, by simp, fun J hK hI => ?_⟩
  replace hin := hI _ _ _ hin
  simp (maxSteps := 2000000) -implicitDefEqProofs only [↓x7, ↓r7, ↓G7, ↓i30, s_alt, s_alt20, s_alt2t, s_alt2f, ↓s_loopi, ↓v_pq, ↓PRE, POST, CORE, Nat.reduceDiv, Nat.reduceMod, Int.reduceLT, Int.reduceLE, Int.reduceToNat, Int.reduceAdd, ↓reduceIte, Nat.reduceEqDiff, Nat.reduceAdd, Nat.reduceMul, Nat.reduceSub, Nat.reduceLeDiff, Nat.reduceLT, reduceCtorEq, if_true, eq_self, forall_const, implies_true]
  refine useI_of ⟨rfl, ?_⟩
  by_cases hl : (14 : Int) < (l.length : Int)
  · simp (maxSteps := 2000000) -implicitDefEqProofs only [↓v_kq, hl, s_alt, s_alt20, s_alt2t, s_alt2f, ↓s_loopi, ↓v_pq, ↓PRE, POST, CORE, Nat.reduceDiv, Nat.reduceMod, Int.reduceLT, Int.reduceLE, Int.reduceToNat, Int.reduceAdd, ↓reduceIte, Nat.reduceEqDiff, Nat.reduceAdd, Nat.reduceMul, Nat.reduceSub, Nat.reduceLeDiff, Nat.reduceLT, reduceCtorEq, if_true, eq_self, forall_const, implies_true]
    exact hk
  by_cases h7 : (7 : Int) < (l.length : Int)
  · by_cases h12 : (l.length : Int) ≤ 12
    · simp (maxSteps := 2000000) -implicitDefEqProofs only [↓v_kq, ↓G7, hl, gt_iff_lt, h7, h12, ↓i34, ↓i32, ↓i33, ↓i31, s_alt, s_alt20, s_alt2t, s_alt2f, ↓s_loopi, ↓v_pq, ↓PRE, POST, CORE, Nat.reduceDiv, Nat.reduceMod, Int.reduceLT, Int.reduceLE, Int.reduceToNat, Int.reduceAdd, ↓reduceIte, Nat.reduceEqDiff, Nat.reduceAdd, Nat.reduceMul, Nat.reduceSub, Nat.reduceLeDiff, Nat.reduceLT, reduceCtorEq, if_true, eq_self, forall_const, implies_true]
      refine ⟨by omega, ?_⟩
      have hcut := inpL_cut (l := 0) (h := 7) hin (by omega) (by omega) hlc
      rw [Nat.zero_mul, List.drop_zero, Nat.sub_zero, rowV_take] at hcut
      have hl7 : (l.take 7).length = 7 := by rw [List.length_take]; omega
      generalize l.take 7 = l7 at hcut hl7
      have hall : l7.length ≤ 7 ∨ 12 < l7.length := by omega
      have hin7 : inpL (cutA p 0 c 2) (l7.length * 2) = some (rowV gV l7) := by rw [hl7]; exact hcut
      have hfl := fullF_len l7 b n
      rw [← hl7]
      refine useI_of (useFull rfl (RdE_v hin7) (by omega) fun j2 m2 r2 _ u2 => ?_)
      simp (maxSteps := 2000000) -implicitDefEqProofs only [↓v_kq, ↓G7, ↓i34, ↓i32, ↓i33, ↓i31, s_alt, s_alt20, s_alt2t, s_alt2f, ↓s_loopi, ↓v_pq, ↓PRE, POST, CORE, Nat.reduceDiv, Nat.reduceMod, Int.reduceLT, Int.reduceLE, Int.reduceToNat, Int.reduceAdd, ↓reduceIte, Nat.reduceEqDiff, Nat.reduceAdd, Nat.reduceMul, Nat.reduceSub, Nat.reduceLeDiff, Nat.reduceLT, reduceCtorEq, if_true, eq_self, forall_const, implies_true]
      refine useI_of (useWish (RdE_v hin7) (by omega) fun j3 m3 r3 u3 => ?_)
      simp (maxSteps := 2000000) -implicitDefEqProofs only [↓v_kq, ↓G7, ↓i34, ↓i32, ↓i33, ↓i31, s_alt, s_alt20, s_alt2t, s_alt2f, ↓s_loopi, ↓v_pq, ↓PRE, POST, CORE, Nat.reduceDiv, Nat.reduceMod, Int.reduceLT, Int.reduceLE, Int.reduceToNat, Int.reduceAdd, ↓reduceIte, Nat.reduceEqDiff, Nat.reduceAdd, Nat.reduceMul, Nat.reduceSub, Nat.reduceLeDiff, Nat.reduceLT, reduceCtorEq, if_true, eq_self, forall_const, implies_true]
      refine useI_of (useDoc33 (full_eq hall).symm r3 (by omega) fun j4 m4 r4 _ u4 => ?_)
      simp (maxSteps := 2000000) -implicitDefEqProofs only [↓v_kq, ↓G7, ↓i34, ↓i32, ↓i33, ↓i31, s_alt, s_alt20, s_alt2t, s_alt2f, ↓s_loopi, ↓v_pq, ↓PRE, POST, CORE, Nat.reduceDiv, Nat.reduceMod, Int.reduceLT, Int.reduceLE, Int.reduceToNat, Int.reduceAdd, ↓reduceIte, Nat.reduceEqDiff, Nat.reduceAdd, Nat.reduceMul, Nat.reduceSub, Nat.reduceLeDiff, Nat.reduceLT, reduceCtorEq, if_true, eq_self, forall_const, implies_true]
      refine useI_of ⟨_, _, _, _, rfl, (u4.2.1 _ _ (u3.2.1 _ _ r2)).get, r4.get, by omega, rfl, ?_⟩
      simp (maxSteps := 2000000) -implicitDefEqProofs only [↓v_kq, s_alt, s_alt20, s_alt2t, s_alt2f, ↓s_loopi, ↓v_pq, ↓PRE, POST, CORE, Nat.reduceDiv, Nat.reduceMod, Int.reduceLT, Int.reduceLE, Int.reduceToNat, Int.reduceAdd, ↓reduceIte, Nat.reduceEqDiff, Nat.reduceAdd, Nat.reduceMul, Nat.reduceSub, Nat.reduceLeDiff, Nat.reduceLT, reduceCtorEq, if_true, eq_self, forall_const, implies_true]
      exact hk
    · have hall : l.length ≤ 7 ∨ 12 < l.length := by omega
      simp (maxSteps := 2000000) -implicitDefEqProofs only [↓v_kq, ↓G7, hl, gt_iff_lt, h7, h12, ↓i34, ↓i32, ↓i33, ↓i31, s_alt, s_alt20, s_alt2t, s_alt2f, ↓s_loopi, ↓v_pq, ↓PRE, POST, CORE, Nat.reduceDiv, Nat.reduceMod, Int.reduceLT, Int.reduceLE, Int.reduceToNat, Int.reduceAdd, ↓reduceIte, Nat.reduceEqDiff, Nat.reduceAdd, Nat.reduceMul, Nat.reduceSub, Nat.reduceLeDiff, Nat.reduceLT, reduceCtorEq, if_true, eq_self, forall_const, implies_true]
      have hfl := fullF_len l b n
      refine useI_of (useFull rfl (RdE_v hin) (by omega) fun j2 m2 r2 _ u2 => ?_)
      simp (maxSteps := 2000000) -implicitDefEqProofs only [↓v_kq, ↓G7, ↓i34, ↓i32, ↓i33, ↓i31, s_alt, s_alt20, s_alt2t, s_alt2f, ↓s_loopi, ↓v_pq, ↓PRE, POST, CORE, Nat.reduceDiv, Nat.reduceMod, Int.reduceLT, Int.reduceLE, Int.reduceToNat, Int.reduceAdd, ↓reduceIte, Nat.reduceEqDiff, Nat.reduceAdd, Nat.reduceMul, Nat.reduceSub, Nat.reduceLeDiff, Nat.reduceLT, reduceCtorEq, if_true, eq_self, forall_const, implies_true]
      refine useI_of (useWish (RdE_v hin) (by omega) fun j3 m3 r3 u3 => ?_)
      simp (maxSteps := 2000000) -implicitDefEqProofs only [↓v_kq, ↓G7, ↓i34, ↓i32, ↓i33, ↓i31, s_alt, s_alt20, s_alt2t, s_alt2f, ↓s_loopi, ↓v_pq, ↓PRE, POST, CORE, Nat.reduceDiv, Nat.reduceMod, Int.reduceLT, Int.reduceLE, Int.reduceToNat, Int.reduceAdd, ↓reduceIte, Nat.reduceEqDiff, Nat.reduceAdd, Nat.reduceMul, Nat.reduceSub, Nat.reduceLeDiff, Nat.reduceLT, reduceCtorEq, if_true, eq_self, forall_const, implies_true]
      refine useI_of (useDoc33 (full_eq hall).symm r3 (by omega) fun j4 m4 r4 _ u4 => ?_)
      simp (maxSteps := 2000000) -implicitDefEqProofs only [↓v_kq, ↓G7, ↓i34, ↓i32, ↓i33, ↓i31, s_alt, s_alt20, s_alt2t, s_alt2f, ↓s_loopi, ↓v_pq, ↓PRE, POST, CORE, Nat.reduceDiv, Nat.reduceMod, Int.reduceLT, Int.reduceLE, Int.reduceToNat, Int.reduceAdd, ↓reduceIte, Nat.reduceEqDiff, Nat.reduceAdd, Nat.reduceMul, Nat.reduceSub, Nat.reduceLeDiff, Nat.reduceLT, reduceCtorEq, if_true, eq_self, forall_const, implies_true]
      refine useI_of ⟨_, _, _, _, rfl, (u4.2.1 _ _ (u3.2.1 _ _ r2)).get, r4.get, by omega, rfl, ?_⟩
      simp (maxSteps := 2000000) -implicitDefEqProofs only [↓v_kq, s_alt, s_alt20, s_alt2t, s_alt2f, ↓s_loopi, ↓v_pq, ↓PRE, POST, CORE, Nat.reduceDiv, Nat.reduceMod, Int.reduceLT, Int.reduceLE, Int.reduceToNat, Int.reduceAdd, ↓reduceIte, Nat.reduceEqDiff, Nat.reduceAdd, Nat.reduceMul, Nat.reduceSub, Nat.reduceLeDiff, Nat.reduceLT, reduceCtorEq, if_true, eq_self, forall_const, implies_true]
      exact hk
  · have hall : l.length ≤ 7 ∨ 12 < l.length := by omega
    simp (maxSteps := 2000000) -implicitDefEqProofs only [↓v_kq, ↓G7, hl, gt_iff_lt, h7, ↓i34, ↓i32, ↓i33, ↓i31, s_alt, s_alt20, s_alt2t, s_alt2f, ↓s_loopi, ↓v_pq, ↓PRE, POST, CORE, Nat.reduceDiv, Nat.reduceMod, Int.reduceLT, Int.reduceLE, Int.reduceToNat, Int.reduceAdd, ↓reduceIte, Nat.reduceEqDiff, Nat.reduceAdd, Nat.reduceMul, Nat.reduceSub, Nat.reduceLeDiff, Nat.reduceLT, reduceCtorEq, if_true, eq_self, forall_const, implies_true]
    have hfl := fullF_len l b n
    refine useI_of (useFull rfl (RdE_v hin) (by omega) fun j2 m2 r2 _ u2 => ?_)
    simp (maxSteps := 2000000) -implicitDefEqProofs only [↓v_kq, ↓G7, ↓i34, ↓i32, ↓i33, ↓i31, s_alt, s_alt20, s_alt2t, s_alt2f, ↓s_loopi, ↓v_pq, ↓PRE, POST, CORE, Nat.reduceDiv, Nat.reduceMod, Int.reduceLT, Int.reduceLE, Int.reduceToNat, Int.reduceAdd, ↓reduceIte, Nat.reduceEqDiff, Nat.reduceAdd, Nat.reduceMul, Nat.reduceSub, Nat.reduceLeDiff, Nat.reduceLT, reduceCtorEq, if_true, eq_self, forall_const, implies_true]
    refine useI_of (useWish (RdE_v hin) (by omega) fun j3 m3 r3 u3 => ?_)
    simp (maxSteps := 2000000) -implicitDefEqProofs only [↓v_kq, ↓G7, ↓i34, ↓i32, ↓i33, ↓i31, s_alt, s_alt20, s_alt2t, s_alt2f, ↓s_loopi, ↓v_pq, ↓PRE, POST, CORE, Nat.reduceDiv, Nat.reduceMod, Int.reduceLT, Int.reduceLE, Int.reduceToNat, Int.reduceAdd, ↓reduceIte, Nat.reduceEqDiff, Nat.reduceAdd, Nat.reduceMul, Nat.reduceSub, Nat.reduceLeDiff, Nat.reduceLT, reduceCtorEq, if_true, eq_self, forall_const, implies_true]
    refine useI_of (useDoc33 (full_eq hall).symm r3 (by omega) fun j4 m4 r4 _ u4 => ?_)
    simp (maxSteps := 2000000) -implicitDefEqProofs only [↓v_kq, ↓G7, ↓i34, ↓i32, ↓i33, ↓i31, s_alt, s_alt20, s_alt2t, s_alt2f, ↓s_loopi, ↓v_pq, ↓PRE, POST, CORE, Nat.reduceDiv, Nat.reduceMod, Int.reduceLT, Int.reduceLE, Int.reduceToNat, Int.reduceAdd, ↓reduceIte, Nat.reduceEqDiff, Nat.reduceAdd, Nat.reduceMul, Nat.reduceSub, Nat.reduceLeDiff, Nat.reduceLT, reduceCtorEq, if_true, eq_self, forall_const, implies_true]
    refine useI_of ⟨_, _, _, _, rfl, (u4.2.1 _ _ (u3.2.1 _ _ r2)).get, r4.get, by omega, rfl, ?_⟩
    simp (maxSteps := 2000000) -implicitDefEqProofs only [↓v_kq, s_alt, s_alt20, s_alt2t, s_alt2f, ↓s_loopi, ↓v_pq, ↓PRE, POST, CORE, Nat.reduceDiv, Nat.reduceMod, Int.reduceLT, Int.reduceLE, Int.reduceToNat, Int.reduceAdd, ↓reduceIte, Nat.reduceEqDiff, Nat.reduceAdd, Nat.reduceMul, Nat.reduceSub, Nat.reduceLeDiff, Nat.reduceLT, reduceCtorEq, if_true, eq_self, forall_const, implies_true]
    exact hk
end Qu
end Go.Proofs.Ytcejgadbpahbmaa
end
section
namespace Go.Proofs.Ytcejgadbpahbmaa
open Go.ChangeShapes Go.WideShapes Go.ChangeAt Go.RowKit Go.Deep
theorem add_plain' (g o j : Nat) : (⟨g, o, none⟩ : Addr).add j = ⟨g, o + j, none⟩ := by unfold Addr.add; split <;> simp_all
inductive Sh where
  | nil
  | int (k : IntKind) (r : Sh)
  | bool (r : Sh)
  | str (r : Sh)
  | sl (e : Sh) (r : Sh)
def Sh.len : Sh → Nat
  | .nil => 0
  | .int _ r | .bool r | .str r | .sl _ r => r.len + 1
def Sh.app : Sh → Sh → Sh
  | .nil, b => b
  | .int k r, b => .int k (r.app b)
  | .bool r, b => .bool (r.app b)
  | .str r, b => .str (r.app b)
  | .sl e r, b => .sl e (r.app b)
def Sh.rep (a : Sh) : Nat → Sh
  | 0 => .nil
  | n + 1 => a.app (a.rep n)
def SlFits (w : World) (v : Value) (sz : Nat) (F : List Value → Prop) : Prop :=
  ∃ A n c, v = .slice A n c ∧ n ≤ c ∧ c ≤ maxLen ∧ (A = none → c = 0) ∧
    ∀ a, A = some a → ∀ i, i < n → ∃ cs : List Value, cs.length = sz ∧ (∀ j u, cs[j]? = some u → w.cell? ((a.add (i * sz)).add j) = some u) ∧ F cs
def Sh.fits (w : World) : Sh → List Value → Prop
  | .nil, cs => cs = []
  | .int k r, cs => ∃ n cs', cs = .int k n :: cs' ∧ (Lit.int k n).wf = true ∧ r.fits w cs'
  | .bool r, cs => ∃ b cs', cs = .bool b :: cs' ∧ r.fits w cs'
  | .str r, cs => ∃ s cs', cs = .string s :: cs' ∧ s.size ≤ maxLen ∧ r.fits w cs'
  | .sl e r, cs => ∃ v cs', cs = v :: cs' ∧ SlFits w v e.len (e.fits w) ∧ r.fits w cs'
theorem Sh.fits_len {w : World} : ∀ {s : Sh} {cs : List Value}, s.fits w cs → cs.length = s.len
  | .nil, cs, h => by simp only [Sh.fits] at h; simp [h, Sh.len]
  | .int k r, cs, h => by obtain ⟨n, cs', rfl, _, h'⟩ := h; simp [Sh.len, Sh.fits_len h']
  | .bool r, cs, h => by obtain ⟨n, cs', rfl, h'⟩ := h; simp [Sh.len, Sh.fits_len h']
  | .str r, cs, h => by obtain ⟨n, cs', rfl, _, h'⟩ := h; simp [Sh.len, Sh.fits_len h']
  | .sl e r, cs, h => by obtain ⟨n, cs', rfl, _, h'⟩ := h; simp [Sh.len, Sh.fits_len h']
theorem Sh.fits_app {w : World} {b : Sh} {ds : List Value} (hb : b.fits w ds) : ∀ {a : Sh} {cs : List Value}, a.fits w cs → (a.app b).fits w (cs ++ ds)
  | .nil, cs, h => by simp only [Sh.fits] at h; subst h; simpa [Sh.app] using hb
  | .int k r, cs, h => by obtain ⟨n, cs', rfl, h1, h'⟩ := h; exact ⟨n, cs' ++ ds, rfl, h1, Sh.fits_app hb h'⟩
  | .bool r, cs, h => by obtain ⟨n, cs', rfl, h'⟩ := h; exact ⟨n, cs' ++ ds, rfl, Sh.fits_app hb h'⟩
  | .str r, cs, h => by obtain ⟨n, cs', rfl, h1, h'⟩ := h; exact ⟨n, cs' ++ ds, rfl, h1, Sh.fits_app hb h'⟩
  | .sl e r, cs, h => by obtain ⟨n, cs', rfl, h1, h'⟩ := h; exact ⟨n, cs' ++ ds, rfl, h1, Sh.fits_app hb h'⟩
theorem Sh.app_len : ∀ {a b : Sh}, (a.app b).len = a.len + b.len
  | .nil, b => by simp [Sh.app, Sh.len]
  | .int k r, b => by simp [Sh.app, Sh.len, Sh.app_len (a := r)]; omega
  | .bool r, b => by simp [Sh.app, Sh.len, Sh.app_len (a := r)]; omega
  | .str r, b => by simp [Sh.app, Sh.len, Sh.app_len (a := r)]; omega
  | .sl e r, b => by simp [Sh.app, Sh.len, Sh.app_len (a := r)]; omega
section
variable (P : Program)
end
section
variable {P : Program} {H : Type} {enc : TypeId × Value → H} {w : World} {base : Nat} {spare : Nat → Bool} {held : Bool}
end
theorem sl_open {w : World} {v : Value} {sz : Nat} {F : List Value → Prop} (h : SlFits w v sz F) (hsz : 0 < sz) :
    ∃ A n c, v = .slice A n c ∧ n ≤ c ∧ c ≤ maxLen ∧ (n = 0 ∨ ∃ g o, A = some ⟨g, o, none⟩ ∧ ∀ i, i < n → ∃ cs : List Value, cs.length = sz ∧ (∀ j u, cs[j]? = some u → w.cell? ⟨g, o + i * sz + j, none⟩ = some u) ∧ F cs) := by
  obtain ⟨A, n, c, rfl, hn, hc, hA, hcell⟩ := h
  refine ⟨A, n, c, rfl, hn, hc, ?_⟩
  rcases Nat.eq_zero_or_pos n with h0 | h0
  · exact .inl h0
  · right
    cases A with
    | none => have := hA rfl; omega
    | some a =>
      obtain ⟨g, o, spot⟩ := a
      obtain ⟨cs, hl, hg, _⟩ := hcell _ rfl 0 h0
      obtain ⟨x, hx⟩ : ∃ x, cs[0]? = some x := ⟨_, List.getElem?_eq_getElem (by omega)⟩
      have hc0 := hg 0 x hx
      have hspot : spot = Option.none := by simpa [Addr.add] using World.cell?_spot hc0
      subst hspot
      refine ⟨g, o, rfl, fun i hi => ?_⟩
      obtain ⟨cs, hl, hg, hF⟩ := hcell _ rfl i hi
      refine ⟨cs, hl, fun j u hj => ?_, hF⟩
      have := hg j u hj
      rwa [add_plain', add_plain'] at this
theorem list_of {α : Type} {p : Nat → α → Prop} : ∀ (n : Nat), (∀ i, i < n → ∃ x, p i x) → ∃ l : List α, l.length = n ∧ ∀ i x, l[i]? = some x → p i x
  | 0, _ => ⟨[], rfl, fun i x h => by simp at h⟩
  | n + 1, h => by
    obtain ⟨l, hl, hp⟩ := list_of n (fun i hi => h i (by omega))
    obtain ⟨x, hx⟩ := h n (by omega)
    refine ⟨l ++ [x], by simp [hl], fun i y hy => ?_⟩
    rcases Nat.lt_or_ge i n with hi | hi
    · rw [List.getElem?_append_left (by omega)] at hy; exact hp i y hy
    · rw [List.getElem?_append_right (by omega)] at hy
      have : i - l.length = 0 := by
        rcases Nat.eq_zero_or_pos (i - l.length) with h | h
        · exact h
        · rw [List.getElem?_eq_none (by simp; omega)] at hy; cases hy
      rw [this] at hy
      simp at hy
      subst hy
      have : i = n := by omega
      subst this; exact hx
end Go.Proofs.Ytcejgadbpahbmaa
end
section
namespace Go.Proofs.Ytcejgadbpahbmaa.Sz
open Go.RowKit
theorem rowV_get {α : Type} {cs : α → List Value} {z : Nat} (hz : ∀ x, (cs x).length = z) (h0 : 0 < z) : ∀ {l : List α} {j : Nat} {u : Value}, (rowV cs l)[j]? = some u → ∃ x, l[j / z]? = some x ∧ (cs x)[j % z]? = some u
  | [], j, u, h => by simp [rowV] at h
  | x :: l, j, u, h => by
    have e : rowV cs (x :: l) = cs x ++ rowV cs l := rfl
    rw [e] at h
    by_cases hj : j < z
    · rw [List.getElem?_append_left (by rw [hz]; exact hj)] at h
      exact ⟨x, by rw [Nat.div_eq_of_lt hj]; rfl, by rw [Nat.mod_eq_of_lt hj]; exact h⟩
    · rw [List.getElem?_append_right (by rw [hz]; omega), hz] at h
      obtain ⟨y, h1, h2⟩ := rowV_get hz h0 h
      refine ⟨y, ?_, ?_⟩
      · rw [Nat.div_eq_sub_div h0 (by omega)]
        simpa using h1
      · rw [Nat.mod_eq_sub_mod (by omega)]; exact h2
theorem rows_of_sl {α : Type} {cs : α → List Value} {z : Nat} (hz : ∀ x, (cs x).length = z) (h0 : 0 < z) {W : World} {v : Value} {F : List Value → Prop} {Q : α → Prop} (h : SlFits W v z F) (hF : ∀ l, F l → ∃ x, cs x = l ∧ Q x) :
    ∃ A n c l, v = .slice A n c ∧ n ≤ c ∧ c ≤ 9223372036854775807 ∧ l.length = n ∧ (∀ x ∈ l, Q x) ∧ @inpL (inpOf W) A (n * z) = some (rowV cs l) := by
  obtain ⟨A, n, c, rfl, hn, hc, hh⟩ := sl_open h h0
  have hc' : c ≤ 9223372036854775807 := by simpa [maxLen] using hc
  rcases hh with rfl | ⟨g, o, rfl, hcell⟩
  · exact ⟨A, 0, c, [], rfl, hn, hc', rfl, by simp, by simp [inpL, rowV]⟩
  · obtain ⟨l, hl, hp⟩ := list_of (p := fun i x => Q x ∧ ∀ j u, (cs x)[j]? = some u → W.cell? ⟨g, o + i * z + j, none⟩ = some u) n (fun i hi => by
      obtain ⟨us, _, h1, h2⟩ := hcell i hi
      obtain ⟨x, rfl, hq⟩ := hF us h2
      exact ⟨x, hq, h1⟩)
    refine ⟨_, n, c, l, rfl, hn, hc', hl, fun x hx => ?_, inpL_of (I := inpOf W) (by rw [rowV_len hz, hl]) fun _ => ⟨_, rfl, rfl, fun j u hj => ?_⟩⟩
    · obtain ⟨i, hi⟩ := List.getElem?_of_mem hx
      exact (hp i x hi).1
    · obtain ⟨x, h1, h2⟩ := rowV_get hz h0 hj
      have := (hp _ x h1).2 _ u h2
      show W.cell? ((⟨g, o, none⟩ : Addr).add j) = some u
      rw [Addr.add_lit]
      have e : o + j / z * z + j % z = o + j := by rw [Nat.add_assoc, Nat.mul_comm, Nat.div_add_mod]
      rwa [e] at this
end Go.Proofs.Ytcejgadbpahbmaa.Sz
end
section
namespace Go.Proofs.Ytcejgadbpahbmaa
open Go.ChangeShapes Go.WideShapes Go.ChangeAt Go.RowKit Go.Deep
inductive ShR where
  | nil
  | int (k : IntKind) (r : ShR)
  | bool (r : ShR)
  | str (r : ShR)
  | sl (b : Nat) (e : ShR) (r : ShR)
def ShR.len : ShR → Nat
  | .nil => 0
  | .int _ r | .bool r | .str r | .sl _ _ r => r.len + 1
def ShR.app : ShR → ShR → ShR
  | .nil, b => b
  | .int k r, b => .int k (r.app b)
  | .bool r, b => .bool (r.app b)
  | .str r, b => .str (r.app b)
  | .sl q e r, b => .sl q e (r.app b)
def ShR.rep (a : ShR) : Nat → ShR
  | 0 => .nil
  | n + 1 => a.app (a.rep n)
def SlFitsR (w : World) (v : Value) (sz b : Nat) (F : List Value → Prop) : Prop :=
  SlFits w v sz F ∧ ∀ A n c, v = .slice A n c → n * b ≤ reachBytes
def ShR.fits (w : World) : ShR → List Value → Prop
  | .nil, cs => cs = []
  | .int k r, cs => ∃ n cs', cs = .int k n :: cs' ∧ (Lit.int k n).wf = true ∧ r.fits w cs'
  | .bool r, cs => ∃ b cs', cs = .bool b :: cs' ∧ r.fits w cs'
  | .str r, cs => ∃ s cs', cs = .string s :: cs' ∧ s.size ≤ reachBytes ∧ r.fits w cs'
  | .sl q e r, cs => ∃ v cs', cs = v :: cs' ∧ SlFitsR w v e.len q (e.fits w) ∧ r.fits w cs'
theorem ShR.fits_len {w : World} : ∀ {s : ShR} {cs : List Value}, s.fits w cs → cs.length = s.len
  | .nil, cs, h => by simp only [ShR.fits] at h; simp [h, ShR.len]
  | .int k r, cs, h => by obtain ⟨n, cs', rfl, _, h'⟩ := h; simp [ShR.len, ShR.fits_len h']
  | .bool r, cs, h => by obtain ⟨n, cs', rfl, h'⟩ := h; simp [ShR.len, ShR.fits_len h']
  | .str r, cs, h => by obtain ⟨n, cs', rfl, _, h'⟩ := h; simp [ShR.len, ShR.fits_len h']
  | .sl q e r, cs, h => by obtain ⟨n, cs', rfl, _, h'⟩ := h; simp [ShR.len, ShR.fits_len h']
theorem ShR.fits_app {w : World} {b : ShR} {ds : List Value} (hb : b.fits w ds) : ∀ {a : ShR} {cs : List Value}, a.fits w cs → (a.app b).fits w (cs ++ ds)
  | .nil, cs, h => by simp only [ShR.fits] at h; subst h; simpa [ShR.app] using hb
  | .int k r, cs, h => by obtain ⟨n, cs', rfl, h1, h'⟩ := h; exact ⟨n, cs' ++ ds, rfl, h1, ShR.fits_app hb h'⟩
  | .bool r, cs, h => by obtain ⟨n, cs', rfl, h'⟩ := h; exact ⟨n, cs' ++ ds, rfl, ShR.fits_app hb h'⟩
  | .str r, cs, h => by obtain ⟨n, cs', rfl, h1, h'⟩ := h; exact ⟨n, cs' ++ ds, rfl, h1, ShR.fits_app hb h'⟩
  | .sl q e r, cs, h => by obtain ⟨n, cs', rfl, h1, h'⟩ := h; exact ⟨n, cs' ++ ds, rfl, h1, ShR.fits_app hb h'⟩
theorem ShR.app_len : ∀ {a b : ShR}, (a.app b).len = a.len + b.len
  | .nil, b => by simp [ShR.app, ShR.len]
  | .int k r, b => by simp [ShR.app, ShR.len, ShR.app_len (a := r)]; omega
  | .bool r, b => by simp [ShR.app, ShR.len, ShR.app_len (a := r)]; omega
  | .str r, b => by simp [ShR.app, ShR.len, ShR.app_len (a := r)]; omega
  | .sl q e r, b => by simp [ShR.app, ShR.len, ShR.app_len (a := r)]; omega
section
variable (P : Program)
def shFieldsR (one : TypeId → Option ShR) : Nat → List Field → Option ShR
  | _, [] => some .nil
  | off, f :: fs => (one f.type).bind fun a => if f.offset = off ∧ P.cellsOf f.type = a.len then (shFieldsR one (off + a.len) fs).map (a.app ·) else none
def shOfR : Nat → TypeId → Option ShR
  | 0, _ => none
  | n + 1, t => match P.underlying t with
    | some .bool => some (.bool .nil)
    | some (.int k) => some (.int k .nil)
    | some .string => some (.str .nil)
    | some (.slice e) => (shOfR n e).bind fun a => if P.cellsOf e = a.len then some (.sl (P.bytesOf e) a .nil) else none
    | some (.struct fs) => (shFieldsR P (shOfR n) 0 fs.toList).bind fun a => if P.cellsOf t = a.len then some a else none
    | some (.array k e) => (shOfR n e).bind fun a => if P.cellsOf e = a.len ∧ P.cellsOf t = k * a.len then some (a.rep k) else none
    | _ => none
end
section
variable {P : Program} {H : Type} {enc : TypeId × Value → H} {w : World} {base : Nat} {spare : Nat → Bool} {held : Bool}
theorem weightsAll_mem {e : TypeId} : ∀ {l : List (DataW H)} {d : DataW H}, d ∈ l → ∀ {q : Nat}, q ∈ d.weights P e → q ∈ DataW.weightsAll P e l
  | [], d, h, q, hq => by simp at h
  | x :: l, d, h, q, hq => by
    simp only [DataW.weightsAll, List.mem_append]
    rcases List.mem_cons.1 h with rfl | h
    · exact .inl hq
    · exact .inr (weightsAll_mem h hq)
theorem fieldsR_fit {one : TypeId → Option ShR} {m : Nat} {cs : List Value} (ih : ∀ t sh ds x, one t = some sh → DataW.trod enc P w base spare held m t ds = some x → (∀ q ∈ x.1.weights P t, q ≤ reachBytes) → sh.fits w ds) :
    ∀ (fs : List Field) (off : Nat) (sh : ShR), shFieldsR P one off fs = some sh → (∀ f ∈ fs, ∃ y, DataW.trod enc P w base spare held m f.type ((cs.drop f.offset).take (P.cellsOf f.type)) = some y ∧ (∀ q ∈ y.1.weights P f.type, q ≤ reachBytes)) →
      cs.length = off + sh.len → sh.fits w (cs.drop off)
  | [], off, sh, h, _, hl => by
    simp only [shFieldsR, Option.some.injEq] at h
    subst h
    simp only [ShR.len, Nat.add_zero] at hl
    show cs.drop off = []
    rw [List.drop_eq_nil_iff]; omega
  | f :: fs, off, sh, h, hf, hl => by
    simp only [shFieldsR, Option.bind_eq_some_iff] at h
    obtain ⟨a, ha, h⟩ := h
    split at h
    · rename_i hc
      obtain ⟨ho, hk⟩ := hc
      simp only [Option.map_eq_some_iff] at h
      obtain ⟨b, hb, rfl⟩ := h
      rw [ShR.app_len] at hl
      obtain ⟨y, hy, hyw⟩ := hf f (by simp)
      rw [ho, hk] at hy
      have h1 := ih _ _ _ _ ha hy hyw
      have h2 := fieldsR_fit ih fs (off + a.len) b hb (fun g hg => hf g (by simp [hg])) (by omega)
      have e : cs.drop off = (cs.drop off).take a.len ++ cs.drop (off + a.len) := by
        rw [← List.drop_drop, List.take_append_drop]
      rw [e]
      exact ShR.fits_app h2 h1
    · cases h
theorem arrayR_fit {m : Nat} {cs : List Value} {e : TypeId} {a : ShR} (ih : ∀ ds x, DataW.trod enc P w base spare held m e ds = some x → (∀ q ∈ x.1.weights P e, q ≤ reachBytes) → a.fits w ds) :
    ∀ (k i : Nat), (∀ j, i ≤ j → j < i + k → ∃ y, DataW.trod enc P w base spare held m e ((cs.drop (j * a.len)).take a.len) = some y ∧ (∀ q ∈ y.1.weights P e, q ≤ reachBytes)) → cs.length = (i + k) * a.len → (a.rep k).fits w (cs.drop (i * a.len))
  | 0, i, _, hl => by
    show cs.drop _ = []
    rw [List.drop_eq_nil_iff]; simp at hl; omega
  | k + 1, i, hf, hl => by
    obtain ⟨y, hy, hyw⟩ := hf i (Nat.le_refl _) (by omega)
    have h1 := ih _ _ hy hyw
    have h2 := arrayR_fit ih k (i + 1) (fun j h1 h2 => hf j (by omega) (by omega)) (by rw [hl]; congr 1; omega)
    have e : cs.drop (i * a.len) = (cs.drop (i * a.len)).take a.len ++ cs.drop ((i + 1) * a.len) := by
      rw [Nat.add_mul, Nat.one_mul, ← List.drop_drop, List.take_append_drop]
    rw [e]
    exact ShR.fits_app h2 h1
theorem fitsR_of_trod : ∀ (n : Nat) (t : TypeId) (sh : ShR) (fuel : Nat) (cs : List Value) (x : DataW H × List MemPlace), shOfR P n t = some sh → DataW.trod enc P w base spare held fuel t cs = some x → (∀ q ∈ x.1.weights P t, q ≤ reachBytes) → sh.fits w cs
  | 0, _, _, _, _, _, h, _, _ => by simp [shOfR] at h
  | n + 1, t, sh, fuel, cs, x, h, ht, hz => by
    unfold shOfR at h
    split at h
    · rename_i hu
      obtain ⟨b, rfl, _⟩ := DataW.trod_bool hu ht
      simp only [Option.some.injEq] at h; subst h
      exact ⟨b, [], rfl, rfl⟩
    · rename_i k hu
      obtain ⟨z, rfl, _, hw⟩ := DataW.trod_int hu ht
      simp only [Option.some.injEq] at h; subst h
      exact ⟨z, [], rfl, hw, rfl⟩
    · rename_i hu
      obtain ⟨z, rfl, rfl, hw⟩ := DataW.trod_string hu ht
      simp only [Option.some.injEq] at h; subst h
      have hz1 := hz z.data.toList.length (by simp [DataW.weights])
      exact ⟨z, [], rfl, by rw [Array.length_toList] at hz1; exact hz1, rfl⟩
    · rename_i e hu
      simp only [Option.bind_eq_some_iff] at h
      obtain ⟨a, ha, h⟩ := h
      split at h
      · rename_i hc
        simp only [Option.some.injEq] at h; subst h
        rcases open_slice hu ht with ⟨rfl, _⟩ | ⟨ad, len, cap, m, f, D, Pl, rfl, _, hl, hm, hmm, rfl, hi⟩
        · exact ⟨_, [], rfl, ⟨⟨Option.none, 0, 0, rfl, Nat.le_refl _, Nat.zero_le _, fun _ => rfl, fun a ha => by cases ha⟩, fun A n c hv => by cases hv; omega⟩, rfl⟩
        · have hzl : len * P.bytesOf e ≤ reachBytes := by
            have h1 := hz ((((List.range len).map D).length + ((List.range (m - len)).map fun j => D (len + j)).length) * P.bytesOf e) (by simp [DataW.weights, hu])
            refine Nat.le_trans (Nat.mul_le_mul_right _ ?_) h1
            simp
          refine ⟨_, [], rfl, ⟨⟨some ad, len, cap, rfl, hl, hm, ?_, fun a' ha' i hilt => ?_⟩, fun A n c hv => by cases hv; exact hzl⟩, rfl⟩
          · intro h; cases h
          simp only [Option.some.injEq] at ha'
          subst ha'
          have him : i < m := by rw [hmm]; split <;> omega
          obtain ⟨cs', hc', ht'⟩ := hi i him
          obtain ⟨_, hlen, hget⟩ := World.cells?_some hc'
          rw [hc] at hlen hget
          refine ⟨cs', hlen, fun j u hj => ?_, fitsR_of_trod n e a f cs' _ ha ht' fun q hq => hz q ?_⟩
          rotate_left
          · simp only [DataW.weights, hu, List.mem_cons, List.mem_append]
            exact .inr (.inl (weightsAll_mem (List.mem_map.2 ⟨i, by simpa using hilt, rfl⟩) hq))
          have hjl : j < cs'.length := (List.getElem?_eq_some_iff.1 hj).1
          rw [hget j (by omega)]; exact hj
      · cases h
    · rename_i fs hu
      simp only [Option.bind_eq_some_iff] at h
      obtain ⟨a, ha, h⟩ := h
      split at h
      · rename_i hc
        simp only [Option.some.injEq] at h; subst h
        obtain ⟨xs, m, _, rfl, hl, hxl, hf⟩ := DataW.trod_struct hu ht
        have := fieldsR_fit (cs := cs) (m := m) (enc := enc) (base := base) (spare := spare) (held := held) (w := w) (fun t sh ds x h1 h2 h3 => fitsR_of_trod n t sh m ds x h1 h2 h3) fs.toList 0 a ha (fun f hf' => ?_) (by omega)
        · simpa using this
        · obtain ⟨i, hi, hfi⟩ := List.getElem_of_mem hf'
          have hfi' : fs[i]? = some f := by rw [← hfi, Array.getElem_toList, Array.getElem?_eq_getElem]
          have h3 := hf i f hfi'
          have hlt : i < xs.length := by rw [hxl]; simpa using hi
          refine ⟨xs[i], by rw [h3]; exact List.getElem?_eq_getElem hlt, fun q hq => hz q ?_⟩
          simp only [DataW.weights, hu]
          exact DataW.weights_mem_each (j := i) (t := f.type) (d := xs[i].1) (by simp [hfi']) (by simp [hlt]) q hq
      · cases h
    · rename_i k e hu
      simp only [Option.bind_eq_some_iff] at h
      obtain ⟨a, ha, h⟩ := h
      split at h
      · rename_i hc
        obtain ⟨hc1, hc2⟩ := hc
        simp only [Option.some.injEq] at h; subst h
        obtain ⟨xs, m, _, rfl, hl, hxl, hf⟩ := DataW.trod_array hu ht
        rw [hc1] at hf
        have := arrayR_fit (cs := cs) (m := m) (enc := enc) (base := base) (spare := spare) (held := held) (w := w) (P := P) (fun ds x h2 h3 => fitsR_of_trod n e a m ds x ha h2 h3) k 0 (fun j _ hj => ?_) (by rw [hl, hc2, Nat.zero_add])
        · simpa using this
        · have hlt : j < xs.length := by omega
          refine ⟨xs[j], by rw [hf j (by omega)]; exact List.getElem?_eq_getElem hlt, fun q hq => hz q ?_⟩
          simp only [DataW.weights, hu]
          exact weightsAll_mem (List.mem_map.2 ⟨xs[j], List.getElem_mem _, rfl⟩) hq
      · cases h
    · cases h
theorem openR_any {t : TypeId} {v : Value} {d : DataW H} {p : List MemPlace} {n : Nat} {sh : ShR} (hs : shOfR P n t = some sh) (h : DataW.Trod enc P w base spare held t v d p) (hz : ∀ q ∈ d.weights P t, q ≤ reachBytes) : sh.fits w v.cells.toList := by
  obtain ⟨fuel, hf⟩ := h
  exact fitsR_of_trod n t sh fuel _ _ hs hf hz
theorem openR_sls {t e : TypeId} {v : Value} {d : DataW H} {p : List MemPlace} {n b : Nat} {r : Reach} {a : ShR} {y : Nat} (hu : P.underlying t = some (.slice e)) (hs : shOfR P n t = some (.sl y a .nil)) (hv : Value.okWide P w r b t v) (h : DataW.Trod enc P w base spare held t v d p) (hz : ∀ q ∈ d.weights P t, q ≤ reachBytes) :
    SlFitsR w v a.len y (a.fits w) := by
  have hf := openR_any hs h hz
  obtain ⟨A, l, c, rfl⟩ := okWide_slice hu hv
  obtain ⟨x, cs', he, hx, _⟩ := hf
  simp only [Value.cells, List.cons.injEq] at he
  rw [he.1]; exact hx
end
end Go.Proofs.Ytcejgadbpahbmaa
end
