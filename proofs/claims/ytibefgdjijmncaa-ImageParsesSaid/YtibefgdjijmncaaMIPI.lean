/- Walks and plain facts for the law ImageParses, part MIPI. No condition. -/
import Derived.Test.YtibefgdjijmncaaMIPF
import Derived.Test.YtibefgdjijmncaaMIPG
import Derived.Test.YtibefgdjijmncaaMIPD
import Derived.Test.YtibefgdjijmncaaMIPH
import Derived.Test.YtibefgdjijmncaaMIPA
import Derived.ProofKit
import Derived.OpenShut
import Derived.Deep.Slices
import Derived.Test.YtibefgdjijmncaaMIPC
set_option linter.unusedVariables false
set_option linter.unusedSimpArgs false
section
namespace Go.Proofs.Ytibefgdjijmncaa
open Go.RowKit Sz
set_option maxHeartbeats 4000000
set_option maxRecDepth 20000
-- almshouse/image.Bytes (1 parameters)
def x13 : XC := (.seq (.tree (.seq ⟨some 1, none, (.box (.tmp 0))⟩
 (.seq ⟨some 2, none, (.ofA (.mv (.cst (.v (.slice none 0 0)))))⟩
 (.seq ⟨some 3, none, (.ofA (.mv (.cst (.v (.int .i64 0)))))⟩
 .done))))
 (.seq (.seq (.tree (.seq ⟨some 13, none, (.ofA (.load (some 5) (.tmp 1)))⟩
 (.seq ⟨some 14, none, (.call (.cst (.fn 45 [])) [(.tmp 13)])⟩
 (.seq ⟨some 15, none, (.ofA (.un .not (.tmp 14)))⟩
 .done))))
 (.cond (.tmp 15)
 (.seq (.tree (.seq ⟨some 2, none, (.ofA (.mv (.cst (.v (.slice none 0 0)))))⟩
 (.seq ⟨some 3, none, (.ofA (.mv (.cst (.v (.int .i64 2)))))⟩
 .done)))
 .ret)
 .skip))
 (.seq (.tree (.seq ⟨some 16, none, (.build [(.v (.slice none 0 0)), (.v (.int .i64 0))] [])⟩
 (.seq ⟨some 17, none, (.box (.tmp 16))⟩
 (.seq ⟨some 4, none, (.ofA (.mv (.tmp 17)))⟩
 .done))))
 (.seq (.tree (.seq ⟨some 5, none, (.ofA (.mv (.cst (.v (.slice none 0 0)))))⟩
 .done))
 (.seq (.seq (.tree (.seq ⟨some 18, none, (.ofA (.faddr 0 (.tmp 1)))⟩
 (.seq ⟨some 19, none, (.ofA (.faddr 0 (.tmp 18)))⟩
 (.seq ⟨some 20, none, (.ofA (.load none (.tmp 19)))⟩
 (.seq ⟨some 21, none, (.ofA (.faddr 0 (.tmp 1)))⟩
 (.seq ⟨some 22, none, (.ofA (.faddr 1 (.tmp 21)))⟩
 (.seq ⟨some 23, none, (.ofA (.load none (.tmp 22)))⟩
 (.seq ⟨some 24, none, (.ofA (.faddr 0 (.tmp 1)))⟩
 (.seq ⟨some 25, none, (.ofA (.faddr 2 (.tmp 24)))⟩
 (.seq ⟨some 26, none, (.ofA (.load none (.tmp 25)))⟩
 (.seq ⟨some 27, none, (.ofA (.faddr 0 (.tmp 1)))⟩
 (.seq ⟨some 28, none, (.ofA (.faddr 3 (.tmp 27)))⟩
 (.seq ⟨some 29, none, (.ofA (.load none (.tmp 28)))⟩
 (.seq ⟨some 30, none, (.buildSl 1 4 [(.v (.int .i64 0)), (.v (.int .i64 0)), (.v (.int .i64 0)), (.v (.int .i64 0))] [(0, 1, (.tmp 20)), (1, 1, (.tmp 23)), (2, 1, (.tmp 26)), (3, 1, (.tmp 29))])⟩
 (.seq ⟨some 31, none, (.ofA (.len (.tmp 30)))⟩
 (.seq ⟨some 32, none, (.ofA (.mv (.cst (.v (.int .i64 0)))))⟩
 .done))))))))))))))))
 (.block 0 (.loop (.seq (.tree (.seq ⟨some 33, none, (.ofA (.bin .lss (.tmp 32) (.tmp 31)))⟩
 .done))
 (.seq (.cond (.tmp 33)
 .skip
 (.exit 0))
 (.seq (.block 1 (.seq (.tree (.seq ⟨some 34, none, (.ofA (.isl 1 (.tmp 30) (.tmp 32)))⟩
 (.seq ⟨some 35, none, (.ofA (.load none (.tmp 34)))⟩
 (.seq ⟨some 7, none, (.ofA (.mv (.tmp 35)))⟩
 .done))))
 (.tree (.seq ⟨some 36, none, (.ofA (.mv (.tmp 5)))⟩
 (.seq ⟨some 37, none, (.ofA (.mv (.tmp 7)))⟩
 (.seq ⟨some 38, none, (.call (.cst (.fn 46 [])) [(.tmp 36), (.tmp 37), (.cst (.v (.int .i64 1)))])⟩
 (.seq ⟨some 5, none, (.ofA (.mv (.tmp 38)))⟩
 .done)))))))
 (.tree (.seq ⟨some 39, none, (.ofA (.bin .add (.tmp 32) (.cst (.v (.int .i64 1)))))⟩
 (.seq ⟨some 32, none, (.ofA (.mv (.tmp 39)))⟩
 .done)))))))))
 (.seq (.tree (.seq ⟨some 40, none, (.ofA (.mv (.tmp 4)))⟩
 (.seq ⟨some 41, none, (.ofA (.mv (.tmp 5)))⟩
 (.seq ⟨some 42, none, (.call (.cst (.fn 47 [])) [(.tmp 40), (.cst (.v (.int .i64 71))), (.tmp 41)])⟩
 .done))))
 (.seq (.seq (.tree (.seq ⟨some 43, none, (.ofA (.faddr 4 (.tmp 1)))⟩
 (.seq ⟨some 44, none, (.ofA (.load none (.tmp 43)))⟩
 (.seq ⟨some 45, none, (.ofA (.len (.tmp 44)))⟩
 (.seq ⟨some 46, none, (.ofA (.mv (.cst (.v (.int .i64 0)))))⟩
 .done)))))
 (.block 2 (.loop (.seq (.tree (.seq ⟨some 47, none, (.ofA (.bin .lss (.tmp 46) (.tmp 45)))⟩
 .done))
 (.seq (.cond (.tmp 47)
 .skip
 (.exit 2))
 (.seq (.block 3 (.seq (.tree (.seq ⟨some 48, none, (.ofA (.isl 3 (.tmp 44) (.tmp 46)))⟩
 (.seq ⟨some 49, none, (.ofA (.load (some 3) (.tmp 48)))⟩
 (.seq ⟨some 9, none, (.alloc [(.v (.bool false)), (.v (.int .i64 0)), (.v (.slice none 0 0))])⟩
 (.seq ⟨none, none, (.store 3 (.tmp 9) (.tmp 49))⟩
 .done)))))
 (.seq (.tree (.take ⟨some 50, none, (.ofA (.mv (.tmp 4)))⟩
 (.take ⟨some 51, none, (.ofA (.faddr 0 (.tmp 9)))⟩
 (.take ⟨some 52, none, (.ofA (.load none (.tmp 51)))⟩
 (.take ⟨some 55, none, (.ofA (.faddr 2 (.tmp 9)))⟩
 (.take ⟨some 56, none, (.ofA (.load none (.tmp 55)))⟩
 (.take ⟨some 57, none, (.ofA (.len (.tmp 56)))⟩
 (.take ⟨some 59, none, (.ofA (.faddr 1 (.tmp 9)))⟩
 (.take ⟨some 60, none, (.ofA (.load none (.tmp 59)))⟩
 (.alt [true] [(⟨some 53, none, (.call (.cst (.fn 48 [])) [(.tmp 52)])⟩,
 (.alt [true] [(⟨some 54, none, (.call (.cst (.fn 46 [])) [(.cst (.v (.slice none 0 0))), (.tmp 53), (.cst (.v (.int .i64 1)))])⟩,
 (.alt [true] [(⟨some 58, none, (.call (.cst (.fn 46 [])) [(.tmp 54), (.tmp 57), (.cst (.v (.int .i64 1)))])⟩,
 (.alt [true] [(⟨some 61, none, (.call (.cst (.fn 46 [])) [(.tmp 58), (.tmp 60), (.cst (.v (.int .i64 4)))])⟩,
 (.alt [false] [(⟨some 62, none, (.call (.cst (.fn 47 [])) [(.tmp 50), (.cst (.v (.int .i64 66))), (.tmp 61)])⟩,
 .done)]))]))]))]))]))))))))))
 (.seq (.tree (.seq ⟨some 63, none, (.ofA (.faddr 2 (.tmp 9)))⟩
 (.seq ⟨some 64, none, (.ofA (.load none (.tmp 63)))⟩
 (.seq ⟨some 65, none, (.ofA (.len (.tmp 64)))⟩
 (.seq ⟨some 66, none, (.ofA (.mv (.cst (.v (.int .i64 0)))))⟩
 .done)))))
 (.block 4 (.loop (.seq (.tree (.seq ⟨some 67, none, (.ofA (.bin .lss (.tmp 66) (.tmp 65)))⟩
 .done))
 (.seq (.cond (.tmp 67)
 .skip
 (.exit 4))
 (.seq (.block 5 (.seq (.tree (.seq ⟨some 68, none, (.ofA (.isl 3 (.tmp 64) (.tmp 66)))⟩
 (.seq ⟨some 69, none, (.ofA (.load (some 3) (.tmp 68)))⟩
 (.seq ⟨some 11, none, (.alloc [(.v (.bool false)), (.v (.string ⟨#[]⟩)), (.v (.string ⟨#[]⟩))])⟩
 (.seq ⟨none, none, (.store 3 (.tmp 11) (.tmp 69))⟩
 .done)))))
 (.seq (.tree (.seq ⟨some 70, none, (.ofA (.faddr 0 (.tmp 11)))⟩
 (.seq ⟨some 71, none, (.ofA (.load none (.tmp 70)))⟩
 (.seq ⟨some 72, none, (.call (.cst (.fn 48 [])) [(.tmp 71)])⟩
 (.seq ⟨some 73, none, (.call (.cst (.fn 46 [])) [(.cst (.v (.slice none 0 0))), (.tmp 72), (.cst (.v (.int .i64 1)))])⟩
 (.seq ⟨some 12, none, (.ofA (.mv (.tmp 73)))⟩
 .done))))))
 (.seq (.seq (.tree (.seq ⟨some 74, none, (.ofA (.faddr 0 (.tmp 11)))⟩
 (.seq ⟨some 75, none, (.ofA (.load none (.tmp 74)))⟩
 (.seq ⟨some 76, none, (.ofA (.un .not (.tmp 75)))⟩
 .done))))
 (.cond (.tmp 76)
 (.tree (.take ⟨some 77, none, (.ofA (.mv (.tmp 12)))⟩
 (.take ⟨some 78, none, (.ofA (.faddr 1 (.tmp 11)))⟩
 (.take ⟨some 79, none, (.ofA (.load none (.tmp 78)))⟩
 (.take ⟨some 81, none, (.ofA (.faddr 2 (.tmp 11)))⟩
 (.take ⟨some 82, none, (.ofA (.load none (.tmp 81)))⟩
 (.act true [(⟨some 80, none, (.call (.cst (.fn 49 [])) [(.tmp 77), (.tmp 79)])⟩,
 (.act true [(⟨some 83, none, (.call (.cst (.fn 49 [])) [(.tmp 80), (.tmp 82)])⟩,
 (.take ⟨some 12, none, (.ofA (.mv (.tmp 83)))⟩
 .done))]))])))))))
 .skip))
 (.tree (.seq ⟨some 84, none, (.ofA (.mv (.tmp 4)))⟩
 (.seq ⟨some 85, none, (.ofA (.mv (.tmp 12)))⟩
 (.seq ⟨some 86, none, (.call (.cst (.fn 47 [])) [(.tmp 84), (.cst (.v (.int .i64 80))), (.tmp 85)])⟩
 .done))))))))
 (.tree (.seq ⟨some 87, none, (.ofA (.bin .add (.tmp 66) (.cst (.v (.int .i64 1)))))⟩
 (.seq ⟨some 66, none, (.ofA (.mv (.tmp 87)))⟩
 .done))))))))))))
 (.tree (.seq ⟨some 88, none, (.ofA (.bin .add (.tmp 46) (.cst (.v (.int .i64 1)))))⟩
 (.seq ⟨some 46, none, (.ofA (.mv (.tmp 88)))⟩
 .done)))))))))
 (.seq (.seq (.tree (.seq ⟨some 89, none, (.ofA (.mv (.tmp 4)))⟩
 (.seq ⟨some 90, none, (.ofA (.nilc (.tmp 89)))⟩
 (.seq ⟨some 91, none, (.ofA (.faddr 1 (.tmp 90)))⟩
 (.seq ⟨some 92, none, (.ofA (.load none (.tmp 91)))⟩
 (.seq ⟨some 93, none, (.ofA (.bin .neq (.tmp 92) (.cst (.v (.int .i64 0)))))⟩
 .done))))))
 (.cond (.tmp 93)
 (.seq (.tree (.take ⟨some 94, none, (.ofA (.mv (.tmp 4)))⟩
 (.take ⟨some 95, none, (.ofA (.nilc (.tmp 94)))⟩
 (.take ⟨some 96, none, (.ofA (.faddr 1 (.tmp 95)))⟩
 (.take ⟨some 97, none, (.ofA (.load none (.tmp 96)))⟩
 (.take ⟨some 2, none, (.ofA (.mv (.cst (.v (.slice none 0 0)))))⟩
 (.take ⟨some 3, none, (.ofA (.mv (.tmp 97)))⟩
 .done)))))))
 .ret)
 .skip))
 (.seq (.tree (.seq ⟨some 98, none, (.ofA (.mv (.tmp 4)))⟩
 (.seq ⟨some 99, none, (.ofA (.nilc (.tmp 98)))⟩
 (.seq ⟨some 100, none, (.ofA (.faddr 0 (.tmp 99)))⟩
 (.seq ⟨some 101, none, (.ofA (.load none (.tmp 100)))⟩
 (.seq ⟨some 2, none, (.ofA (.mv (.tmp 101)))⟩
 (.seq ⟨some 3, none, (.ofA (.mv (.cst (.v (.int .i64 0)))))⟩
 .done)))))))
 .ret)))))))))
def r13 : List XR := [.tmp 2, .tmp 3]
theorem fn13 : FnX Try.prog 13 [47] 102 x13 r13 := ⟨_, Try.func13, by kernel_rfl, by kernel_rfl, by kernel_rfl, by kernel_rfl⟩
def c13 [Inp] : Trans := fun args m k => ∃ s g bs, args = [s] ∧ picS m s g bs ∧ bs.length ≤ 140737488355328 ∧ (∀ b ∈ bs, b.pages.length ≤ 140737488355328) ∧
  (if mayF g bs = true then k (.tup [.row m.length 0 (toldF smF g bs).length 1, .v (.int .i64 0)]) (m ++ [⟨true, bL (toldF smF g bs)⟩]) else k (.tup [.v (.slice none 0 0), .v (.int .i64 2)]) m)
def G13 [Inp] : List CEntry := [⟨45, true, c45⟩, ⟨46, true, c46⟩, ⟨47, false, c47⟩, ⟨48, true, c48⟩, ⟨49, true, c49⟩]
theorem g13 [Inp] : GOk Try.prog G13 := GOk.cons c45_ok (GOk.cons c46_ok (GOk.cons c47_ok (GOk.cons c48_ok (GOk.cons c49_ok (g0 _)))))
theorem len_ne {L : List Int} (h : 0 < L.length) : ¬ L = [] := by
  intro e; rw [e] at h; simp at h
theorem c13_ok [I : Inp] : Contract Try.prog 13 true c13 := by
  refine .readFG fn13 (G := fun J => @G13 J) (fun J => @g13 J) _ fun args m k h => ?_
  obtain ⟨s, g, bs, rfl, h1, hn, hpn, hk⟩ := h
  refine ⟨by simp, fun J hJ K hK us hus => ?_⟩
  obtain ⟨u, t1, rfl, hk1, rfl⟩ := hus
  obtain ⟨p, c, xs, e1, hxs, hin, hx0⟩ := pic_kn hK h1 hk1
  rw [List.map_cons, e1, List.map_nil]
  have P1 : ∀ m', picS m' (.agg [.v (.int .i64 g.ch), .v (.int .i64 g.di), .v (.int .i64 g.bl), .v (.int .i64 g.pa), .v (.slice p xs.length c)]) g bs := fun m' => by rw [← hxs]; exact pic_plain m' hin hx0
  have hlx : bs.length = xs.length := by rw [← hxs, List.length_map]
  have hitem : ∀ (i : Nat) (x : Bi), xs[i]? = some x → inpL (plusA p (i * 3)) 3 = some x.cs := fun i x hx => inp_item Bi.len hin rfl hx
  unfold Ge.sv
  simp (maxSteps := 2000000) -implicitDefEqProofs only [↓x13, ↓r13, ↓G13, ↓c45, s_alt, s_alt20, s_alt2t, s_alt2f, ↓s_loopi, ↓v_pq, ↓PRE, POST, CORE, Nat.reduceDiv, Nat.reduceMod, Int.reduceLT, Int.reduceLE, Int.reduceToNat, Int.reduceAdd, ↓reduceIte, Nat.reduceEqDiff, Nat.reduceAdd, Nat.reduceMul, Nat.reduceSub, Nat.reduceLeDiff, Nat.reduceLT, reduceCtorEq, if_true, eq_self, forall_const, implies_true]
  refine ⟨_, g, bs, rfl, P1 _, hn, hpn, ?_⟩
  cases hm : mayF g bs with
  | false =>
    rw [hm] at hk
    simp only [Bool.false_eq_true, if_false] at hk
    simp (maxSteps := 2000000) -implicitDefEqProofs only [s_alt, s_alt20, s_alt2t, s_alt2f, ↓s_loopi, ↓v_pq, ↓PRE, POST, CORE, Nat.reduceDiv, Nat.reduceMod, Int.reduceLT, Int.reduceLE, Int.reduceToNat, Int.reduceAdd, ↓reduceIte, Nat.reduceEqDiff, Nat.reduceAdd, Nat.reduceMul, Nat.reduceSub, Nat.reduceLeDiff, Nat.reduceLT, reduceCtorEq, if_true, eq_self, forall_const, implies_true]
    refine ⟨[], .tup [.v (.slice none 0 0), .v (.int .i64 2)], [], by simp, trivial, by simp, by simp only [Le, LeL]; simp, ?_⟩
    simpa [SV.up, upL] using hk
  | true =>
  rw [hm, if_pos rfl] at hk
  obtain ⟨hg, hl64, hbs⟩ := may_all hm
  have hby := chk_by hg
  have hhd := hd_put hby
  obtain ⟨⟨y1, y2⟩, ⟨y3, y4⟩, ⟨y5, y6⟩, ⟨y7, y8⟩⟩ := hby
  simp (maxSteps := 2000000) -implicitDefEqProofs only [s_alt, s_alt20, s_alt2t, s_alt2f, ↓s_loopi, ↓v_pq, ↓PRE, POST, CORE, Nat.reduceDiv, Nat.reduceMod, Int.reduceLT, Int.reduceLE, Int.reduceToNat, Int.reduceAdd, ↓reduceIte, Nat.reduceEqDiff, Nat.reduceAdd, Nat.reduceMul, Nat.reduceSub, Nat.reduceLeDiff, Nat.reduceLT, reduceCtorEq, if_true, eq_self, forall_const, implies_true]
  -- the head
  refine TXi_of (TX_unroll (@g13 J) 5 ?_)
  simp (maxSteps := 2000000) -implicitDefEqProofs only [Sz.unr, ↓G13, ↓c46, s_alt, s_alt20, s_alt2t, s_alt2f, ↓s_loopi, ↓v_pq, ↓PRE, POST, CORE, Nat.reduceDiv, Nat.reduceMod, Int.reduceLT, Int.reduceLE, Int.reduceToNat, Int.reduceAdd, ↓reduceIte, Nat.reduceEqDiff, Nat.reduceAdd, Nat.reduceMul, Nat.reduceSub, Nat.reduceLeDiff, Nat.reduceLT, reduceCtorEq, if_true, eq_self, forall_const, implies_true]
  refine ⟨[], ⟨rfl, fun _ => rfl⟩, by simp, ?_⟩
  have b1 := put1 (bs := []) y1 y2
  have q1 : (putF [] g.ch 1).length = 1 := by rw [b1]; simp [leN_len]
  have q2 : (putF (putF [] g.ch 1) g.di 1).length = 2 := by rw [put1 y3 y4, List.length_append, q1]; simp [leN_len]
  have q3 : (putF (putF (putF [] g.ch 1) g.di 1) g.bl 1).length = 3 := by rw [put1 y5 y6, List.length_append, q2]; simp [leN_len]
  have q4 : (hdB g).length = 4 := by unfold hdB; simp [leN_len]
  have l1 : IntKind.i64.wrap 1 = 1 := rfl
  have l2 : IntKind.i64.wrap 2 = 2 := rfl
  have l3 : IntKind.i64.wrap 3 = 3 := rfl
  have l4 : IntKind.i64.wrap 4 = 4 := rfl
  generalize putF [] g.ch 1 = H1 at hhd q1 q2 q3 ⊢
  have r1 := len_ne (L := H1) (by omega)
  simp (maxSteps := 2000000) -implicitDefEqProofs only [rowS, rowM, r1, ↓G13, ↓c46, Sz.unr, l1, l2, l3, l4, s_alt, s_alt20, s_alt2t, s_alt2f, ↓s_loopi, ↓v_pq, ↓PRE, POST, CORE, Nat.reduceDiv, Nat.reduceMod, Int.reduceLT, Int.reduceLE, Int.reduceToNat, Int.reduceAdd, ↓reduceIte, Nat.reduceEqDiff, Nat.reduceAdd, Nat.reduceMul, Nat.reduceSub, Nat.reduceLeDiff, Nat.reduceLT, reduceCtorEq, if_true, eq_self, forall_const, implies_true]
  refine ⟨H1, ⟨rdB_row rfl rfl, fun h => (r1 h).elim⟩, by omega, ?_⟩
  generalize putF H1 g.di 1 = H2 at hhd q2 q3 ⊢
  have r2 := len_ne (L := H2) (by omega)
  simp (maxSteps := 2000000) -implicitDefEqProofs only [r2, ↓G13, ↓c46, l1, l2, l3, l4, s_alt, s_alt20, s_alt2t, s_alt2f, ↓s_loopi, ↓v_pq, ↓PRE, POST, CORE, Nat.reduceDiv, Nat.reduceMod, Int.reduceLT, Int.reduceLE, Int.reduceToNat, Int.reduceAdd, ↓reduceIte, Nat.reduceEqDiff, Nat.reduceAdd, Nat.reduceMul, Nat.reduceSub, Nat.reduceLeDiff, Nat.reduceLT, reduceCtorEq, if_true, eq_self, forall_const, implies_true]
  refine ⟨H2, ⟨rdB_row rfl rfl, fun h => (r2 h).elim⟩, by omega, ?_⟩
  generalize putF H2 g.bl 1 = H3 at hhd q3 ⊢
  have r3 := len_ne (L := H3) (by omega)
  simp (maxSteps := 2000000) -implicitDefEqProofs only [r3, ↓G13, ↓c46, l1, l2, l3, l4, s_alt, s_alt20, s_alt2t, s_alt2f, ↓s_loopi, ↓v_pq, ↓PRE, POST, CORE, Nat.reduceDiv, Nat.reduceMod, Int.reduceLT, Int.reduceLE, Int.reduceToNat, Int.reduceAdd, ↓reduceIte, Nat.reduceEqDiff, Nat.reduceAdd, Nat.reduceMul, Nat.reduceSub, Nat.reduceLeDiff, Nat.reduceLT, reduceCtorEq, if_true, eq_self, forall_const, implies_true]
  refine ⟨H3, ⟨rdB_row rfl rfl, fun h => (r3 h).elim⟩, by omega, ?_⟩
  rw [hhd]
  have r4 := len_ne (L := hdB g) (by omega)
  simp (maxSteps := 2000000) -implicitDefEqProofs only [r4, ↓G13, ↓c47, l1, l2, l3, l4, s_alt, s_alt20, s_alt2t, s_alt2f, ↓s_loopi, ↓v_pq, ↓PRE, POST, CORE, Nat.reduceDiv, Nat.reduceMod, Int.reduceLT, Int.reduceLE, Int.reduceToNat, Int.reduceAdd, ↓reduceIte, Nat.reduceEqDiff, Nat.reduceAdd, Nat.reduceMul, Nat.reduceSub, Nat.reduceLeDiff, Nat.reduceLT, reduceCtorEq, if_true, eq_self, forall_const, implies_true]
  have e0 : outB g bs 0 = frF smF 71 (hdB g) := by unfold outB; simp
  refine ⟨1, 71, _, hdB g, _, [], rfl, rfl, rdB_row rfl rfl, by omega, by omega, .inl ⟨rfl, rfl⟩, by simp, ?_⟩
  rw [← e0]
  simp (maxSteps := 2000000) -implicitDefEqProofs only [kill, List.nil_append, List.length_nil, Nat.zero_add, List.length_cons, s_alt, s_alt20, s_alt2t, s_alt2f, ↓s_loopi, ↓v_pq, ↓PRE, POST, CORE, Nat.reduceDiv, Nat.reduceMod, Int.reduceLT, Int.reduceLE, Int.reduceToNat, Int.reduceAdd, ↓reduceIte, Nat.reduceEqDiff, Nat.reduceAdd, Nat.reduceMul, Nat.reduceSub, Nat.reduceLeDiff, Nat.reduceLT, reduceCtorEq, if_true, eq_self, forall_const, implies_true]
  refine TXi_of (TX_count (@g13 J) xs.length (fun x => [(1, .ptr 0 0), (4, .ptr 1 0), (44, .v (.slice p xs.length c)), (45, .v (.int .i64 (xs.length : Int))), (46, .v (.int .i64 (x : Int)))]) (fun x => [⟨true, [.v (.int .i64 g.ch), .v (.int .i64 g.di), .v (.int .i64 g.bl), .v (.int .i64 g.pa), .v (.slice p xs.length c)]⟩, ⟨true, [.row 2 0 (outB g bs x).length 1, .v (.int .i64 0)]⟩, ⟨true, bL (outB g bs x)⟩]) (fun x => True) trivial (by refine ⟨[0, 1, 8], by simp [NdL, NdA, oO_cells, oO_own, iL_nil], ?_, ?_, keep0 hJ⟩ <;> simp only [FitM, FitE, ObLe, LeL, Le, List.cons_append, List.nil_append] <;> (try (simp (maxSteps := 2000000) -implicitDefEqProofs only [bL_le, s_alt, s_alt20, s_alt2t, s_alt2f, ↓s_loopi, ↓v_pq, ↓PRE, POST, CORE, Nat.reduceDiv, Nat.reduceMod, Int.reduceLT, Int.reduceLE, Int.reduceToNat, Int.reduceAdd, ↓reduceIte, Nat.reduceEqDiff, Nat.reduceAdd, Nat.reduceMul, Nat.reduceSub, Nat.reduceLeDiff, Nat.reduceLT, reduceCtorEq, if_true, eq_self, forall_const, implies_true])) <;> (try simp only [Sz.Le, Sz.LeL, List.getElem?_cons_zero, List.getElem?_cons_succ]) <;> (try simp)) ?_ ?_)
  · intro x hx _
    obtain ⟨a, ha⟩ : ∃ a, xs[x]? = some a := ⟨_, List.getElem?_eq_getElem hx⟩
    have hb0 : bs[x]? = some a.b := by rw [← hxs, List.getElem?_map, ha]; rfl
    have hbm := List.mem_of_getElem? hb0
    obtain ⟨z1, z2, z3, z4⟩ := hbs a.b hbm
    have f : inpL (plusA p (x * 3)) 3 = some [.bool a.b.bad, .int .i64 a.b.er, .slice a.a a.b.pages.length a.c] := hitem x a ha
    have hina : inpL a.a (a.b.pages.length * 3) = some (rowV Pg.cs a.b.pages) := hx0 a (List.mem_of_getElem? ha)
    have hitem2 : ∀ (i : Nat) (y : Pg), a.b.pages[i]? = some y → inpL (plusA a.a (i * 3)) 3 = some y.cs := fun i y hy => inp_item Pg.len hina rfl hy
    have hp : p.isSome = true := inpL_isSome hin (by omega)
    have i0 : (0 : Int) ≤ (x : Int) := by omega
    have i1 : (x : Int) < (xs.length : Int) := by omega
    have w1 : IntKind.i64.wrap ((x : Int) + 1) = (x : Int) + 1 := Sz.w_64 (by omega) (by omega)
    have hol := outB_len hm x
    have hbk := bk_put (b := a.b) (by omega) z3 (by omega)
    have hsucc := outB_succ (g := g) hb0
    have hpl := fun y => outP_len hm (x := x) hbm y
    have ep0 : outP g bs x a.b 0 = outB g bs x ++ frF smF 66 (bkB a.b) := by unfold outP; simp
    have eps := fun y (q : Pg) (h : a.b.pages[y]? = some q) => outP_succ (g := g) (bs := bs) (x := x) (b := a.b) h
    rw [hsucc]
    generalize outB g bs x = O at hol ep0 ⊢
    simp (maxSteps := 2000000) -implicitDefEqProofs only [f, hp, i0, i1, ↓G13, ↓c48, s_alt, s_alt20, s_alt2t, s_alt2f, ↓s_loopi, ↓v_pq, ↓PRE, POST, CORE, Nat.reduceDiv, Nat.reduceMod, Int.reduceLT, Int.reduceLE, Int.reduceToNat, Int.reduceAdd, ↓reduceIte, Nat.reduceEqDiff, Nat.reduceAdd, Nat.reduceMul, Nat.reduceSub, Nat.reduceLeDiff, Nat.reduceLT, reduceCtorEq, if_true, eq_self, forall_const, implies_true]
    refine ⟨a.b.bad, rfl, ?_⟩
    simp (maxSteps := 2000000) -implicitDefEqProofs only [↓G13, ↓c46, s_alt, s_alt20, s_alt2t, s_alt2f, ↓s_loopi, ↓v_pq, ↓PRE, POST, CORE, Nat.reduceDiv, Nat.reduceMod, Int.reduceLT, Int.reduceLE, Int.reduceToNat, Int.reduceAdd, ↓reduceIte, Nat.reduceEqDiff, Nat.reduceAdd, Nat.reduceMul, Nat.reduceSub, Nat.reduceLeDiff, Nat.reduceLT, reduceCtorEq, if_true, eq_self, forall_const, implies_true]
    refine ⟨[], ⟨rfl, fun _ => rfl⟩, by simp, ?_⟩
    have fl0 : (0 : Int) ≤ (if a.b.bad = true then 1 else 0) := by split <;> omega
    have fl1 : (if a.b.bad = true then (1 : Int) else 0) ≤ 255 := by split <;> omega
    have q1 : (putF [] (if a.b.bad = true then 1 else 0) 1).length = 1 := by rw [put1 fl0 fl1]; simp [leN_len]
    have q2 : (putF (putF [] (if a.b.bad = true then 1 else 0) 1) (a.b.pages.length : Int) 1).length = 2 := by rw [put1 (by omega) (by omega), List.length_append, q1]; simp [leN_len]
    have q3 := bkB_len a.b
    generalize putF [] (if a.b.bad = true then 1 else 0) 1 = A1 at hbk q1 q2 ⊢
    have r1 := len_ne (L := A1) (by omega)
    simp (maxSteps := 2000000) -implicitDefEqProofs only [rowS, rowM, r1, ↓G13, ↓c46, s_alt, s_alt20, s_alt2t, s_alt2f, ↓s_loopi, ↓v_pq, ↓PRE, POST, CORE, Nat.reduceDiv, Nat.reduceMod, Int.reduceLT, Int.reduceLE, Int.reduceToNat, Int.reduceAdd, ↓reduceIte, Nat.reduceEqDiff, Nat.reduceAdd, Nat.reduceMul, Nat.reduceSub, Nat.reduceLeDiff, Nat.reduceLT, reduceCtorEq, if_true, eq_self, forall_const, implies_true]
    refine ⟨A1, ⟨rdB_row rfl rfl, fun h => (r1 h).elim⟩, by omega, ?_⟩
    generalize putF A1 (a.b.pages.length : Int) 1 = A2 at hbk q2 ⊢
    have r2 := len_ne (L := A2) (by omega)
    simp (maxSteps := 2000000) -implicitDefEqProofs only [r2, ↓G13, ↓c46, s_alt, s_alt20, s_alt2t, s_alt2f, ↓s_loopi, ↓v_pq, ↓PRE, POST, CORE, Nat.reduceDiv, Nat.reduceMod, Int.reduceLT, Int.reduceLE, Int.reduceToNat, Int.reduceAdd, ↓reduceIte, Nat.reduceEqDiff, Nat.reduceAdd, Nat.reduceMul, Nat.reduceSub, Nat.reduceLeDiff, Nat.reduceLT, reduceCtorEq, if_true, eq_self, forall_const, implies_true]
    refine ⟨A2, ⟨rdB_row rfl rfl, fun h => (r2 h).elim⟩, by omega, ?_⟩
    rw [hbk]
    have r3 := len_ne (L := bkB a.b) (by omega)
    simp (maxSteps := 2000000) -implicitDefEqProofs only [r3, ↓G13, ↓c47, s_alt, s_alt20, s_alt2t, s_alt2f, ↓s_loopi, ↓v_pq, ↓PRE, POST, CORE, Nat.reduceDiv, Nat.reduceMod, Int.reduceLT, Int.reduceLE, Int.reduceToNat, Int.reduceAdd, ↓reduceIte, Nat.reduceEqDiff, Nat.reduceAdd, Nat.reduceMul, Nat.reduceSub, Nat.reduceLeDiff, Nat.reduceLT, reduceCtorEq, if_true, eq_self, forall_const, implies_true]
    refine ⟨1, 66, _, bkB a.b, _, O, rfl, rfl, rdB_row rfl rfl, by omega, by omega, .inr ⟨2, rfl, rfl, by decide⟩, by omega, ?_⟩
    rw [← List.length_append, ← ep0]
    simp (maxSteps := 2000000) -implicitDefEqProofs only [kill, List.length_cons, List.length_nil, s_alt, s_alt20, s_alt2t, s_alt2f, ↓s_loopi, ↓v_pq, ↓PRE, POST, CORE, Nat.reduceDiv, Nat.reduceMod, Int.reduceLT, Int.reduceLE, Int.reduceToNat, Int.reduceAdd, ↓reduceIte, Nat.reduceEqDiff, Nat.reduceAdd, Nat.reduceMul, Nat.reduceSub, Nat.reduceLeDiff, Nat.reduceLT, reduceCtorEq, if_true, eq_self, forall_const, implies_true]
    refine TXi_of (TX_count (@g13 J) a.b.pages.length (fun y => [(1, .ptr 0 0), (4, .ptr 1 0), (44, .v (.slice p xs.length c)), (45, .v (.int .i64 (xs.length : Int))), (46, .v (.int .i64 (x : Int))), (64, .v (.slice a.a a.b.pages.length a.c)), (65, .v (.int .i64 (a.b.pages.length : Int))), (66, .v (.int .i64 (y : Int)))]) (fun y => [⟨true, [.v (.int .i64 g.ch), .v (.int .i64 g.di), .v (.int .i64 g.bl), .v (.int .i64 g.pa), .v (.slice p xs.length c)]⟩, ⟨true, [.row 2 0 (outP g bs x a.b y).length 1, .v (.int .i64 0)]⟩, ⟨true, bL (outP g bs x a.b y)⟩]) (fun y => True) trivial (by refine ⟨[0, 1, 8], by simp [NdL, NdA, oO_cells, oO_own, iL_nil], ?_, ?_, keep0 hJ⟩ <;> simp only [FitM, FitE, ObLe, LeL, Le, List.cons_append, List.nil_append] <;> (try (simp (maxSteps := 2000000) -implicitDefEqProofs only [bL_le, s_alt, s_alt20, s_alt2t, s_alt2f, ↓s_loopi, ↓v_pq, ↓PRE, POST, CORE, Nat.reduceDiv, Nat.reduceMod, Int.reduceLT, Int.reduceLE, Int.reduceToNat, Int.reduceAdd, ↓reduceIte, Nat.reduceEqDiff, Nat.reduceAdd, Nat.reduceMul, Nat.reduceSub, Nat.reduceLeDiff, Nat.reduceLT, reduceCtorEq, if_true, eq_self, forall_const, implies_true])) <;> (try simp only [Sz.Le, Sz.LeL, List.getElem?_cons_zero, List.getElem?_cons_succ]) <;> (try simp)) ?_ ?_)
    · intro y hy _
      obtain ⟨q, hq⟩ : ∃ q, a.b.pages[y]? = some q := ⟨_, List.getElem?_eq_getElem hy⟩
      have hmq := List.all_eq_true.1 z2 q (List.mem_of_getElem? hq)
      have f2 : inpL (plusA a.a (y * 3)) 3 = some [.bool q.torn, .string q.beside, .string q.data] := hitem2 y q hq
      have hp2 : a.a.isSome = true := inpL_isSome hina (by omega)
      have j0 : (0 : Int) ≤ (y : Int) := by omega
      have j1 : (y : Int) < (a.b.pages.length : Int) := by omega
      have w2 : IntKind.i64.wrap ((y : Int) + 1) = (y : Int) + 1 := Sz.w_64 (by omega) (by omega)
      have hol2 := hpl y
      have hpgl := pgB_len hmq
      rw [eps y q hq]
      generalize outP g bs x a.b y = O2 at hol2 ⊢
      simp (maxSteps := 2000000) -implicitDefEqProofs only [f2, hp2, j0, j1, ↓G13, ↓c48, s_alt, s_alt20, s_alt2t, s_alt2f, ↓s_loopi, ↓v_pq, ↓PRE, POST, CORE, Nat.reduceDiv, Nat.reduceMod, Int.reduceLT, Int.reduceLE, Int.reduceToNat, Int.reduceAdd, ↓reduceIte, Nat.reduceEqDiff, Nat.reduceAdd, Nat.reduceMul, Nat.reduceSub, Nat.reduceLeDiff, Nat.reduceLT, reduceCtorEq, if_true, eq_self, forall_const, implies_true]
      refine ⟨q.torn, rfl, ?_⟩
      simp (maxSteps := 2000000) -implicitDefEqProofs only [↓G13, ↓c46, s_alt, s_alt20, s_alt2t, s_alt2f, ↓s_loopi, ↓v_pq, ↓PRE, POST, CORE, Nat.reduceDiv, Nat.reduceMod, Int.reduceLT, Int.reduceLE, Int.reduceToNat, Int.reduceAdd, ↓reduceIte, Nat.reduceEqDiff, Nat.reduceAdd, Nat.reduceMul, Nat.reduceSub, Nat.reduceLeDiff, Nat.reduceLT, reduceCtorEq, if_true, eq_self, forall_const, implies_true]
      refine ⟨[], ⟨rfl, fun _ => rfl⟩, by simp, ?_⟩
      have gl0 : (0 : Int) ≤ (if q.torn = true then 1 else 0) := by split <;> omega
      have gl1 : (if q.torn = true then (1 : Int) else 0) ≤ 255 := by split <;> omega
      have s1 : (putF [] (if q.torn = true then 1 else 0) 1).length = 1 := by rw [put1 gl0 gl1]; simp [leN_len]
      by_cases ht : q.torn = true
      · have e := pg_put1 ht
        rw [e] at s1 ⊢
        have t1 := len_ne (L := pgB q) (by omega)
        simp (maxSteps := 2000000) -implicitDefEqProofs only [rowS, rowM, t1, ht, Bool.not_true, Bool.false_eq_true, ↓G13, ↓c47, s_alt, s_alt20, s_alt2t, s_alt2f, ↓s_loopi, ↓v_pq, ↓PRE, POST, CORE, Nat.reduceDiv, Nat.reduceMod, Int.reduceLT, Int.reduceLE, Int.reduceToNat, Int.reduceAdd, ↓reduceIte, Nat.reduceEqDiff, Nat.reduceAdd, Nat.reduceMul, Nat.reduceSub, Nat.reduceLeDiff, Nat.reduceLT, reduceCtorEq, if_true, eq_self, forall_const, implies_true]
        refine ⟨1, 80, _, pgB q, _, O2, rfl, rfl, rdB_row rfl rfl, by omega, by omega, .inr ⟨2, rfl, rfl, by decide⟩, by omega, ?_⟩
        rw [← List.length_append]
        simp (maxSteps := 2000000) -implicitDefEqProofs only [kill, List.length_cons, List.length_nil, w2, s_alt, s_alt20, s_alt2t, s_alt2f, ↓s_loopi, ↓v_pq, ↓PRE, POST, CORE, Nat.reduceDiv, Nat.reduceMod, Int.reduceLT, Int.reduceLE, Int.reduceToNat, Int.reduceAdd, ↓reduceIte, Nat.reduceEqDiff, Nat.reduceAdd, Nat.reduceMul, Nat.reduceSub, Nat.reduceLeDiff, Nat.reduceLT, reduceCtorEq, if_true, eq_self, forall_const, implies_true]
        exact (by refine ⟨[0, 1, 6], by simp [NdL, NdA, oO_cells, oO_own, iL_nil], ?_, ?_, keep0 hJ⟩ <;> simp only [FitM, FitE, ObLe, LeL, Le, List.cons_append, List.nil_append] <;> (try (simp (maxSteps := 2000000) -implicitDefEqProofs only [bL_le, s_alt, s_alt20, s_alt2t, s_alt2f, ↓s_loopi, ↓v_pq, ↓PRE, POST, CORE, Nat.reduceDiv, Nat.reduceMod, Int.reduceLT, Int.reduceLE, Int.reduceToNat, Int.reduceAdd, ↓reduceIte, Nat.reduceEqDiff, Nat.reduceAdd, Nat.reduceMul, Nat.reduceSub, Nat.reduceLeDiff, Nat.reduceLT, reduceCtorEq, if_true, eq_self, forall_const, implies_true])) <;> (try simp only [Sz.Le, Sz.LeL, List.getElem?_cons_zero, List.getElem?_cons_succ]) <;> (try simp))
      · have e := pg_put0 ht hmq
        have ht' : q.torn = false := by simpa using ht
        have hsz : q.beside.size ≤ 32 ∧ q.data.size ≤ 160 := by
          unfold mayPg at hmq
          rw [if_neg ht] at hmq
          simpa using hmq
        have s2 : (textF (putF [] (if q.torn = true then 1 else 0) 1) q.beside).length = 3 + q.beside.size := by rw [text_put (by omega), List.length_append, List.length_append, leN_len, strI_len, s1]; omega
        generalize putF [] (if q.torn = true then 1 else 0) 1 = B1 at e s1 s2 ⊢
        have t1 := len_ne (L := B1) (by omega)
        simp (maxSteps := 2000000) -implicitDefEqProofs only [rowS, rowM, t1, ht', Bool.not_false, ↓G13, ↓c49, s_alt, s_alt20, s_alt2t, s_alt2f, ↓s_loopi, ↓v_pq, ↓PRE, POST, CORE, Nat.reduceDiv, Nat.reduceMod, Int.reduceLT, Int.reduceLE, Int.reduceToNat, Int.reduceAdd, ↓reduceIte, Nat.reduceEqDiff, Nat.reduceAdd, Nat.reduceMul, Nat.reduceSub, Nat.reduceLeDiff, Nat.reduceLT, reduceCtorEq, if_true, eq_self, forall_const, implies_true]
        refine ⟨B1, ⟨rdB_row rfl rfl, fun h => (t1 h).elim⟩, by omega, ?_⟩
        generalize textF B1 q.beside = B2 at e s2 ⊢
        have t2 := len_ne (L := B2) (by omega)
        simp (maxSteps := 2000000) -implicitDefEqProofs only [rowS, rowM, t2, ↓G13, ↓c49, s_alt, s_alt20, s_alt2t, s_alt2f, ↓s_loopi, ↓v_pq, ↓PRE, POST, CORE, Nat.reduceDiv, Nat.reduceMod, Int.reduceLT, Int.reduceLE, Int.reduceToNat, Int.reduceAdd, ↓reduceIte, Nat.reduceEqDiff, Nat.reduceAdd, Nat.reduceMul, Nat.reduceSub, Nat.reduceLeDiff, Nat.reduceLT, reduceCtorEq, if_true, eq_self, forall_const, implies_true]
        refine ⟨B2, ⟨rdB_row rfl rfl, fun h => (t2 h).elim⟩, by omega, ?_⟩
        rw [e]
        have t3 : ¬ pgB q = [] := by unfold pgB; rw [if_neg ht]; simp
        simp (maxSteps := 2000000) -implicitDefEqProofs only [rowS, rowM, t3, ↓G13, ↓c47, s_alt, s_alt20, s_alt2t, s_alt2f, ↓s_loopi, ↓v_pq, ↓PRE, POST, CORE, Nat.reduceDiv, Nat.reduceMod, Int.reduceLT, Int.reduceLE, Int.reduceToNat, Int.reduceAdd, ↓reduceIte, Nat.reduceEqDiff, Nat.reduceAdd, Nat.reduceMul, Nat.reduceSub, Nat.reduceLeDiff, Nat.reduceLT, reduceCtorEq, if_true, eq_self, forall_const, implies_true]
        refine ⟨1, 80, _, pgB q, _, O2, rfl, rfl, rdB_row rfl rfl, by omega, by omega, .inr ⟨2, rfl, rfl, by decide⟩, by omega, ?_⟩
        rw [← List.length_append]
        simp (maxSteps := 2000000) -implicitDefEqProofs only [kill, List.length_cons, List.length_nil, w2, s_alt, s_alt20, s_alt2t, s_alt2f, ↓s_loopi, ↓v_pq, ↓PRE, POST, CORE, Nat.reduceDiv, Nat.reduceMod, Int.reduceLT, Int.reduceLE, Int.reduceToNat, Int.reduceAdd, ↓reduceIte, Nat.reduceEqDiff, Nat.reduceAdd, Nat.reduceMul, Nat.reduceSub, Nat.reduceLeDiff, Nat.reduceLT, reduceCtorEq, if_true, eq_self, forall_const, implies_true]
        exact (by refine ⟨[0, 1, 8], by simp [NdL, NdA, oO_cells, oO_own, iL_nil], ?_, ?_, keep0 hJ⟩ <;> simp only [FitM, FitE, ObLe, LeL, Le, List.cons_append, List.nil_append] <;> (try (simp (maxSteps := 2000000) -implicitDefEqProofs only [bL_le, s_alt, s_alt20, s_alt2t, s_alt2f, ↓s_loopi, ↓v_pq, ↓PRE, POST, CORE, Nat.reduceDiv, Nat.reduceMod, Int.reduceLT, Int.reduceLE, Int.reduceToNat, Int.reduceAdd, ↓reduceIte, Nat.reduceEqDiff, Nat.reduceAdd, Nat.reduceMul, Nat.reduceSub, Nat.reduceLeDiff, Nat.reduceLT, reduceCtorEq, if_true, eq_self, forall_const, implies_true])) <;> (try simp only [Sz.Le, Sz.LeL, List.getElem?_cons_zero, List.getElem?_cons_succ]) <;> (try simp))
    · intro _
      have j1 : ¬ (a.b.pages.length : Int) < (a.b.pages.length : Int) := by omega
      simp (maxSteps := 2000000) -implicitDefEqProofs only [j1, w1, s_alt, s_alt20, s_alt2t, s_alt2f, ↓s_loopi, ↓v_pq, ↓PRE, POST, CORE, Nat.reduceDiv, Nat.reduceMod, Int.reduceLT, Int.reduceLE, Int.reduceToNat, Int.reduceAdd, ↓reduceIte, Nat.reduceEqDiff, Nat.reduceAdd, Nat.reduceMul, Nat.reduceSub, Nat.reduceLeDiff, Nat.reduceLT, reduceCtorEq, if_true, eq_self, forall_const, implies_true]
      exact (by refine ⟨[0, 1, 2], by simp [NdL, NdA, oO_cells, oO_own, iL_nil], ?_, ?_, keep0 hJ⟩ <;> simp only [FitM, FitE, ObLe, LeL, Le, List.cons_append, List.nil_append] <;> (try (simp (maxSteps := 2000000) -implicitDefEqProofs only [bL_le, s_alt, s_alt20, s_alt2t, s_alt2f, ↓s_loopi, ↓v_pq, ↓PRE, POST, CORE, Nat.reduceDiv, Nat.reduceMod, Int.reduceLT, Int.reduceLE, Int.reduceToNat, Int.reduceAdd, ↓reduceIte, Nat.reduceEqDiff, Nat.reduceAdd, Nat.reduceMul, Nat.reduceSub, Nat.reduceLeDiff, Nat.reduceLT, reduceCtorEq, if_true, eq_self, forall_const, implies_true])) <;> (try simp only [Sz.Le, Sz.LeL, List.getElem?_cons_zero, List.getElem?_cons_succ]) <;> (try simp))
  · intro _
    have i1 : ¬ (bs.length : Int) < (bs.length : Int) := by omega
    rw [← hlx, outB_end]
    simp (maxSteps := 2000000) -implicitDefEqProofs only [i1, bne_self_eq_false, Bool.false_eq_true, s_alt, s_alt20, s_alt2t, s_alt2f, ↓s_loopi, ↓v_pq, ↓PRE, POST, CORE, Nat.reduceDiv, Nat.reduceMod, Int.reduceLT, Int.reduceLE, Int.reduceToNat, Int.reduceAdd, ↓reduceIte, Nat.reduceEqDiff, Nat.reduceAdd, Nat.reduceMul, Nat.reduceSub, Nat.reduceLeDiff, Nat.reduceLT, reduceCtorEq, if_true, eq_self, forall_const, implies_true]
    generalize toldF smF g bs = T at hk ⊢
    exact ⟨[2], .tup [.row 0 0 T.length 1, .v (.int .i64 0)], [⟨true, bL T⟩], by simp, by simp [FitM, ObLe, bL_le], by simp, by simp [Le, LeL], by simpa [SV.up, upL, SObj.up, bL_up] using hk⟩
end Go.Proofs.Ytibefgdjijmncaa
end
section
namespace Go.Proofs.Ytibefgdjijmncaa.Sz
open Go.RowKit
def cellN (lo : Nat) (mm : MM) (j o : Nat) (k : IntKind) : Option Int := match mm.at_ lo j with
  | some ob => (match ob.cells[o]? with | some (.v (.int k' x)) => bif keqB k' k then some x else none | _ => none)
  | none => none
def setN (lo : Nat) (mm : MM) (j o : Nat) (s : SV) : Option MM := match mm.at_ lo j with
  | some ob => bif ob.own && Nat.blt o ob.cells.length then mm.put lo j ⟨true, ob.cells.set o s⟩ else none
  | none => none
def nLoad (k : IntKind) : Nat_ := fun args lo mm => match args with
  | [.ptr j o] => (match cellN lo mm j o k with | some x => some [(.v (.int k x), mm)] | none => none)
  | _ => none
def nStore : Nat_ := fun args lo mm => match args with
  | [.ptr j o, .v (.int k y)] => (match setN lo mm j o (.v (.int k y)) with | some m' => some [(.tup [], m')] | none => none)
  | _ => none
theorem cellN_ok {lo : Nat} {mm : MM} {j o : Nat} {k : IntKind} {x : Int} (h : cellN lo mm j o k = some x) : cellI (mm.mem lo) j o k = some x := by
  unfold cellN at h
  unfold cellI
  rw [mem_at]
  split at h
  · rename_i ob hob
    simp only [hob]
    split at h
    · rename_i k' x' hc
      obtain ⟨hk, h2⟩ := bif_some h
      obtain rfl := keqB_ok hk
      subst h2
      simp [hc]
    · cases h
  · cases h
theorem setN_ok {lo : Nat} {mm m' : MM} {j o : Nat} {s : SV} (h : setN lo mm j o s = some m') : setI (mm.mem lo) j o s = some (m'.mem lo) ∧ Keep lo mm m' := by
  unfold setN at h
  unfold setI
  rw [mem_at]
  split at h
  · rename_i ob hob
    simp only [hob]
    obtain ⟨hc, h⟩ := bif_some' h
    rw [Bool.and_eq_true, blt_iff] at hc
    obtain ⟨e1, e2, e3⟩ := put_ok h
    rw [e1]
    refine ⟨by simp [hc.1, blt_iff.2 hc.2], by rw [e2]; exact Nat.le_refl _, e3⟩
  · cases h
theorem ExtC.mono [Inp] {P : Program} {f : FuncId} {q : Bool} {tr tr' : Trans} (h : ExtC P f q tr) (ht : ∀ args m k, tr' args m k → tr args m k) : ExtC P f q tr' :=
  ⟨fun args m k base w0 W r vs h1 => h.runs args m k base w0 W r vs (ht _ _ _ h1)⟩
theorem load_nat [Inp] {P : Program} {f : FuncId} {k : IntKind} (h : ExtC P f true (trOf (gLoad k))) : Callable P f true (natTr (nLoad k)) := .inr (h.mono fun args m c ht => by
  obtain ⟨lo, mm, L, hlo, rfl, hL, hc⟩ := ht
  unfold nLoad at hL
  split at hL
  case h_2 => cases hL
  rename_i j o
  split at hL
  case h_2 => cases hL
  rename_i x hx
  injection hL with hL; subst hL
  unfold trOf gLoad
  simp only [cellN_ok hx]
  intro p hp
  simp only [List.mem_singleton] at hp
  subst hp
  exact hc _ (List.mem_singleton.2 rfl) (Keep.refl _ _))
theorem store_nat [Inp] {P : Program} {f : FuncId} (h : ExtC P f false (trOf gStore)) : Callable P f false (natTr nStore) := .inr (h.mono fun args m c ht => by
  obtain ⟨lo, mm, L, hlo, rfl, hL, hc⟩ := ht
  unfold nStore at hL
  split at hL
  case h_2 => cases hL
  rename_i j o k y
  split at hL
  case h_2 => cases hL
  rename_i m' hm
  injection hL with hL; subst hL
  obtain ⟨h1, h2⟩ := setN_ok hm
  unfold trOf gStore
  simp only [h1]
  intro p hp
  simp only [List.mem_singleton] at hp
  subst hp
  exact hc _ (List.mem_singleton.2 rfl) h2)
end Go.Proofs.Ytibefgdjijmncaa.Sz
end
section
namespace Go.Proofs.Ytibefgdjijmncaa.Run
open Go.RowKit Sz
set_option maxHeartbeats 4000000
set_option maxRecDepth 20000
abbrev EFF : List FuncId := [47, 50, 51, 52, 54, 56, 95, 97, 98, 99, 100, 101, 125, 126, 180]
theorem h164 : ∀ I : Inp, @Callable I Try.prog 164 true (natTr (nLoad .u32)) := fun I => load_nat e164
theorem h180 : ∀ I : Inp, @Callable I Try.prog 180 false (natTr nStore) := fun I => store_nat e180
theorem fn123e : FnX Try.prog 123 EFF 5 x123 r123 := ⟨_, Try.func123, by kernel_rfl, by kernel_rfl, by kernel_rfl, by kernel_rfl⟩
-- almshouse/almshouselaw43.fixed (0 parameters)
def x11 : XC := (.seq (.tree (.seq ⟨some 0, none, (.ofA (.mv (.cst (.v (.bool false)))))⟩ .done)) (.seq (.tree (.seq ⟨some 10, none, (.call (.cst (.fn 43 [])) [])⟩ (.seq ⟨some 11, none, (.call (.cst (.fn 13 [])) [(.tmp 10)])⟩ (.seq ⟨some 9, none, (.ofA (.mv (.tmp 11)))⟩ (.seq ⟨some 12, none, (.ofA (.extract 0 (.tmp 9)))⟩ (.seq ⟨some 13, none, (.ofA (.extract 1 (.tmp 9)))⟩ (.seq ⟨some 1, none, (.ofA (.mv (.tmp 12)))⟩ (.seq ⟨some 2, none, (.ofA (.mv (.tmp 13)))⟩ .done)))))))) (.seq (.tree (.seq ⟨some 15, none, (.ofA (.mv (.tmp 1)))⟩ (.seq ⟨some 16, none, (.call (.cst (.fn 15 [])) [(.tmp 15)])⟩ (.seq ⟨some 14, none, (.ofA (.mv (.tmp 16)))⟩ (.seq ⟨some 17, none, (.ofA (.extract 0 (.tmp 14)))⟩ (.seq ⟨some 18, none, (.ofA (.extract 1 (.tmp 14)))⟩ (.seq ⟨some 3, none, (.alloc [(.v (.int .i64 0)), (.v (.int .i64 0)), (.v (.int .i64 0)), (.v (.int .i64 0)), (.v (.slice none 0 0))])⟩ (.seq ⟨none, none, (.store 5 (.tmp 3) (.tmp 17))⟩ (.seq ⟨some 4, none, (.ofA (.mv (.tmp 18)))⟩ .done))))))))) (.seq (.tree (.seq ⟨some 20, none, (.build [(.v (.int .i64 0)), (.v (.int .i64 0)), (.v (.int .i64 0)), (.v (.int .i64 0)), (.v (.slice none 0 0))] [])⟩ (.seq ⟨some 21, none, (.call (.cst (.fn 13 [])) [(.tmp 20)])⟩ (.seq ⟨some 19, none, (.ofA (.mv (.tmp 21)))⟩ (.seq ⟨some 22, none, (.ofA (.extract 0 (.tmp 19)))⟩ (.seq ⟨some 23, none, (.ofA (.extract 1 (.tmp 19)))⟩ (.seq ⟨some 5, none, (.ofA (.mv (.tmp 22)))⟩ (.seq ⟨some 6, none, (.ofA (.mv (.tmp 23)))⟩ .done)))))))) (.seq (.tree (.seq ⟨some 25, none, (.call (.cst (.fn 15 [])) [(.cst (.v (.slice none 0 0)))])⟩ (.seq ⟨some 24, none, (.ofA (.mv (.tmp 25)))⟩ (.seq ⟨some 26, none, (.ofA (.extract 0 (.tmp 24)))⟩ (.seq ⟨some 27, none, (.ofA (.extract 1 (.tmp 24)))⟩ (.seq ⟨some 7, none, (.alloc [(.v (.int .i64 0)), (.v (.int .i64 0)), (.v (.int .i64 0)), (.v (.int .i64 0)), (.v (.slice none 0 0))])⟩ (.seq ⟨none, none, (.store 5 (.tmp 7) (.tmp 26))⟩ (.seq ⟨some 8, none, (.ofA (.mv (.tmp 27)))⟩ .done)))))))) (.seq (.tree (.take ⟨some 28, none, (.ofA (.mv (.tmp 2)))⟩ (.take ⟨some 29, none, (.ofA (.bin .eql (.tmp 28) (.cst (.v (.int .i64 0)))))⟩ (.take ⟨some 30, none, (.ofA (.mv (.tmp 29)))⟩ (.take ⟨some 31, some (30, true), (.ofA (.mv (.tmp 4)))⟩ (.take ⟨some 32, some (30, true), (.ofA (.bin .eql (.tmp 31) (.cst (.v (.int .i64 0)))))⟩ (.take ⟨some 33, none, (.ofA (.pick (.tmp 30) (.tmp 32) (.cst (.v (.bool false)))))⟩ (.take ⟨some 34, none, (.ofA (.mv (.tmp 33)))⟩ (.take ⟨some 35, some (34, true), (.ofA (.load (some 5) (.tmp 3)))⟩ (.act true [(⟨some 36, some (34, true), (.call (.cst (.fn 43 [])) [])⟩, (.act true [(⟨some 37, some (34, true), (.call (.cst (.fn 17 [])) [(.tmp 35), (.tmp 36)])⟩, (.take ⟨some 38, none, (.ofA (.pick (.tmp 34) (.tmp 37) (.cst (.v (.bool false)))))⟩ (.take ⟨some 39, none, (.ofA (.mv (.tmp 38)))⟩ (.take ⟨some 40, some (39, true), (.ofA (.mv (.tmp 6)))⟩ (.take ⟨some 41, some (39, true), (.ofA (.bin .eql (.tmp 40) (.cst (.v (.int .i64 2)))))⟩ (.take ⟨some 42, none, (.ofA (.pick (.tmp 39) (.tmp 41) (.cst (.v (.bool false)))))⟩ (.take ⟨some 43, none, (.ofA (.mv (.tmp 42)))⟩ (.take ⟨some 44, some (43, true), (.ofA (.mv (.tmp 8)))⟩ (.take ⟨some 45, some (43, true), (.ofA (.bin .eql (.tmp 44) (.cst (.v (.int .i64 2)))))⟩ (.take ⟨some 46, none, (.ofA (.pick (.tmp 43) (.tmp 45) (.cst (.v (.bool false)))))⟩ (.take ⟨some 47, none, (.ofA (.mv (.tmp 46)))⟩ (.take ⟨some 48, some (47, true), (.ofA (.load (some 5) (.tmp 3)))⟩ (.act true [(⟨some 49, some (47, true), (.build [(.v (.int .i64 0)), (.v (.int .i64 0)), (.v (.int .i64 0)), (.v (.int .i64 0)), (.v (.slice none 0 0))] [])⟩, (.act true [(⟨some 50, some (47, true), (.call (.cst (.fn 18 [])) [(.tmp 48), (.tmp 49)])⟩, (.take ⟨some 51, some (47, true), (.ofA (.len (.tmp 50)))⟩ (.take ⟨some 52, some (47, true), (.ofA (.bin .eql (.tmp 51) (.cst (.v (.int .i64 3)))))⟩ (.take ⟨some 53, none, (.ofA (.pick (.tmp 47) (.tmp 52) (.cst (.v (.bool false)))))⟩ (.take ⟨some 54, none, (.ofA (.mv (.tmp 53)))⟩ (.act true [(⟨some 55, some (54, true), (.call (.cst (.fn 44 [])) [(.cst (.v (.pointer none)))])⟩, (.take ⟨some 56, some (54, true), (.ofA (.field 4 none (.tmp 55)))⟩ (.take ⟨some 57, some (54, true), (.ofA (.len (.tmp 56)))⟩ (.take ⟨some 58, some (54, true), (.ofA (.bin .eql (.tmp 57) (.cst (.v (.int .i64 0)))))⟩ (.take ⟨some 59, none, (.ofA (.pick (.tmp 54) (.tmp 58) (.cst (.v (.bool false)))))⟩ (.take ⟨some 0, none, (.ofA (.mv (.tmp 59)))⟩ .done))))))]))))))]))])))))))))))))]))])))))))))) .ret))))))
def r11 : List XR := [.tmp 0]
theorem fn11 : FnX Try.prog 11 EFF 60 x11 r11 := ⟨_, Try.func11, by kernel_rfl, by kernel_rfl, by kernel_rfl, by kernel_rfl⟩
-- almshouse/image.Bytes (1 parameters)
def x13 : XC := (fun (u0 : XT) =>
 (.seq (.tree (.seq ⟨some 1, none, (.box (.tmp 0))⟩ (.seq ⟨some 2, none, (.ofA (.mv (.cst (.v (.slice none 0 0)))))⟩ u0))) (.seq (.seq (.tree (.seq ⟨some 13, none, (.ofA (.load (some 5) (.tmp 1)))⟩ (.seq ⟨some 14, none, (.call (.cst (.fn 45 [])) [(.tmp 13)])⟩ (.seq ⟨some 15, none, (.ofA (.un .not (.tmp 14)))⟩ .done)))) (.cond (.tmp 15) (.seq (.tree (.seq ⟨some 2, none, (.ofA (.mv (.cst (.v (.slice none 0 0)))))⟩ (.seq ⟨some 3, none, (.ofA (.mv (.cst (.v (.int .i64 2)))))⟩ .done))) .ret) .skip)) (.seq (.tree (.seq ⟨some 16, none, (.build [(.v (.slice none 0 0)), (.v (.int .i64 0))] [])⟩ (.seq ⟨some 17, none, (.box (.tmp 16))⟩ (.seq ⟨some 4, none, (.ofA (.mv (.tmp 17)))⟩ .done)))) (.seq (.tree (.seq ⟨some 5, none, (.ofA (.mv (.cst (.v (.slice none 0 0)))))⟩ .done)) (.seq (.seq (.tree (.seq ⟨some 18, none, (.ofA (.faddr 0 (.tmp 1)))⟩ (.seq ⟨some 19, none, (.ofA (.faddr 0 (.tmp 18)))⟩ (.seq ⟨some 20, none, (.ofA (.load none (.tmp 19)))⟩ (.seq ⟨some 21, none, (.ofA (.faddr 0 (.tmp 1)))⟩ (.seq ⟨some 22, none, (.ofA (.faddr 1 (.tmp 21)))⟩ (.seq ⟨some 23, none, (.ofA (.load none (.tmp 22)))⟩ (.seq ⟨some 24, none, (.ofA (.faddr 0 (.tmp 1)))⟩ (.seq ⟨some 25, none, (.ofA (.faddr 2 (.tmp 24)))⟩ (.seq ⟨some 26, none, (.ofA (.load none (.tmp 25)))⟩ (.seq ⟨some 27, none, (.ofA (.faddr 0 (.tmp 1)))⟩ (.seq ⟨some 28, none, (.ofA (.faddr 3 (.tmp 27)))⟩ (.seq ⟨some 29, none, (.ofA (.load none (.tmp 28)))⟩ (.seq ⟨some 30, none, (.buildSl 1 4 [(.v (.int .i64 0)), (.v (.int .i64 0)), (.v (.int .i64 0)), (.v (.int .i64 0))] [(0, 1, (.tmp 20)), (1, 1, (.tmp 23)), (2, 1, (.tmp 26)), (3, 1, (.tmp 29))])⟩ (.seq ⟨some 31, none, (.ofA (.len (.tmp 30)))⟩ (.seq ⟨some 32, none, (.ofA (.mv (.cst (.v (.int .i64 0)))))⟩ .done)))))))))))))))) (.block 0 (.loop (.seq (.tree (.seq ⟨some 33, none, (.ofA (.bin .lss (.tmp 32) (.tmp 31)))⟩ .done)) (.seq (.cond (.tmp 33) .skip (.exit 0)) (.seq (.block 1 (.seq (.tree (.seq ⟨some 34, none, (.ofA (.isl 1 (.tmp 30) (.tmp 32)))⟩ (.seq ⟨some 35, none, (.ofA (.load none (.tmp 34)))⟩ (.seq ⟨some 7, none, (.ofA (.mv (.tmp 35)))⟩ .done)))) (.tree (.seq ⟨some 36, none, (.ofA (.mv (.tmp 5)))⟩ (.seq ⟨some 37, none, (.ofA (.mv (.tmp 7)))⟩ (.seq ⟨some 38, none, (.call (.cst (.fn 46 [])) [(.tmp 36), (.tmp 37), (.cst (.v (.int .i64 1)))])⟩ (.seq ⟨some 5, none, (.ofA (.mv (.tmp 38)))⟩ .done))))))) (.tree (.seq ⟨some 39, none, (.ofA (.bin .add (.tmp 32) (.cst (.v (.int .i64 1)))))⟩ (.seq ⟨some 32, none, (.ofA (.mv (.tmp 39)))⟩ .done))))))))) (.seq (.tree (.seq ⟨some 40, none, (.ofA (.mv (.tmp 4)))⟩ (.seq ⟨some 41, none, (.ofA (.mv (.tmp 5)))⟩ (.seq ⟨some 42, none, (.call (.cst (.fn 47 [])) [(.tmp 40), (.cst (.v (.int .i64 71))), (.tmp 41)])⟩ .done)))) (.seq (.seq (.tree (.seq ⟨some 43, none, (.ofA (.faddr 4 (.tmp 1)))⟩ (.seq ⟨some 44, none, (.ofA (.load none (.tmp 43)))⟩ (.seq ⟨some 45, none, (.ofA (.len (.tmp 44)))⟩ (.seq ⟨some 46, none, (.ofA (.mv (.cst (.v (.int .i64 0)))))⟩ .done))))) (.block 2 (.loop (.seq (.tree (.seq ⟨some 47, none, (.ofA (.bin .lss (.tmp 46) (.tmp 45)))⟩ .done)) (.seq (.cond (.tmp 47) .skip (.exit 2)) (.seq (.block 3 (.seq (.tree (.seq ⟨some 48, none, (.ofA (.isl 3 (.tmp 44) (.tmp 46)))⟩ (.seq ⟨some 49, none, (.ofA (.load (some 3) (.tmp 48)))⟩ (.seq ⟨some 9, none, (.alloc [(.v (.bool false)), (.v (.int .i64 0)), (.v (.slice none 0 0))])⟩ (.seq ⟨none, none, (.store 3 (.tmp 9) (.tmp 49))⟩ .done))))) (.seq (.tree (.take ⟨some 50, none, (.ofA (.mv (.tmp 4)))⟩ (.take ⟨some 51, none, (.ofA (.faddr 0 (.tmp 9)))⟩ (.take ⟨some 52, none, (.ofA (.load none (.tmp 51)))⟩ (.take ⟨some 55, none, (.ofA (.faddr 2 (.tmp 9)))⟩ (.take ⟨some 56, none, (.ofA (.load none (.tmp 55)))⟩ (.take ⟨some 57, none, (.ofA (.len (.tmp 56)))⟩ (.take ⟨some 59, none, (.ofA (.faddr 1 (.tmp 9)))⟩ (.take ⟨some 60, none, (.ofA (.load none (.tmp 59)))⟩ (.alt [true] [(⟨some 53, none, (.call (.cst (.fn 48 [])) [(.tmp 52)])⟩, (.alt [true] [(⟨some 54, none, (.call (.cst (.fn 46 [])) [(.cst (.v (.slice none 0 0))), (.tmp 53), (.cst (.v (.int .i64 1)))])⟩, (.alt [true] [(⟨some 58, none, (.call (.cst (.fn 46 [])) [(.tmp 54), (.tmp 57), (.cst (.v (.int .i64 1)))])⟩, (.alt [true] [(⟨some 61, none, (.call (.cst (.fn 46 [])) [(.tmp 58), (.tmp 60), (.cst (.v (.int .i64 4)))])⟩, (.alt [false] [(⟨some 62, none, (.call (.cst (.fn 47 [])) [(.tmp 50), (.cst (.v (.int .i64 66))), (.tmp 61)])⟩, .done)]))]))]))]))])))))))))) (.seq (.tree (.seq ⟨some 63, none, (.ofA (.faddr 2 (.tmp 9)))⟩ (.seq ⟨some 64, none, (.ofA (.load none (.tmp 63)))⟩ (.seq ⟨some 65, none, (.ofA (.len (.tmp 64)))⟩ (.seq ⟨some 66, none, (.ofA (.mv (.cst (.v (.int .i64 0)))))⟩ .done))))) (.block 4 (.loop (.seq (.tree (.seq ⟨some 67, none, (.ofA (.bin .lss (.tmp 66) (.tmp 65)))⟩ .done)) (.seq (.cond (.tmp 67) .skip (.exit 4)) (.seq (.block 5 (.seq (.tree (.seq ⟨some 68, none, (.ofA (.isl 3 (.tmp 64) (.tmp 66)))⟩ (.seq ⟨some 69, none, (.ofA (.load (some 3) (.tmp 68)))⟩ (.seq ⟨some 11, none, (.alloc [(.v (.bool false)), (.v (.string ⟨#[]⟩)), (.v (.string ⟨#[]⟩))])⟩ (.seq ⟨none, none, (.store 3 (.tmp 11) (.tmp 69))⟩ .done))))) (.seq (.tree (.seq ⟨some 70, none, (.ofA (.faddr 0 (.tmp 11)))⟩ (.seq ⟨some 71, none, (.ofA (.load none (.tmp 70)))⟩ (.seq ⟨some 72, none, (.call (.cst (.fn 48 [])) [(.tmp 71)])⟩ (.seq ⟨some 73, none, (.call (.cst (.fn 46 [])) [(.cst (.v (.slice none 0 0))), (.tmp 72), (.cst (.v (.int .i64 1)))])⟩ (.seq ⟨some 12, none, (.ofA (.mv (.tmp 73)))⟩ .done)))))) (.seq (.seq (.tree (.seq ⟨some 74, none, (.ofA (.faddr 0 (.tmp 11)))⟩ (.seq ⟨some 75, none, (.ofA (.load none (.tmp 74)))⟩ (.seq ⟨some 76, none, (.ofA (.un .not (.tmp 75)))⟩ .done)))) (.cond (.tmp 76) (.tree (.take ⟨some 77, none, (.ofA (.mv (.tmp 12)))⟩ (.take ⟨some 78, none, (.ofA (.faddr 1 (.tmp 11)))⟩ (.take ⟨some 79, none, (.ofA (.load none (.tmp 78)))⟩ (.take ⟨some 81, none, (.ofA (.faddr 2 (.tmp 11)))⟩ (.take ⟨some 82, none, (.ofA (.load none (.tmp 81)))⟩ (.act true [(⟨some 80, none, (.call (.cst (.fn 49 [])) [(.tmp 77), (.tmp 79)])⟩, (.act true [(⟨some 83, none, (.call (.cst (.fn 49 [])) [(.tmp 80), (.tmp 82)])⟩, (.take ⟨some 12, none, (.ofA (.mv (.tmp 83)))⟩ .done))]))]))))))) .skip)) (.tree (.seq ⟨some 84, none, (.ofA (.mv (.tmp 4)))⟩ (.seq ⟨some 85, none, (.ofA (.mv (.tmp 12)))⟩ (.seq ⟨some 86, none, (.call (.cst (.fn 47 [])) [(.tmp 84), (.cst (.v (.int .i64 80))), (.tmp 85)])⟩ .done)))))))) (.tree (.seq ⟨some 87, none, (.ofA (.bin .add (.tmp 66) (.cst (.v (.int .i64 1)))))⟩ (.seq ⟨some 66, none, (.ofA (.mv (.tmp 87)))⟩ .done)))))))))))) (.tree (.seq ⟨some 88, none, (.ofA (.bin .add (.tmp 46) (.cst (.v (.int .i64 1)))))⟩ (.seq ⟨some 46, none, (.ofA (.mv (.tmp 88)))⟩ .done))))))))) (.seq (.seq (.tree (.seq ⟨some 89, none, (.ofA (.mv (.tmp 4)))⟩ (.seq ⟨some 90, none, (.ofA (.nilc (.tmp 89)))⟩ (.seq ⟨some 91, none, (.ofA (.faddr 1 (.tmp 90)))⟩ (.seq ⟨some 92, none, (.ofA (.load none (.tmp 91)))⟩ (.seq ⟨some 93, none, (.ofA (.bin .neq (.tmp 92) (.cst (.v (.int .i64 0)))))⟩ .done)))))) (.cond (.tmp 93) (.seq (.tree (.take ⟨some 94, none, (.ofA (.mv (.tmp 4)))⟩ (.take ⟨some 95, none, (.ofA (.nilc (.tmp 94)))⟩ (.take ⟨some 96, none, (.ofA (.faddr 1 (.tmp 95)))⟩ (.take ⟨some 97, none, (.ofA (.load none (.tmp 96)))⟩ (.take ⟨some 2, none, (.ofA (.mv (.cst (.v (.slice none 0 0)))))⟩ (.take ⟨some 3, none, (.ofA (.mv (.tmp 97)))⟩ .done))))))) .ret) .skip)) (.seq (.tree (.seq ⟨some 98, none, (.ofA (.mv (.tmp 4)))⟩ (.seq ⟨some 99, none, (.ofA (.nilc (.tmp 98)))⟩ (.seq ⟨some 100, none, (.ofA (.faddr 0 (.tmp 99)))⟩ (.seq ⟨some 101, none, (.ofA (.load none (.tmp 100)))⟩ (.seq ⟨some 2, none, (.ofA (.mv (.tmp 101)))⟩ u0)))))) .ret))))))))))
 (.seq ⟨some 3, none, (.ofA (.mv (.cst (.v (.int .i64 0)))))⟩ .done)
def r13 : List XR := [.tmp 2, .tmp 3]
theorem fn13 : FnX Try.prog 13 EFF 102 x13 r13 := ⟨_, Try.func13, by kernel_rfl, by kernel_rfl, by kernel_rfl, by kernel_rfl⟩
-- almshouse/image.Parse (1 parameters)
def x15 : XC := (fun (u0 : XT) =>
 (fun (u1 : XT) =>
 (fun (u2 : XT) =>
 (fun (u3 : XT) =>
 (.seq (.tree (.seq ⟨some 2, none, (.alloc [(.v (.int .i64 0)), (.v (.int .i64 0)), (.v (.int .i64 0)), (.v (.int .i64 0)), (.v (.slice none 0 0))])⟩ u0)) (.seq (.tree (.seq ⟨some 6, none, (.ofA (.mv (.tmp 0)))⟩ (.seq ⟨some 7, none, (.build [(.v (.slice none 0 0)), (.v (.int .i64 0))] [(0, 1, (.tmp 6))])⟩ (.seq ⟨some 8, none, (.box (.tmp 7))⟩ (.seq ⟨some 4, none, (.ofA (.mv (.tmp 8)))⟩ .done))))) (.seq (.tree (.seq ⟨some 5, none, (.alloc [(.v (.int .i64 0)), (.v (.int .i64 0)), (.v (.int .i64 0)), (.v (.int .i64 0)), (.v (.slice none 0 0))])⟩ .done)) (.seq (.tree (.seq ⟨some 9, none, (.ofA (.mv (.tmp 4)))⟩ (.seq ⟨some 10, none, (.ofA (.mkfn 51 [(.tmp 5)]))⟩ (.seq ⟨some 11, none, (.call (.cst (.fn 50 [])) [(.tmp 9), (.cst (.v (.int .i64 71))), (.tmp 10)])⟩ .done)))) (.seq (.seq (.tree (.seq ⟨some 12, none, (.ofA (.mv (.tmp 4)))⟩ (.seq ⟨some 13, none, (.ofA (.nilc (.tmp 12)))⟩ (.seq ⟨some 14, none, (.ofA (.faddr 1 (.tmp 13)))⟩ (.seq ⟨some 15, none, (.ofA (.load none (.tmp 14)))⟩ (.seq ⟨some 16, none, (.ofA (.bin .eql (.tmp 15) (.cst (.v (.int .i64 0)))))⟩ (.seq ⟨some 17, none, (.ofA (.mv (.tmp 16)))⟩ (.seq ⟨some 18, some (17, true), (.ofA (.faddr 0 (.tmp 5)))⟩ (.seq ⟨some 19, some (17, true), (.ofA (.load (some 4) (.tmp 18)))⟩ (.seq ⟨some 20, some (17, true), (.call (.cst (.fn 53 [])) [(.tmp 19)])⟩ (.seq ⟨some 21, some (17, true), (.ofA (.bin .neq (.tmp 20) (.cst (.v (.int .i64 0)))))⟩ (.seq ⟨some 22, none, (.ofA (.pick (.tmp 17) (.tmp 21) (.cst (.v (.bool false)))))⟩ .done)))))))))))) (.cond (.tmp 22) (.tree (.seq ⟨some 23, none, (.ofA (.mv (.tmp 4)))⟩ (.seq ⟨some 24, none, (.call (.cst (.fn 54 [])) [(.tmp 23), (.cst (.v (.int .i64 2)))])⟩ .done))) .skip)) (.seq (.seq (.tree (.seq ⟨some 25, none, (.ofA (.faddr 0 (.tmp 5)))⟩ (.seq ⟨some 26, none, (.ofA (.load (some 4) (.tmp 25)))⟩ (.seq ⟨some 27, none, (.call (.cst (.fn 55 [])) [(.tmp 26)])⟩ (.seq ⟨some 28, none, (.ofA (.mv (.cst (.v (.int .i64 0)))))⟩ .done))))) (.block 0 (.loop (.seq (.tree (.seq ⟨some 29, none, (.ofA (.bin .lss (.tmp 28) (.tmp 27)))⟩ .done)) (.seq (.cond (.tmp 29) .skip (.exit 0)) (.seq (.block 1 (.seq (.tree (.seq ⟨some 30, none, (.ofA (.mv (.tmp 4)))⟩ (.seq ⟨some 31, none, (.ofA (.nilc (.tmp 30)))⟩ (.seq ⟨some 32, none, (.ofA (.faddr 1 (.tmp 31)))⟩ (.seq ⟨some 33, none, (.ofA (.load none (.tmp 32)))⟩ (.seq ⟨some 34, none, (.ofA (.bin .eql (.tmp 33) (.cst (.v (.int .i64 0)))))⟩ .done)))))) (.cond (.tmp 34) (.tree (.take ⟨some 35, none, (.ofA (.faddr 4 (.tmp 5)))⟩ (.take ⟨some 37, none, (.ofA (.mv (.tmp 4)))⟩ (.alt [true, false] [(⟨some 36, none, (.ofA (.load none (.tmp 35)))⟩, (.alt [false] [(⟨some 38, none, (.call (.cst (.fn 56 [])) [(.tmp 37)])⟩, u1)])), (⟨some 38, none, (.call (.cst (.fn 56 [])) [(.tmp 37)])⟩, (.take ⟨some 36, none, (.ofA (.load none (.tmp 35)))⟩ u1))])))) .skip))) (.tree (.seq ⟨some 42, none, (.ofA (.bin .add (.tmp 28) (.cst (.v (.int .i64 1)))))⟩ (.seq ⟨some 28, none, (.ofA (.mv (.tmp 42)))⟩ .done))))))))) (.seq (.seq (.tree (.seq ⟨some 43, none, (.ofA (.mv (.tmp 4)))⟩ (.seq ⟨some 44, none, (.ofA (.nilc (.tmp 43)))⟩ (.seq ⟨some 45, none, (.ofA (.faddr 1 (.tmp 44)))⟩ (.seq ⟨some 46, none, (.ofA (.load none (.tmp 45)))⟩ (.seq ⟨some 47, none, (.ofA (.bin .eql (.tmp 46) (.cst (.v (.int .i64 0)))))⟩ (.seq ⟨some 48, none, (.ofA (.mv (.tmp 47)))⟩ (.seq ⟨some 49, some (48, true), (.ofA (.mv (.tmp 4)))⟩ (.seq ⟨some 50, some (48, true), (.ofA (.nilc (.tmp 49)))⟩ (.seq ⟨some 51, some (48, true), (.ofA (.faddr 0 (.tmp 50)))⟩ (.seq ⟨some 52, some (48, true), (.ofA (.load none (.tmp 51)))⟩ (.seq ⟨some 53, some (48, true), (.ofA (.len (.tmp 52)))⟩ (.seq ⟨some 54, some (48, true), (.ofA (.bin .gtr (.tmp 53) (.cst (.v (.int .i64 0)))))⟩ (.seq ⟨some 55, some (48, true), (.ofA (.mv (.tmp 54)))⟩ (.seq ⟨some 56, some (55, false), (.ofA (.load (some 5) (.tmp 5)))⟩ (.seq ⟨some 57, some (55, false), (.call (.cst (.fn 45 [])) [(.tmp 56)])⟩ (.seq ⟨some 58, some (55, false), (.ofA (.un .not (.tmp 57)))⟩ (.seq ⟨some 59, some (48, true), (.ofA (.pick (.tmp 55) (.cst (.v (.bool true))) (.tmp 58)))⟩ (.seq ⟨some 60, none, (.ofA (.pick (.tmp 48) (.tmp 59) (.cst (.v (.bool false)))))⟩ .done))))))))))))))))))) (.cond (.tmp 60) (.tree (.seq ⟨some 61, none, (.ofA (.mv (.tmp 4)))⟩ (.seq ⟨some 62, none, (.call (.cst (.fn 54 [])) [(.tmp 61), (.cst (.v (.int .i64 2)))])⟩ .done))) .skip)) (.seq (.seq (.tree (.seq ⟨some 63, none, (.ofA (.mv (.tmp 4)))⟩ (.seq ⟨some 64, none, (.ofA (.nilc (.tmp 63)))⟩ (.seq ⟨some 65, none, (.ofA (.faddr 1 (.tmp 64)))⟩ (.seq ⟨some 66, none, (.ofA (.load none (.tmp 65)))⟩ (.seq ⟨some 67, none, (.ofA (.bin .neq (.tmp 66) (.cst (.v (.int .i64 0)))))⟩ .done)))))) (.cond (.tmp 67) (.seq (.tree (.take ⟨some 69, none, (.ofA (.mv (.tmp 4)))⟩ (.take ⟨some 70, none, (.ofA (.nilc (.tmp 69)))⟩ (.take ⟨some 71, none, (.ofA (.faddr 1 (.tmp 70)))⟩ (.alt [true, true] [(⟨some 68, none, (.build [(.v (.int .i64 0)), (.v (.int .i64 0)), (.v (.int .i64 0)), (.v (.int .i64 0)), (.v (.slice none 0 0))] [])⟩, (.alt [true, false] [(⟨some 72, none, (.ofA (.load none (.tmp 71)))⟩, u3), (⟨none, none, (.store 5 (.tmp 2) (.tmp 68))⟩, (.take ⟨some 72, none, (.ofA (.load none (.tmp 71)))⟩ u2))])), (⟨some 72, none, (.ofA (.load none (.tmp 71)))⟩, (.alt [true] [(⟨some 68, none, (.build [(.v (.int .i64 0)), (.v (.int .i64 0)), (.v (.int .i64 0)), (.v (.int .i64 0)), (.v (.slice none 0 0))] [])⟩, u3)]))]))))) .ret) .skip)) (.seq (.tree (.seq ⟨some 73, none, (.ofA (.load (some 5) (.tmp 5)))⟩ (.seq ⟨none, none, (.store 5 (.tmp 2) (.tmp 73))⟩ u0))) .ret))))))))))
 (.alt [false] [(⟨none, none, (.store 5 (.tmp 2) (.tmp 68))⟩, u2)]))
 (.take ⟨some 3, none, (.ofA (.mv (.tmp 72)))⟩ .done))
 (.alt [true] [(⟨some 39, none, (.buildSl 3 1 [(.v (.bool false)), (.v (.int .i64 0)), (.v (.slice none 0 0))] [(0, 3, (.tmp 38))])⟩, (.alt [false] [(⟨some 40, none, (.app 3 40 (.tmp 36) (.tmp 39))⟩, (.take ⟨some 41, none, (.ofA (.faddr 4 (.tmp 5)))⟩ (.alt [false] [(⟨none, none, (.store 1 (.tmp 41) (.tmp 40))⟩, .done)])))]))]))
 (.seq ⟨some 3, none, (.ofA (.mv (.cst (.v (.int .i64 0)))))⟩ .done)
def r15 : List XR := [.cell 2 (some 5), .tmp 3]
theorem fn15 : FnX Try.prog 15 EFF 74 x15 r15 := ⟨_, Try.func15, by kernel_rfl, by kernel_rfl, by kernel_rfl, by kernel_rfl⟩
-- almshouse/image.Same (2 parameters)
def x17 : XC := (.seq (.tree (.seq ⟨some 2, none, (.box (.tmp 0))⟩ (.seq ⟨some 3, none, (.box (.tmp 1))⟩ (.seq ⟨some 4, none, (.ofA (.mv (.cst (.v (.bool false)))))⟩ .done)))) (.seq (.tree (.seq ⟨some 5, none, (.ofA (.faddr 0 (.tmp 2)))⟩ (.seq ⟨some 6, none, (.ofA (.load (some 4) (.tmp 5)))⟩ (.seq ⟨some 7, none, (.ofA (.faddr 0 (.tmp 3)))⟩ (.seq ⟨some 8, none, (.ofA (.load (some 4) (.tmp 7)))⟩ (.seq ⟨some 9, none, (.ofA (.eqs false [.int, .int, .int, .int] (.tmp 6) (.tmp 8)))⟩ (.seq ⟨some 10, none, (.ofA (.mv (.tmp 9)))⟩ (.seq ⟨some 11, some (10, true), (.ofA (.faddr 4 (.tmp 2)))⟩ (.seq ⟨some 12, some (10, true), (.ofA (.load none (.tmp 11)))⟩ (.seq ⟨some 13, some (10, true), (.ofA (.faddr 4 (.tmp 3)))⟩ (.seq ⟨some 14, some (10, true), (.ofA (.load none (.tmp 13)))⟩ (.seq ⟨some 15, some (10, true), (.call (.cst (.fn 61 [])) [(.tmp 12), (.tmp 14), (.cst (.fn 62 []))])⟩ (.seq ⟨some 16, none, (.ofA (.pick (.tmp 10) (.tmp 15) (.cst (.v (.bool false)))))⟩ (.seq ⟨some 4, none, (.ofA (.mv (.tmp 16)))⟩ .done)))))))))))))) .ret))
def r17 : List XR := [.tmp 4]
theorem fn17 : FnX Try.prog 17 EFF 17 x17 r17 := ⟨_, Try.func17, by kernel_rfl, by kernel_rfl, by kernel_rfl, by kernel_rfl⟩
-- almshouse/image.Diff (2 parameters)
def x18 : XC := (.seq (.tree (.seq ⟨some 2, none, (.box (.tmp 0))⟩ (.seq ⟨some 3, none, (.box (.tmp 1))⟩ (.seq ⟨some 4, none, (.ofA (.mv (.cst (.v (.slice none 0 0)))))⟩ .done)))) (.seq (.tree (.seq ⟨some 5, none, (.ofA (.mv (.cst (.v (.slice none 0 0)))))⟩ .done)) (.seq (.seq (.tree (.seq ⟨some 7, none, (.ofA (.faddr 4 (.tmp 2)))⟩ (.seq ⟨some 8, none, (.ofA (.load none (.tmp 7)))⟩ (.seq ⟨some 9, none, (.ofA (.len (.tmp 8)))⟩ (.seq ⟨some 10, none, (.ofA (.faddr 4 (.tmp 3)))⟩ (.seq ⟨some 11, none, (.ofA (.load none (.tmp 10)))⟩ (.seq ⟨some 12, none, (.ofA (.len (.tmp 11)))⟩ (.seq ⟨some 13, none, (.ofA (.mx true (.tmp 9) [(.tmp 12)]))⟩ (.seq ⟨some 14, none, (.ofA (.mv (.cst (.v (.int .i64 0)))))⟩ .done))))))))) (.block 0 (.loop (.seq (.tree (.seq ⟨some 15, none, (.ofA (.bin .lss (.tmp 14) (.tmp 13)))⟩ .done)) (.seq (.cond (.tmp 15) .skip (.exit 0)) (.seq (.block 1 (.seq (.tree (.seq ⟨some 16, none, (.ofA (.mv (.tmp 14)))⟩ (.seq ⟨some 6, none, (.ofA (.mv (.tmp 16)))⟩ .done))) (.seq (.tree (.take ⟨some 17, none, (.ofA (.mv (.tmp 6)))⟩ (.take ⟨some 18, none, (.ofA (.faddr 4 (.tmp 2)))⟩ (.take ⟨some 19, none, (.ofA (.load none (.tmp 18)))⟩ (.take ⟨some 20, none, (.ofA (.len (.tmp 19)))⟩ (.take ⟨some 21, none, (.ofA (.bin .geq (.tmp 17) (.tmp 20)))⟩ (.take ⟨some 22, none, (.ofA (.mv (.tmp 21)))⟩ (.take ⟨some 23, some (22, false), (.ofA (.mv (.tmp 6)))⟩ (.take ⟨some 24, some (22, false), (.ofA (.faddr 4 (.tmp 3)))⟩ (.take ⟨some 25, some (22, false), (.ofA (.load none (.tmp 24)))⟩ (.take ⟨some 26, some (22, false), (.ofA (.len (.tmp 25)))⟩ (.take ⟨some 27, some (22, false), (.ofA (.bin .geq (.tmp 23) (.tmp 26)))⟩ (.take ⟨some 28, none, (.ofA (.pick (.tmp 22) (.cst (.v (.bool true))) (.tmp 27)))⟩ (.take ⟨some 29, none, (.ofA (.mv (.tmp 28)))⟩ (.take ⟨some 30, some (29, false), (.ofA (.faddr 4 (.tmp 2)))⟩ (.take ⟨some 31, some (29, false), (.ofA (.load none (.tmp 30)))⟩ (.take ⟨some 32, some (29, false), (.ofA (.mv (.tmp 6)))⟩ (.take ⟨some 33, some (29, false), (.ofA (.isl 3 (.tmp 31) (.tmp 32)))⟩ (.take ⟨some 34, some (29, false), (.ofA (.load (some 3) (.tmp 33)))⟩ (.take ⟨some 35, some (29, false), (.ofA (.faddr 4 (.tmp 3)))⟩ (.take ⟨some 36, some (29, false), (.ofA (.load none (.tmp 35)))⟩ (.take ⟨some 37, some (29, false), (.ofA (.mv (.tmp 6)))⟩ (.take ⟨some 38, some (29, false), (.ofA (.isl 3 (.tmp 36) (.tmp 37)))⟩ (.take ⟨some 39, some (29, false), (.ofA (.load (some 3) (.tmp 38)))⟩ (.act true [(⟨some 40, some (29, false), (.call (.cst (.fn 62 [])) [(.tmp 34), (.tmp 39)])⟩, (.take ⟨some 41, some (29, false), (.ofA (.un .not (.tmp 40)))⟩ (.take ⟨some 42, none, (.ofA (.pick (.tmp 29) (.cst (.v (.bool true))) (.tmp 41)))⟩ .done)))]))))))))))))))))))))))))) (.cond (.tmp 42) (.tree (.seq ⟨some 43, none, (.ofA (.mv (.tmp 5)))⟩ (.seq ⟨some 44, none, (.ofA (.mv (.tmp 6)))⟩ (.seq ⟨some 45, none, (.buildSl 1 1 [(.v (.int .i64 0))] [(0, 1, (.tmp 44))])⟩ (.seq ⟨some 46, none, (.app 1 8 (.tmp 43) (.tmp 45))⟩ (.seq ⟨some 5, none, (.ofA (.mv (.tmp 46)))⟩ .done)))))) .skip)))) (.tree (.seq ⟨some 47, none, (.ofA (.bin .add (.tmp 14) (.cst (.v (.int .i64 1)))))⟩ (.seq ⟨some 14, none, (.ofA (.mv (.tmp 47)))⟩ .done))))))))) (.seq (.tree (.seq ⟨some 48, none, (.ofA (.mv (.tmp 5)))⟩ (.seq ⟨some 4, none, (.ofA (.mv (.tmp 48)))⟩ .done))) .ret))))
def r18 : List XR := [.tmp 4]
theorem fn18 : FnX Try.prog 18 EFF 49 x18 r18 := ⟨_, Try.func18, by kernel_rfl, by kernel_rfl, by kernel_rfl, by kernel_rfl⟩
-- almshouse/almshouselaw43.small (0 parameters)
def x43 : XC := (.seq (.tree (.seq ⟨some 0, none, (.alloc [(.v (.int .i64 0)), (.v (.int .i64 0)), (.v (.int .i64 0)), (.v (.int .i64 0)), (.v (.slice none 0 0))])⟩ .done)) (.seq (.tree (.seq ⟨some 1, none, (.build [(.v (.int .i64 0)), (.v (.int .i64 0)), (.v (.int .i64 0)), (.v (.int .i64 0))] [(0, 1, (.cst (.v (.int .i64 1)))), (1, 1, (.cst (.v (.int .i64 1)))), (2, 1, (.cst (.v (.int .i64 3)))), (3, 1, (.cst (.v (.int .i64 2))))])⟩ (.seq ⟨some 2, none, (.build [(.v (.bool false)), (.v (.int .i64 0)), (.v (.slice none 0 0))] [])⟩ (.seq ⟨some 3, none, (.build [(.v (.bool false)), (.v (.string ⟨#[]⟩)), (.v (.string ⟨#[]⟩))] [(1, 1, (.cst (.v (.string ⟨#[116]⟩)))), (2, 1, (.cst (.v (.string ⟨#[120]⟩))))])⟩ (.seq ⟨some 4, none, (.build [(.v (.bool false)), (.v (.string ⟨#[]⟩)), (.v (.string ⟨#[]⟩))] [(0, 1, (.cst (.v (.bool true))))])⟩ (.seq ⟨some 5, none, (.buildSl 3 2 [(.v (.bool false)), (.v (.string ⟨#[]⟩)), (.v (.string ⟨#[]⟩)), (.v (.bool false)), (.v (.string ⟨#[]⟩)), (.v (.string ⟨#[]⟩))] [(0, 3, (.tmp 3)), (3, 3, (.tmp 4))])⟩ (.seq ⟨some 6, none, (.build [(.v (.bool false)), (.v (.int .i64 0)), (.v (.slice none 0 0))] [(1, 1, (.cst (.v (.int .i64 3)))), (2, 1, (.tmp 5))])⟩ (.seq ⟨some 7, none, (.build [(.v (.bool false)), (.v (.int .i64 0)), (.v (.slice none 0 0))] [(0, 1, (.cst (.v (.bool true))))])⟩ (.seq ⟨some 8, none, (.buildSl 3 3 [(.v (.bool false)), (.v (.int .i64 0)), (.v (.slice none 0 0)), (.v (.bool false)), (.v (.int .i64 0)), (.v (.slice none 0 0)), (.v (.bool false)), (.v (.int .i64 0)), (.v (.slice none 0 0))] [(0, 3, (.tmp 2)), (3, 3, (.tmp 6)), (6, 3, (.tmp 7))])⟩ (.seq ⟨some 9, none, (.build [(.v (.int .i64 0)), (.v (.int .i64 0)), (.v (.int .i64 0)), (.v (.int .i64 0)), (.v (.slice none 0 0))] [(0, 4, (.tmp 1)), (4, 1, (.tmp 8))])⟩ (.seq ⟨none, none, (.store 5 (.tmp 0) (.tmp 9))⟩ .done))))))))))) .ret))
def r43 : List XR := [.cell 0 (some 5)]
theorem fn43 : FnX Try.prog 43 EFF 10 x43 r43 := ⟨_, Try.func43, by kernel_rfl, by kernel_rfl, by kernel_rfl, by kernel_rfl⟩
-- almshouse/image.Take (1 parameters)
def x44 : XC := (.seq (.tree (.seq ⟨some 2, none, (.alloc [(.v (.int .i64 0)), (.v (.int .i64 0)), (.v (.int .i64 0)), (.v (.int .i64 0)), (.v (.slice none 0 0))])⟩ .done)) (.seq (.tree (.seq ⟨some 10, none, (.ofA (.mv (.tmp 0)))⟩ (.seq ⟨some 11, none, (.call (.cst (.fn 80 [])) [(.tmp 10)])⟩ (.seq ⟨some 12, none, (.build [(.v (.int .i64 0)), (.v (.int .i64 0)), (.v (.int .i64 0)), (.v (.int .i64 0)), (.v (.slice none 0 0))] [(0, 4, (.tmp 11))])⟩ (.seq ⟨some 3, none, (.alloc [(.v (.int .i64 0)), (.v (.int .i64 0)), (.v (.int .i64 0)), (.v (.int .i64 0)), (.v (.slice none 0 0))])⟩ (.seq ⟨none, none, (.store 5 (.tmp 3) (.tmp 12))⟩ .done)))))) (.seq (.seq (.tree (.seq ⟨some 13, none, (.ofA (.mv (.tmp 0)))⟩ (.seq ⟨some 14, none, (.call (.cst (.fn 81 [])) [(.tmp 13)])⟩ (.seq ⟨some 15, none, (.ofA (.mv (.cst (.v (.int .i64 0)))))⟩ .done)))) (.block 0 (.loop (.seq (.tree (.seq ⟨some 16, none, (.ofA (.bin .lss (.tmp 15) (.tmp 14)))⟩ .done)) (.seq (.cond (.tmp 16) .skip (.exit 0)) (.seq (.block 1 (.seq (.tree (.seq ⟨some 17, none, (.ofA (.mv (.tmp 15)))⟩ (.seq ⟨some 4, none, (.ofA (.mv (.tmp 17)))⟩ .done))) (.seq (.tree (.seq ⟨some 18, none, (.ofA (.mv (.tmp 0)))⟩ (.seq ⟨some 19, none, (.ofA (.mv (.tmp 4)))⟩ (.seq ⟨some 20, none, (.call (.cst (.fn 82 [])) [(.tmp 18), (.tmp 19)])⟩ (.seq ⟨some 21, none, (.ofA (.mv (.tmp 0)))⟩ (.seq ⟨some 22, none, (.ofA (.mv (.tmp 4)))⟩ (.seq ⟨some 23, none, (.call (.cst (.fn 83 [])) [(.tmp 21), (.tmp 22)])⟩ (.seq ⟨some 24, none, (.ofA (.mx false (.tmp 23) [(.cst (.v (.int .i64 2147483647)))]))⟩ (.seq ⟨some 25, none, (.build [(.v (.bool false)), (.v (.int .i64 0)), (.v (.slice none 0 0))] [(0, 1, (.tmp 20)), (1, 1, (.tmp 24))])⟩ (.seq ⟨some 5, none, (.alloc [(.v (.bool false)), (.v (.int .i64 0)), (.v (.slice none 0 0))])⟩ (.seq ⟨none, none, (.store 3 (.tmp 5) (.tmp 25))⟩ .done))))))))))) (.seq (.seq (.tree (.seq ⟨some 26, none, (.ofA (.mv (.tmp 0)))⟩ (.seq ⟨some 27, none, (.ofA (.mv (.tmp 4)))⟩ (.seq ⟨some 28, none, (.call (.cst (.fn 84 [])) [(.tmp 26), (.tmp 27)])⟩ (.seq ⟨some 29, none, (.ofA (.mv (.cst (.v (.int .i64 0)))))⟩ .done))))) (.block 2 (.loop (.seq (.tree (.seq ⟨some 30, none, (.ofA (.bin .lss (.tmp 29) (.tmp 28)))⟩ .done)) (.seq (.cond (.tmp 30) .skip (.exit 2)) (.seq (.block 3 (.seq (.tree (.seq ⟨some 31, none, (.ofA (.mv (.tmp 29)))⟩ (.seq ⟨some 6, none, (.ofA (.mv (.tmp 31)))⟩ .done))) (.seq (.tree (.seq ⟨some 33, none, (.ofA (.mv (.tmp 0)))⟩ (.seq ⟨some 34, none, (.ofA (.mv (.tmp 4)))⟩ (.seq ⟨some 35, none, (.ofA (.mv (.tmp 6)))⟩ (.seq ⟨some 36, none, (.call (.cst (.fn 85 [])) [(.tmp 33), (.tmp 34), (.tmp 35)])⟩ (.seq ⟨some 32, none, (.ofA (.mv (.tmp 36)))⟩ (.seq ⟨some 37, none, (.ofA (.extract 0 (.tmp 32)))⟩ (.seq ⟨some 38, none, (.ofA (.extract 1 (.tmp 32)))⟩ (.seq ⟨some 39, none, (.ofA (.extract 2 (.tmp 32)))⟩ (.seq ⟨some 7, none, (.ofA (.mv (.tmp 37)))⟩ (.seq ⟨some 8, none, (.ofA (.mv (.tmp 38)))⟩ (.seq ⟨some 9, none, (.ofA (.mv (.tmp 39)))⟩ .done)))))))))))) (.tree (.seq ⟨some 40, none, (.ofA (.faddr 2 (.tmp 5)))⟩ (.seq ⟨some 41, none, (.ofA (.load none (.tmp 40)))⟩ (.seq ⟨some 42, none, (.ofA (.mv (.tmp 9)))⟩ (.seq ⟨some 43, none, (.ofA (.bin .neq (.tmp 42) (.cst (.v (.int .i64 0)))))⟩ (.seq ⟨some 44, none, (.ofA (.mv (.tmp 7)))⟩ (.seq ⟨some 45, none, (.ofA (.b2s (.tmp 44)))⟩ (.seq ⟨some 46, none, (.ofA (.mv (.tmp 8)))⟩ (.seq ⟨some 47, none, (.build [(.v (.bool false)), (.v (.string ⟨#[]⟩)), (.v (.string ⟨#[]⟩))] [(0, 1, (.tmp 43)), (1, 1, (.tmp 45)), (2, 1, (.tmp 46))])⟩ (.seq ⟨some 48, none, (.buildSl 3 1 [(.v (.bool false)), (.v (.string ⟨#[]⟩)), (.v (.string ⟨#[]⟩))] [(0, 3, (.tmp 47))])⟩ (.seq ⟨some 49, none, (.app 3 40 (.tmp 41) (.tmp 48))⟩ (.seq ⟨some 50, none, (.ofA (.faddr 2 (.tmp 5)))⟩ (.seq ⟨none, none, (.store 1 (.tmp 50) (.tmp 49))⟩ .done)))))))))))))))) (.tree (.seq ⟨some 51, none, (.ofA (.bin .add (.tmp 29) (.cst (.v (.int .i64 1)))))⟩ (.seq ⟨some 29, none, (.ofA (.mv (.tmp 51)))⟩ .done))))))))) (.tree (.seq ⟨some 52, none, (.ofA (.faddr 4 (.tmp 3)))⟩ (.seq ⟨some 53, none, (.ofA (.load none (.tmp 52)))⟩ (.seq ⟨some 54, none, (.ofA (.load (some 3) (.tmp 5)))⟩ (.seq ⟨some 55, none, (.buildSl 3 1 [(.v (.bool false)), (.v (.int .i64 0)), (.v (.slice none 0 0))] [(0, 3, (.tmp 54))])⟩ (.seq ⟨some 56, none, (.app 3 40 (.tmp 53) (.tmp 55))⟩ (.seq ⟨some 57, none, (.ofA (.faddr 4 (.tmp 3)))⟩ (.seq ⟨none, none, (.store 1 (.tmp 57) (.tmp 56))⟩ .done)))))))))))) (.tree (.seq ⟨some 58, none, (.ofA (.bin .add (.tmp 15) (.cst (.v (.int .i64 1)))))⟩ (.seq ⟨some 15, none, (.ofA (.mv (.tmp 58)))⟩ .done))))))))) (.seq (.tree (.seq ⟨some 59, none, (.ofA (.load (some 5) (.tmp 3)))⟩ (.seq ⟨none, none, (.store 5 (.tmp 2) (.tmp 59))⟩ .done))) .ret))))
def r44 : List XR := [.cell 2 (some 5)]
theorem fn44 : FnX Try.prog 44 EFF 60 x44 r44 := ⟨_, Try.func44, by kernel_rfl, by kernel_rfl, by kernel_rfl, by kernel_rfl⟩
-- (almshouse/image.Picture).may (1 parameters)
def x45 : XC := (fun (u0 : XT) =>
 (.seq (.tree (.seq ⟨some 1, none, (.box (.tmp 0))⟩ u0)) (.seq (.seq (.tree (.take ⟨some 5, none, (.ofA (.faddr 0 (.tmp 1)))⟩ (.take ⟨some 6, none, (.ofA (.load (some 4) (.tmp 5)))⟩ (.act true [(⟨some 7, none, (.call (.cst (.fn 53 [])) [(.tmp 6)])⟩, (.take ⟨some 8, none, (.ofA (.bin .neq (.tmp 7) (.cst (.v (.int .i64 0)))))⟩ (.take ⟨some 9, none, (.ofA (.mv (.tmp 8)))⟩ (.take ⟨some 10, some (9, false), (.ofA (.faddr 4 (.tmp 1)))⟩ (.take ⟨some 11, some (9, false), (.ofA (.load none (.tmp 10)))⟩ (.take ⟨some 12, some (9, false), (.ofA (.len (.tmp 11)))⟩ (.take ⟨some 13, some (9, false), (.ofA (.faddr 0 (.tmp 1)))⟩ (.take ⟨some 14, some (9, false), (.ofA (.load (some 4) (.tmp 13)))⟩ (.act true [(⟨some 15, some (9, false), (.call (.cst (.fn 55 [])) [(.tmp 14)])⟩, (.take ⟨some 16, some (9, false), (.ofA (.bin .neq (.tmp 12) (.tmp 15)))⟩ (.take ⟨some 17, none, (.ofA (.pick (.tmp 9) (.cst (.v (.bool true))) (.tmp 16)))⟩ .done)))])))))))))])))) (.cond (.tmp 17) (.seq (.tree u0) .ret) .skip)) (.seq (.seq (.tree (.seq ⟨some 18, none, (.ofA (.faddr 4 (.tmp 1)))⟩ (.seq ⟨some 19, none, (.ofA (.load none (.tmp 18)))⟩ (.seq ⟨some 20, none, (.ofA (.len (.tmp 19)))⟩ (.seq ⟨some 21, none, (.ofA (.mv (.cst (.v (.int .i64 0)))))⟩ .done))))) (.block 0 (.loop (.seq (.tree (.seq ⟨some 22, none, (.ofA (.bin .lss (.tmp 21) (.tmp 20)))⟩ .done)) (.seq (.cond (.tmp 22) .skip (.exit 0)) (.seq (.block 1 (.seq (.tree (.seq ⟨some 23, none, (.ofA (.mv (.tmp 21)))⟩ (.seq ⟨some 24, none, (.ofA (.isl 3 (.tmp 19) (.tmp 21)))⟩ (.seq ⟨some 25, none, (.ofA (.load (some 3) (.tmp 24)))⟩ (.seq ⟨some 4, none, (.alloc [(.v (.bool false)), (.v (.int .i64 0)), (.v (.slice none 0 0))])⟩ (.seq ⟨some 3, none, (.ofA (.mv (.tmp 23)))⟩ (.seq ⟨none, none, (.store 3 (.tmp 4) (.tmp 25))⟩ .done))))))) (.seq (.block 2 (.seq (.seq (.tree (.seq ⟨some 27, none, (.ofA (.faddr 0 (.tmp 4)))⟩ (.seq ⟨some 28, none, (.ofA (.load none (.tmp 27)))⟩ (.seq ⟨some 29, none, (.ofA (.mv (.tmp 28)))⟩ (.seq ⟨some 30, some (29, true), (.ofA (.mv (.tmp 3)))⟩ (.seq ⟨some 31, some (29, true), (.ofA (.bin .lss (.tmp 30) (.cst (.v (.int .i64 2)))))⟩ (.seq ⟨some 32, none, (.ofA (.pick (.tmp 29) (.tmp 31) (.cst (.v (.bool false)))))⟩ (.seq ⟨some 26, none, (.ofA (.mv (.tmp 32)))⟩ .done)))))))) (.cond (.tmp 26) .skip (.seq (.tree (.seq ⟨some 33, none, (.ofA (.faddr 1 (.tmp 4)))⟩ (.seq ⟨some 34, none, (.ofA (.load none (.tmp 33)))⟩ (.seq ⟨some 35, none, (.ofA (.bin .lss (.tmp 34) (.cst (.v (.int .i64 0)))))⟩ (.seq ⟨some 26, none, (.ofA (.mv (.tmp 35)))⟩ .done))))) (.cond (.tmp 26) .skip (.seq (.tree (.seq ⟨some 36, none, (.ofA (.faddr 1 (.tmp 4)))⟩ (.seq ⟨some 37, none, (.ofA (.load none (.tmp 36)))⟩ (.seq ⟨some 38, none, (.ofA (.bin .gtr (.tmp 37) (.cst (.v (.int .i64 2147483647)))))⟩ (.seq ⟨some 26, none, (.ofA (.mv (.tmp 38)))⟩ .done))))) (.cond (.tmp 26) .skip (.tree (.seq ⟨some 39, none, (.ofA (.faddr 2 (.tmp 4)))⟩ (.seq ⟨some 40, none, (.ofA (.load none (.tmp 39)))⟩ (.seq ⟨some 41, none, (.ofA (.len (.tmp 40)))⟩ (.seq ⟨some 42, none, (.ofA (.faddr 0 (.tmp 1)))⟩ (.seq ⟨some 43, none, (.ofA (.faddr 3 (.tmp 42)))⟩ (.seq ⟨some 44, none, (.ofA (.load none (.tmp 43)))⟩ (.seq ⟨some 45, none, (.ofA (.bin .gtr (.tmp 41) (.tmp 44)))⟩ (.seq ⟨some 26, none, (.ofA (.mv (.tmp 45)))⟩ .done))))))))))))))) (.cond (.tmp 26) (.seq (.tree u0) .ret) .skip))) (.seq (.tree (.seq ⟨some 46, none, (.ofA (.faddr 2 (.tmp 4)))⟩ (.seq ⟨some 47, none, (.ofA (.load none (.tmp 46)))⟩ (.seq ⟨some 48, none, (.call (.cst (.fn 86 [])) [(.tmp 47), (.cst (.fn 87 []))])⟩ .done)))) (.cond (.tmp 48) (.seq (.tree u0) .ret) .skip))))) (.tree (.seq ⟨some 49, none, (.ofA (.bin .add (.tmp 21) (.cst (.v (.int .i64 1)))))⟩ (.seq ⟨some 21, none, (.ofA (.mv (.tmp 49)))⟩ .done))))))))) (.seq (.tree (.seq ⟨some 2, none, (.ofA (.mv (.cst (.v (.bool true)))))⟩ .done)) .ret)))))
 (.seq ⟨some 2, none, (.ofA (.mv (.cst (.v (.bool false)))))⟩ .done)
def r45 : List XR := [.tmp 2]
theorem fn45 : FnX Try.prog 45 EFF 50 x45 r45 := ⟨_, Try.func45, by kernel_rfl, by kernel_rfl, by kernel_rfl, by kernel_rfl⟩
-- almshouse/word.Put (3 parameters)
def x46 : XC := (.seq (.tree (.seq ⟨some 6, none, (.ofA (.mv (.cst (.v (.slice none 0 0)))))⟩ .done)) (.seq (.tree (.seq ⟨some 8, none, (.ofA (.mv (.tmp 0)))⟩ (.seq ⟨some 9, none, (.call (.cst (.fn 90 [])) [(.tmp 8)])⟩ (.seq ⟨some 10, none, (.call (.cst (.fn 89 [])) [(.tmp 9)])⟩ (.seq ⟨some 7, none, (.ofA (.mv (.tmp 10)))⟩ .done))))) (.seq (.seq (.tree (.seq ⟨some 11, none, (.ofA (.mv (.tmp 1)))⟩ (.seq ⟨some 12, none, (.ofA (.mv (.tmp 2)))⟩ (.seq ⟨some 13, none, (.call (.cst (.fn 91 [])) [(.tmp 11), (.tmp 12)])⟩ (.seq ⟨some 14, none, (.ofA (.un .not (.tmp 13)))⟩ .done))))) (.cond (.tmp 14) (.seq (.tree (.seq ⟨some 15, none, (.ofA (.mv (.tmp 7)))⟩ (.seq ⟨some 6, none, (.ofA (.mv (.tmp 15)))⟩ .done))) .ret) .skip)) (.seq (.seq (.tree (.seq ⟨some 16, none, (.ofA (.mv (.tmp 2)))⟩ (.seq ⟨some 17, none, (.ofA (.mv (.cst (.v (.int .i64 0)))))⟩ .done))) (.block 0 (.loop (.seq (.tree (.seq ⟨some 18, none, (.ofA (.bin .lss (.tmp 17) (.tmp 16)))⟩ .done)) (.seq (.cond (.tmp 18) .skip (.exit 0)) (.seq (.block 1 (.seq (.tree (.seq ⟨some 19, none, (.ofA (.mv (.tmp 7)))⟩ (.seq ⟨some 20, none, (.ofA (.mv (.tmp 1)))⟩ (.seq ⟨some 21, none, (.ofA (.conv .u8 (.tmp 20)))⟩ (.seq ⟨some 22, none, (.buildSl 1 1 [(.v (.int .u8 0))] [(0, 1, (.tmp 21))])⟩ (.seq ⟨some 23, none, (.app 1 1 (.tmp 19) (.tmp 22))⟩ (.seq ⟨some 7, none, (.ofA (.mv (.tmp 23)))⟩ .done))))))) (.tree (.seq ⟨some 24, none, (.ofA (.mv (.tmp 1)))⟩ (.seq ⟨some 25, none, (.ofA (.bin .shr (.tmp 24) (.cst (.v (.int .u64 8)))))⟩ (.seq ⟨some 1, none, (.ofA (.mv (.tmp 25)))⟩ .done)))))) (.tree (.seq ⟨some 26, none, (.ofA (.bin .add (.tmp 17) (.cst (.v (.int .i64 1)))))⟩ (.seq ⟨some 17, none, (.ofA (.mv (.tmp 26)))⟩ .done))))))))) (.seq (.tree (.seq ⟨some 27, none, (.ofA (.mv (.tmp 7)))⟩ (.seq ⟨some 6, none, (.ofA (.mv (.tmp 27)))⟩ .done))) .ret)))))
def r46 : List XR := [.tmp 6]
theorem fn46 : FnX Try.prog 46 EFF 28 x46 r46 := ⟨_, Try.func46, by kernel_rfl, by kernel_rfl, by kernel_rfl, by kernel_rfl⟩
-- (*almshouse/image.writer).frame (3 parameters)
def x47 : XC := (.seq (.tree (.seq ⟨some 9, none, (.ofA (.mv (.tmp 1)))⟩ (.seq ⟨some 10, none, (.ofA (.mv (.tmp 2)))⟩ (.seq ⟨some 11, none, (.call (.cst (.fn 92 [])) [(.tmp 9), (.tmp 10)])⟩ (.seq ⟨some 8, none, (.ofA (.mv (.tmp 11)))⟩ (.seq ⟨some 12, none, (.ofA (.extract 0 (.tmp 8)))⟩ (.seq ⟨some 13, none, (.ofA (.extract 1 (.tmp 8)))⟩ (.seq ⟨some 6, none, (.ofA (.mv (.tmp 12)))⟩ (.seq ⟨some 7, none, (.ofA (.mv (.tmp 13)))⟩ .done))))))))) (.seq (.tree (.seq ⟨some 14, none, (.ofA (.mv (.tmp 0)))⟩ (.seq ⟨some 15, none, (.ofA (.nilc (.tmp 14)))⟩ (.seq ⟨some 16, none, (.ofA (.faddr 1 (.tmp 15)))⟩ (.seq ⟨some 17, none, (.ofA (.load none (.tmp 16)))⟩ (.seq ⟨some 18, none, (.ofA (.bin .eql (.tmp 17) (.cst (.v (.int .i64 0)))))⟩ .done)))))) (.cond (.tmp 18) (.tree (.seq ⟨some 19, none, (.ofA (.mv (.tmp 0)))⟩ (.seq ⟨some 20, none, (.ofA (.mv (.tmp 0)))⟩ (.seq ⟨some 21, none, (.ofA (.mv (.tmp 0)))⟩ (.seq ⟨some 22, none, (.ofA (.nilc (.tmp 21)))⟩ (.seq ⟨some 23, none, (.ofA (.faddr 0 (.tmp 22)))⟩ (.seq ⟨some 24, none, (.ofA (.load none (.tmp 23)))⟩ (.seq ⟨some 25, none, (.ofA (.mv (.tmp 6)))⟩ (.seq ⟨some 26, none, (.app 1 1 (.tmp 24) (.tmp 25))⟩ (.seq ⟨some 27, none, (.ofA (.mv (.tmp 7)))⟩ (.seq ⟨some 28, none, (.ofA (.nilc (.tmp 19)))⟩ (.seq ⟨some 29, none, (.ofA (.faddr 0 (.tmp 28)))⟩ (.seq ⟨none, none, (.store 1 (.tmp 29) (.tmp 26))⟩ (.seq ⟨some 30, none, (.ofA (.nilc (.tmp 20)))⟩ (.seq ⟨some 31, none, (.ofA (.faddr 1 (.tmp 30)))⟩ (.seq ⟨none, none, (.store 1 (.tmp 31) (.tmp 27))⟩ .done)))))))))))))))) .skip)))
def r47 : List XR := []
theorem fn47 : FnX Try.prog 47 EFF 32 x47 r47 := ⟨_, Try.func47, by kernel_rfl, by kernel_rfl, by kernel_rfl, by kernel_rfl⟩
-- almshouse/image.flag (1 parameters)
def x48 : XC := (fun (u0 : XT) =>
 (.seq (.tree u0) (.seq (.seq (.tree (.seq ⟨some 3, none, (.ofA (.mv (.tmp 0)))⟩ .done)) (.cond (.tmp 3) (.seq (.tree (.seq ⟨some 2, none, (.ofA (.mv (.cst (.v (.int .i64 1)))))⟩ .done)) .ret) .skip)) (.seq (.tree u0) .ret))))
 (.seq ⟨some 2, none, (.ofA (.mv (.cst (.v (.int .i64 0)))))⟩ .done)
def r48 : List XR := [.tmp 2]
theorem fn48 : FnX Try.prog 48 EFF 4 x48 r48 := ⟨_, Try.func48, by kernel_rfl, by kernel_rfl, by kernel_rfl, by kernel_rfl⟩
-- almshouse/word.Text (2 parameters)
def x49 : XC := (.seq (.tree (.seq ⟨some 4, none, (.ofA (.mv (.cst (.v (.slice none 0 0)))))⟩ .done)) (.seq (.seq (.tree (.seq ⟨some 5, none, (.ofA (.mv (.tmp 1)))⟩ (.seq ⟨some 6, none, (.ofA (.lens (.tmp 5)))⟩ (.seq ⟨some 7, none, (.ofA (.bin .gtr (.tmp 6) (.cst (.v (.int .i64 65535)))))⟩ .done)))) (.cond (.tmp 7) (.seq (.tree (.seq ⟨some 8, none, (.ofA (.mv (.tmp 0)))⟩ (.seq ⟨some 9, none, (.call (.cst (.fn 90 [])) [(.tmp 8)])⟩ (.seq ⟨some 4, none, (.ofA (.mv (.tmp 9)))⟩ .done)))) .ret) .skip)) (.seq (.tree (.seq ⟨some 10, none, (.ofA (.mv (.tmp 0)))⟩ (.seq ⟨some 11, none, (.ofA (.mv (.tmp 1)))⟩ (.seq ⟨some 12, none, (.ofA (.lens (.tmp 11)))⟩ (.seq ⟨some 13, none, (.call (.cst (.fn 46 [])) [(.tmp 10), (.tmp 12), (.cst (.v (.int .i64 2)))])⟩ (.seq ⟨some 14, none, (.ofA (.mv (.tmp 1)))⟩ (.seq ⟨some 15, none, (.apps 1 (.tmp 13) (.tmp 14))⟩ (.seq ⟨some 4, none, (.ofA (.mv (.tmp 15)))⟩ .done)))))))) .ret)))
def r49 : List XR := [.tmp 4]
theorem fn49 : FnX Try.prog 49 EFF 16 x49 r49 := ⟨_, Try.func49, by kernel_rfl, by kernel_rfl, by kernel_rfl, by kernel_rfl⟩
-- (*almshouse/image.reader).next (3 parameters)
def x50 : XC := (.seq (.seq (.tree (.seq ⟨some 11, none, (.ofA (.mv (.tmp 0)))⟩ (.seq ⟨some 12, none, (.ofA (.nilc (.tmp 11)))⟩ (.seq ⟨some 13, none, (.ofA (.faddr 1 (.tmp 12)))⟩ (.seq ⟨some 14, none, (.ofA (.load none (.tmp 13)))⟩ (.seq ⟨some 15, none, (.ofA (.bin .neq (.tmp 14) (.cst (.v (.int .i64 0)))))⟩ .done)))))) (.cond (.tmp 15) .ret .skip)) (.seq (.tree (.seq ⟨some 17, none, (.ofA (.mv (.tmp 0)))⟩ (.seq ⟨some 18, none, (.ofA (.nilc (.tmp 17)))⟩ (.seq ⟨some 19, none, (.ofA (.faddr 0 (.tmp 18)))⟩ (.seq ⟨some 20, none, (.ofA (.load none (.tmp 19)))⟩ (.seq ⟨some 21, none, (.call (.cst (.fn 93 [])) [(.tmp 20)])⟩ (.seq ⟨some 16, none, (.ofA (.mv (.tmp 21)))⟩ (.seq ⟨some 22, none, (.ofA (.extract 0 (.tmp 16)))⟩ (.seq ⟨some 23, none, (.ofA (.extract 1 (.tmp 16)))⟩ (.seq ⟨some 24, none, (.ofA (.extract 2 (.tmp 16)))⟩ (.seq ⟨some 25, none, (.ofA (.extract 3 (.tmp 16)))⟩ (.seq ⟨some 6, none, (.ofA (.mv (.tmp 22)))⟩ (.seq ⟨some 7, none, (.ofA (.mv (.tmp 23)))⟩ (.seq ⟨some 8, none, (.ofA (.mv (.tmp 24)))⟩ (.seq ⟨some 9, none, (.ofA (.mv (.tmp 25)))⟩ .done))))))))))))))) (.seq (.seq (.tree (.seq ⟨some 26, none, (.ofA (.mv (.tmp 9)))⟩ (.seq ⟨some 27, none, (.ofA (.bin .neq (.tmp 26) (.cst (.v (.int .i64 0)))))⟩ .done))) (.cond (.tmp 27) (.seq (.tree (.seq ⟨some 28, none, (.ofA (.mv (.tmp 0)))⟩ (.seq ⟨some 29, none, (.ofA (.mv (.tmp 9)))⟩ (.seq ⟨some 30, none, (.call (.cst (.fn 54 [])) [(.tmp 28), (.tmp 29)])⟩ .done)))) .ret) .skip)) (.seq (.tree (.seq ⟨some 31, none, (.ofA (.mv (.tmp 7)))⟩ (.seq ⟨some 32, none, (.call (.cst (.fn 94 [])) [(.tmp 31)])⟩ (.seq ⟨some 10, none, (.ofA (.mv (.tmp 32)))⟩ .done)))) (.seq (.tree (.seq ⟨some 33, none, (.ofA (.mv (.tmp 2)))⟩ (.seq ⟨some 34, none, (.ofA (.mv (.tmp 10)))⟩ (.seq ⟨some 35, none, (.call (.tmp 33) [(.tmp 34)])⟩ .done)))) (.seq (.seq (.tree (.seq ⟨some 36, none, (.ofA (.mv (.tmp 6)))⟩ (.seq ⟨some 37, none, (.ofA (.mv (.tmp 1)))⟩ (.seq ⟨some 38, none, (.ofA (.bin .neq (.tmp 36) (.tmp 37)))⟩ (.seq ⟨some 39, none, (.ofA (.mv (.tmp 38)))⟩ (.seq ⟨some 40, some (39, false), (.ofA (.mv (.tmp 10)))⟩ (.seq ⟨some 41, some (39, false), (.call (.cst (.fn 95 [])) [(.tmp 40)])⟩ (.seq ⟨some 42, some (39, false), (.ofA (.bin .neq (.tmp 41) (.cst (.v (.int .i64 0)))))⟩ (.seq ⟨some 43, none, (.ofA (.pick (.tmp 39) (.cst (.v (.bool true))) (.tmp 42)))⟩ .done))))))))) (.cond (.tmp 43) (.tree (.seq ⟨some 44, none, (.ofA (.mv (.tmp 0)))⟩ (.seq ⟨some 45, none, (.call (.cst (.fn 54 [])) [(.tmp 44), (.cst (.v (.int .i64 2)))])⟩ .done))) .skip)) (.tree (.seq ⟨some 46, none, (.ofA (.mv (.tmp 0)))⟩ (.seq ⟨some 47, none, (.ofA (.mv (.tmp 0)))⟩ (.seq ⟨some 48, none, (.ofA (.nilc (.tmp 47)))⟩ (.seq ⟨some 49, none, (.ofA (.faddr 0 (.tmp 48)))⟩ (.seq ⟨some 50, none, (.ofA (.load none (.tmp 49)))⟩ (.seq ⟨some 51, none, (.ofA (.mv (.tmp 8)))⟩ (.seq ⟨some 52, none, (.ofA (.slc 1 (.tmp 50) (some (.tmp 51)) none))⟩ (.seq ⟨some 53, none, (.ofA (.nilc (.tmp 46)))⟩ (.seq ⟨some 54, none, (.ofA (.faddr 0 (.tmp 53)))⟩ (.seq ⟨none, none, (.store 1 (.tmp 54) (.tmp 52))⟩ .done)))))))))))))))))
def r50 : List XR := []
theorem fn50 : FnX Try.prog 50 EFF 55 x50 r50 := ⟨_, Try.func50, by kernel_rfl, by kernel_rfl, by kernel_rfl, by kernel_rfl⟩
-- almshouse/image.Parse$1 (1 parameters)
def x51 : XC := (.tree (.seq ⟨some 3, none, (.ofA (.mv (.tmp 0)))⟩ (.seq ⟨some 4, none, (.call (.cst (.fn 52 [])) [(.tmp 3), (.cst (.v (.int .i64 1)))])⟩ (.seq ⟨some 5, none, (.ofA (.mv (.tmp 0)))⟩ (.seq ⟨some 6, none, (.call (.cst (.fn 52 [])) [(.tmp 5), (.cst (.v (.int .i64 1)))])⟩ (.seq ⟨some 7, none, (.ofA (.mv (.tmp 0)))⟩ (.seq ⟨some 8, none, (.call (.cst (.fn 52 [])) [(.tmp 7), (.cst (.v (.int .i64 1)))])⟩ (.seq ⟨some 9, none, (.ofA (.mv (.tmp 0)))⟩ (.seq ⟨some 10, none, (.call (.cst (.fn 52 [])) [(.tmp 9), (.cst (.v (.int .i64 1)))])⟩ (.seq ⟨some 11, none, (.build [(.v (.int .i64 0)), (.v (.int .i64 0)), (.v (.int .i64 0)), (.v (.int .i64 0))] [(0, 1, (.tmp 4)), (1, 1, (.tmp 6)), (2, 1, (.tmp 8)), (3, 1, (.tmp 10))])⟩ (.seq ⟨some 12, none, (.ofA (.faddr 0 (.tmp 1)))⟩ (.seq ⟨none, none, (.store 4 (.tmp 12) (.tmp 11))⟩ .done))))))))))))
def r51 : List XR := []
theorem fn51 : FnX Try.prog 51 EFF 13 x51 r51 := ⟨_, Try.func51, by kernel_rfl, by kernel_rfl, by kernel_rfl, by kernel_rfl⟩
-- (*almshouse/word.Reader).Number (2 parameters)
def x52 : XC := (fun (u0 : XT) =>
 (.seq (.tree u0) (.seq (.seq (.tree (.seq ⟨some 8, none, (.ofA (.mv (.tmp 0)))⟩ (.seq ⟨some 9, none, (.ofA (.eqn false 1 (.tmp 8) (.cst (.v (.pointer none)))))⟩ (.seq ⟨some 10, none, (.ofA (.mv (.tmp 9)))⟩ (.seq ⟨some 11, some (10, false), (.ofA (.mv (.tmp 1)))⟩ (.seq ⟨some 12, some (10, false), (.call (.cst (.fn 96 [])) [(.tmp 11)])⟩ (.seq ⟨some 13, some (10, false), (.ofA (.un .not (.tmp 12)))⟩ (.seq ⟨some 14, some (10, false), (.ofA (.mv (.tmp 13)))⟩ (.seq ⟨some 15, some (14, true), (.ofA (.mv (.tmp 0)))⟩ (.seq ⟨some 16, some (14, true), (.call (.cst (.fn 97 [])) [(.tmp 15), (.cst (.v (.int .i64 1)))])⟩ (.seq ⟨some 17, some (10, false), (.ofA (.pick (.tmp 14) (.tmp 16) (.cst (.v (.bool false)))))⟩ (.seq ⟨some 18, none, (.ofA (.pick (.tmp 10) (.cst (.v (.bool true))) (.tmp 17)))⟩ .done)))))))))))) (.cond (.tmp 18) (.seq (.tree u0) .ret) .skip)) (.seq (.tree (.seq ⟨some 5, none, (.ofA (.mv (.cst (.v (.int .i64 0)))))⟩ .done)) (.seq (.seq (.tree (.seq ⟨some 19, none, (.ofA (.mv (.tmp 0)))⟩ (.seq ⟨some 20, none, (.ofA (.mv (.tmp 1)))⟩ (.seq ⟨some 21, none, (.call (.cst (.fn 98 [])) [(.tmp 19), (.tmp 20)])⟩ (.seq ⟨some 22, none, (.ofA (.len (.tmp 21)))⟩ (.seq ⟨some 23, none, (.ofA (.mv (.cst (.v (.int .i64 0)))))⟩ .done)))))) (.block 0 (.loop (.seq (.tree (.seq ⟨some 24, none, (.ofA (.bin .lss (.tmp 23) (.tmp 22)))⟩ .done)) (.seq (.cond (.tmp 24) .skip (.exit 0)) (.seq (.block 1 (.seq (.tree (.seq ⟨some 25, none, (.ofA (.mv (.tmp 23)))⟩ (.seq ⟨some 26, none, (.ofA (.isl 1 (.tmp 21) (.tmp 23)))⟩ (.seq ⟨some 27, none, (.ofA (.load none (.tmp 26)))⟩ (.seq ⟨some 6, none, (.ofA (.mv (.tmp 25)))⟩ (.seq ⟨some 7, none, (.ofA (.mv (.tmp 27)))⟩ .done)))))) (.tree (.seq ⟨some 28, none, (.ofA (.mv (.tmp 5)))⟩ (.seq ⟨some 29, none, (.ofA (.mv (.tmp 7)))⟩ (.seq ⟨some 30, none, (.ofA (.conv .i64 (.tmp 29)))⟩ (.seq ⟨some 31, none, (.ofA (.mv (.tmp 6)))⟩ (.seq ⟨some 32, none, (.ofA (.bin .mul (.cst (.v (.int .i64 8))) (.tmp 31)))⟩ (.seq ⟨some 33, none, (.ofA (.conv .u64 (.tmp 32)))⟩ (.seq ⟨some 34, none, (.ofA (.bin .shl (.tmp 30) (.tmp 33)))⟩ (.seq ⟨some 35, none, (.ofA (.bin .or (.tmp 28) (.tmp 34)))⟩ (.seq ⟨some 5, none, (.ofA (.mv (.tmp 35)))⟩ .done)))))))))))) (.tree (.seq ⟨some 36, none, (.ofA (.bin .add (.tmp 23) (.cst (.v (.int .i64 1)))))⟩ (.seq ⟨some 23, none, (.ofA (.mv (.tmp 36)))⟩ .done))))))))) (.seq (.tree (.seq ⟨some 37, none, (.ofA (.mv (.tmp 5)))⟩ (.seq ⟨some 4, none, (.ofA (.mv (.tmp 37)))⟩ .done))) .ret))))))
 (.seq ⟨some 4, none, (.ofA (.mv (.cst (.v (.int .i64 0)))))⟩ .done)
def r52 : List XR := [.tmp 4]
theorem fn52 : FnX Try.prog 52 EFF 38 x52 r52 := ⟨_, Try.func52, by kernel_rfl, by kernel_rfl, by kernel_rfl, by kernel_rfl⟩
-- almshouse/geom.Check (1 parameters)
def x53 : XC := (fun (u0 : XT) =>
 (fun (u1 : XT) =>
 (fun (u2 : XT) =>
 (.seq (.tree (.seq ⟨some 1, none, (.box (.tmp 0))⟩ u0)) (.seq (.tree (.seq ⟨some 6, none, (.ofA (.faddr 0 (.tmp 1)))⟩ (.seq ⟨some 7, none, (.ofA (.load none (.tmp 6)))⟩ (.seq ⟨some 8, none, (.ofA (.faddr 1 (.tmp 1)))⟩ (.seq ⟨some 9, none, (.ofA (.load none (.tmp 8)))⟩ (.seq ⟨some 10, none, (.ofA (.faddr 2 (.tmp 1)))⟩ (.seq ⟨some 11, none, (.ofA (.load none (.tmp 10)))⟩ (.seq ⟨some 12, none, (.ofA (.mx false (.tmp 7) [(.tmp 9), (.tmp 11)]))⟩ (.seq ⟨some 3, none, (.ofA (.mv (.tmp 12)))⟩ .done))))))))) (.seq (.tree (.seq ⟨some 13, none, (.ofA (.faddr 0 (.tmp 1)))⟩ (.seq ⟨some 14, none, (.ofA (.load none (.tmp 13)))⟩ (.seq ⟨some 15, none, (.ofA (.faddr 1 (.tmp 1)))⟩ (.seq ⟨some 16, none, (.ofA (.load none (.tmp 15)))⟩ (.seq ⟨some 17, none, (.ofA (.faddr 2 (.tmp 1)))⟩ (.seq ⟨some 18, none, (.ofA (.load none (.tmp 17)))⟩ (.seq ⟨some 19, none, (.ofA (.mx true (.tmp 14) [(.tmp 16), (.tmp 18)]))⟩ (.seq ⟨some 4, none, (.ofA (.mv (.tmp 19)))⟩ .done))))))))) (.seq (.block 0 (.seq (.tree (.seq ⟨some 21, none, (.ofA (.mv (.tmp 3)))⟩ (.seq ⟨some 22, none, (.ofA (.bin .lss (.tmp 21) (.cst (.v (.int .i64 1)))))⟩ (.seq ⟨some 23, none, (.ofA (.mv (.tmp 22)))⟩ (.seq ⟨some 24, some (23, false), (.ofA (.faddr 3 (.tmp 1)))⟩ (.seq ⟨some 25, some (23, false), (.ofA (.load none (.tmp 24)))⟩ (.seq ⟨some 26, some (23, false), (.ofA (.bin .lss (.tmp 25) (.cst (.v (.int .i64 2)))))⟩ (.seq ⟨some 27, none, (.ofA (.pick (.tmp 23) (.cst (.v (.bool true))) (.tmp 26)))⟩ (.seq ⟨some 20, none, (.ofA (.mv (.tmp 27)))⟩ .done))))))))) (.cond (.tmp 20) (.seq (.tree u1) .ret) (.seq (.tree (.seq ⟨some 29, none, (.ofA (.mv (.tmp 4)))⟩ (.seq ⟨some 30, none, (.ofA (.bin .gtr (.tmp 29) (.cst (.v (.int .i64 64)))))⟩ (.seq ⟨some 31, none, (.ofA (.mv (.tmp 30)))⟩ (.seq ⟨some 32, some (31, false), (.ofA (.faddr 3 (.tmp 1)))⟩ (.seq ⟨some 33, some (31, false), (.ofA (.load none (.tmp 32)))⟩ (.seq ⟨some 34, some (31, false), (.ofA (.bin .gtr (.tmp 33) (.cst (.v (.int .i64 16)))))⟩ (.seq ⟨some 35, none, (.ofA (.pick (.tmp 31) (.cst (.v (.bool true))) (.tmp 34)))⟩ (.seq ⟨some 28, none, (.ofA (.mv (.tmp 35)))⟩ .done))))))))) (.cond (.tmp 28) (.seq (.tree u2) .ret) .skip))))) (.seq (.seq (.tree (.seq ⟨some 36, none, (.ofA (.faddr 0 (.tmp 1)))⟩ (.seq ⟨some 37, none, (.ofA (.load none (.tmp 36)))⟩ (.seq ⟨some 38, none, (.ofA (.faddr 1 (.tmp 1)))⟩ (.seq ⟨some 39, none, (.ofA (.load none (.tmp 38)))⟩ (.seq ⟨some 40, none, (.ofA (.bin .mul (.tmp 37) (.tmp 39)))⟩ (.seq ⟨some 41, none, (.ofA (.faddr 2 (.tmp 1)))⟩ (.seq ⟨some 42, none, (.ofA (.load none (.tmp 41)))⟩ (.seq ⟨some 43, none, (.ofA (.bin .mul (.tmp 40) (.tmp 42)))⟩ (.seq ⟨some 5, none, (.ofA (.mv (.tmp 43)))⟩ .done)))))))))) (.block 1 (.seq (.tree (.seq ⟨some 45, none, (.ofA (.mv (.tmp 5)))⟩ (.seq ⟨some 46, none, (.ofA (.bin .leq (.tmp 45) (.cst (.v (.int .i64 2)))))⟩ (.seq ⟨some 44, none, (.ofA (.mv (.tmp 46)))⟩ .done)))) (.cond (.tmp 44) (.seq (.tree u1) .ret) (.seq (.tree (.seq ⟨some 48, none, (.ofA (.mv (.tmp 5)))⟩ (.seq ⟨some 49, none, (.ofA (.bin .gtr (.tmp 48) (.cst (.v (.int .i64 64)))))⟩ (.seq ⟨some 47, none, (.ofA (.mv (.tmp 49)))⟩ .done)))) (.cond (.tmp 47) (.seq (.tree u2) .ret) .skip)))))) (.seq (.tree u0) .ret)))))))
 (.seq ⟨some 2, none, (.ofA (.mv (.cst (.v (.int .i64 4)))))⟩ .done))
 (.seq ⟨some 2, none, (.ofA (.mv (.cst (.v (.int .i64 1)))))⟩ .done))
 (.seq ⟨some 2, none, (.ofA (.mv (.cst (.v (.int .i64 0)))))⟩ .done)
def r53 : List XR := [.tmp 2]
theorem fn53 : FnX Try.prog 53 EFF 50 x53 r53 := ⟨_, Try.func53, by kernel_rfl, by kernel_rfl, by kernel_rfl, by kernel_rfl⟩
-- (*almshouse/image.reader).fail (2 parameters)
def x54 : XC := (.seq (.tree (.seq ⟨some 4, none, (.ofA (.mv (.tmp 0)))⟩ (.seq ⟨some 5, none, (.ofA (.nilc (.tmp 4)))⟩ (.seq ⟨some 6, none, (.ofA (.faddr 1 (.tmp 5)))⟩ (.seq ⟨some 7, none, (.ofA (.load none (.tmp 6)))⟩ (.seq ⟨some 8, none, (.ofA (.bin .eql (.tmp 7) (.cst (.v (.int .i64 0)))))⟩ .done)))))) (.cond (.tmp 8) (.tree (.seq ⟨some 9, none, (.ofA (.mv (.tmp 0)))⟩ (.seq ⟨some 10, none, (.ofA (.mv (.tmp 1)))⟩ (.seq ⟨some 11, none, (.ofA (.nilc (.tmp 9)))⟩ (.seq ⟨some 12, none, (.ofA (.faddr 1 (.tmp 11)))⟩ (.seq ⟨none, none, (.store 1 (.tmp 12) (.tmp 10))⟩ .done)))))) .skip))
def r54 : List XR := []
theorem fn54 : FnX Try.prog 54 EFF 13 x54 r54 := ⟨_, Try.func54, by kernel_rfl, by kernel_rfl, by kernel_rfl, by kernel_rfl⟩
-- almshouse/geom.Blocks (1 parameters)
def x55 : XC := (fun (u0 : XT) =>
 (.seq (.tree (.seq ⟨some 1, none, (.box (.tmp 0))⟩ u0)) (.seq (.seq (.tree (.seq ⟨some 3, none, (.ofA (.load (some 4) (.tmp 1)))⟩ (.seq ⟨some 4, none, (.call (.cst (.fn 53 [])) [(.tmp 3)])⟩ (.seq ⟨some 5, none, (.ofA (.bin .neq (.tmp 4) (.cst (.v (.int .i64 0)))))⟩ .done)))) (.cond (.tmp 5) (.seq (.tree u0) .ret) .skip)) (.seq (.tree (.seq ⟨some 6, none, (.ofA (.faddr 0 (.tmp 1)))⟩ (.seq ⟨some 7, none, (.ofA (.load none (.tmp 6)))⟩ (.seq ⟨some 8, none, (.ofA (.faddr 1 (.tmp 1)))⟩ (.seq ⟨some 9, none, (.ofA (.load none (.tmp 8)))⟩ (.seq ⟨some 10, none, (.ofA (.bin .mul (.tmp 7) (.tmp 9)))⟩ (.seq ⟨some 11, none, (.ofA (.faddr 2 (.tmp 1)))⟩ (.seq ⟨some 12, none, (.ofA (.load none (.tmp 11)))⟩ (.seq ⟨some 13, none, (.ofA (.bin .mul (.tmp 10) (.tmp 12)))⟩ (.seq ⟨some 2, none, (.ofA (.mv (.tmp 13)))⟩ .done)))))))))) .ret))))
 (.seq ⟨some 2, none, (.ofA (.mv (.cst (.v (.int .i64 0)))))⟩ .done)
def r55 : List XR := [.tmp 2]
theorem fn55 : FnX Try.prog 55 EFF 14 x55 r55 := ⟨_, Try.func55, by kernel_rfl, by kernel_rfl, by kernel_rfl, by kernel_rfl⟩
-- (*almshouse/image.reader).block (1 parameters)
def x56 : XC := (fun (u0 : XT) =>
 (.seq (.tree (.seq ⟨some 2, none, (.alloc [(.v (.bool false)), (.v (.int .i64 0)), (.v (.slice none 0 0))])⟩ .done)) (.seq (.tree (.seq ⟨some 3, none, (.alloc [(.v (.int .i64 0))])⟩ (.seq ⟨none, none, (.store 1 (.tmp 3) (.cst (.v (.int .i64 0))))⟩ .done))) (.seq (.tree (.seq ⟨some 4, none, (.ofA (.mv (.tmp 0)))⟩ (.seq ⟨some 5, none, (.ofA (.mkfn 99 [(.tmp 2), (.tmp 3)]))⟩ (.seq ⟨some 6, none, (.call (.cst (.fn 50 [])) [(.tmp 4), (.cst (.v (.int .i64 66))), (.tmp 5)])⟩ .done)))) (.seq (.seq (.tree (.seq ⟨some 7, none, (.ofA (.load none (.tmp 3)))⟩ (.seq ⟨some 8, none, (.ofA (.mv (.cst (.v (.int .i64 0)))))⟩ .done))) (.block 0 (.loop (.seq (.tree (.seq ⟨some 9, none, (.ofA (.bin .lss (.tmp 8) (.tmp 7)))⟩ .done)) (.seq (.cond (.tmp 9) .skip (.exit 0)) (.seq (.block 1 (.seq (.tree (.seq ⟨some 10, none, (.ofA (.mv (.tmp 0)))⟩ (.seq ⟨some 11, none, (.ofA (.nilc (.tmp 10)))⟩ (.seq ⟨some 12, none, (.ofA (.faddr 1 (.tmp 11)))⟩ (.seq ⟨some 13, none, (.ofA (.load none (.tmp 12)))⟩ (.seq ⟨some 14, none, (.ofA (.bin .eql (.tmp 13) (.cst (.v (.int .i64 0)))))⟩ .done)))))) (.cond (.tmp 14) (.tree (.take ⟨some 15, none, (.ofA (.faddr 2 (.tmp 2)))⟩ (.take ⟨some 17, none, (.ofA (.mv (.tmp 0)))⟩ (.alt [true, false] [(⟨some 16, none, (.ofA (.load none (.tmp 15)))⟩, (.alt [false] [(⟨some 18, none, (.call (.cst (.fn 101 [])) [(.tmp 17)])⟩, u0)])), (⟨some 18, none, (.call (.cst (.fn 101 [])) [(.tmp 17)])⟩, (.take ⟨some 16, none, (.ofA (.load none (.tmp 15)))⟩ u0))])))) .skip))) (.tree (.seq ⟨some 22, none, (.ofA (.bin .add (.tmp 8) (.cst (.v (.int .i64 1)))))⟩ (.seq ⟨some 8, none, (.ofA (.mv (.tmp 22)))⟩ .done))))))))) (.seq (.tree (.seq ⟨some 23, none, (.ofA (.load (some 3) (.tmp 2)))⟩ (.seq ⟨none, none, (.store 3 (.tmp 2) (.tmp 23))⟩ .done))) .ret))))))
 (.alt [true] [(⟨some 19, none, (.buildSl 3 1 [(.v (.bool false)), (.v (.string ⟨#[]⟩)), (.v (.string ⟨#[]⟩))] [(0, 3, (.tmp 18))])⟩, (.alt [false] [(⟨some 20, none, (.app 3 40 (.tmp 16) (.tmp 19))⟩, (.take ⟨some 21, none, (.ofA (.faddr 2 (.tmp 2)))⟩ (.alt [false] [(⟨none, none, (.store 1 (.tmp 21) (.tmp 20))⟩, .done)])))]))])
def r56 : List XR := [.cell 2 (some 3)]
theorem fn56 : FnX Try.prog 56 EFF 24 x56 r56 := ⟨_, Try.func56, by kernel_rfl, by kernel_rfl, by kernel_rfl, by kernel_rfl⟩
-- slices.EqualFunc[[]almshouse/image.Block,[]almshouse/image.Block,almshouse/image.Block,almshouse/image.Block] (3 parameters)
def x61 : XC := (fun (u0 : XT) =>
 (.seq (.tree u0) (.seq (.seq (.tree (.seq ⟨some 10, none, (.ofA (.mv (.tmp 0)))⟩ (.seq ⟨some 11, none, (.ofA (.len (.tmp 10)))⟩ (.seq ⟨some 12, none, (.ofA (.mv (.tmp 1)))⟩ (.seq ⟨some 13, none, (.ofA (.len (.tmp 12)))⟩ (.seq ⟨some 14, none, (.ofA (.bin .neq (.tmp 11) (.tmp 13)))⟩ .done)))))) (.cond (.tmp 14) (.seq (.tree u0) .ret) .skip)) (.seq (.seq (.tree (.seq ⟨some 15, none, (.ofA (.mv (.tmp 0)))⟩ (.seq ⟨some 16, none, (.ofA (.len (.tmp 15)))⟩ (.seq ⟨some 17, none, (.ofA (.mv (.cst (.v (.int .i64 0)))))⟩ .done)))) (.block 0 (.loop (.seq (.tree (.seq ⟨some 18, none, (.ofA (.bin .lss (.tmp 17) (.tmp 16)))⟩ .done)) (.seq (.cond (.tmp 18) .skip (.exit 0)) (.seq (.block 1 (.seq (.tree (.seq ⟨some 19, none, (.ofA (.mv (.tmp 17)))⟩ (.seq ⟨some 20, none, (.ofA (.isl 3 (.tmp 15) (.tmp 17)))⟩ (.seq ⟨some 21, none, (.ofA (.load (some 3) (.tmp 20)))⟩ (.seq ⟨some 8, none, (.alloc [(.v (.bool false)), (.v (.int .i64 0)), (.v (.slice none 0 0))])⟩ (.seq ⟨some 7, none, (.ofA (.mv (.tmp 19)))⟩ (.seq ⟨none, none, (.store 3 (.tmp 8) (.tmp 21))⟩ .done))))))) (.seq (.tree (.seq ⟨some 22, none, (.ofA (.mv (.tmp 1)))⟩ (.seq ⟨some 23, none, (.ofA (.mv (.tmp 7)))⟩ (.seq ⟨some 24, none, (.ofA (.isl 3 (.tmp 22) (.tmp 23)))⟩ (.seq ⟨some 25, none, (.ofA (.load (some 3) (.tmp 24)))⟩ (.seq ⟨some 9, none, (.alloc [(.v (.bool false)), (.v (.int .i64 0)), (.v (.slice none 0 0))])⟩ (.seq ⟨none, none, (.store 3 (.tmp 9) (.tmp 25))⟩ .done))))))) (.seq (.tree (.seq ⟨some 26, none, (.ofA (.mv (.tmp 2)))⟩ (.seq ⟨some 27, none, (.ofA (.load (some 3) (.tmp 8)))⟩ (.seq ⟨some 28, none, (.ofA (.load (some 3) (.tmp 9)))⟩ (.seq ⟨some 29, none, (.call (.tmp 26) [(.tmp 27), (.tmp 28)])⟩ (.seq ⟨some 30, none, (.ofA (.un .not (.tmp 29)))⟩ .done)))))) (.cond (.tmp 30) (.seq (.tree u0) .ret) .skip))))) (.tree (.seq ⟨some 31, none, (.ofA (.bin .add (.tmp 17) (.cst (.v (.int .i64 1)))))⟩ (.seq ⟨some 17, none, (.ofA (.mv (.tmp 31)))⟩ .done))))))))) (.seq (.tree (.seq ⟨some 6, none, (.ofA (.mv (.cst (.v (.bool true)))))⟩ .done)) .ret)))))
 (.seq ⟨some 6, none, (.ofA (.mv (.cst (.v (.bool false)))))⟩ .done)
def r61 : List XR := [.tmp 6]
theorem fn61 : FnX Try.prog 61 EFF 32 x61 r61 := ⟨_, Try.func61, by kernel_rfl, by kernel_rfl, by kernel_rfl, by kernel_rfl⟩
-- almshouse/image.same (2 parameters)
def x62 : XC := (.seq (.tree (.seq ⟨some 2, none, (.box (.tmp 0))⟩ (.seq ⟨some 3, none, (.box (.tmp 1))⟩ (.seq ⟨some 4, none, (.ofA (.mv (.cst (.v (.bool false)))))⟩ .done)))) (.seq (.tree (.seq ⟨some 5, none, (.ofA (.faddr 0 (.tmp 2)))⟩ (.seq ⟨some 6, none, (.ofA (.load none (.tmp 5)))⟩ (.seq ⟨some 7, none, (.ofA (.faddr 0 (.tmp 3)))⟩ (.seq ⟨some 8, none, (.ofA (.load none (.tmp 7)))⟩ (.seq ⟨some 9, none, (.ofA (.eqb false (.tmp 6) (.tmp 8)))⟩ (.seq ⟨some 10, none, (.ofA (.mv (.tmp 9)))⟩ (.seq ⟨some 11, some (10, true), (.ofA (.faddr 1 (.tmp 2)))⟩ (.seq ⟨some 12, some (10, true), (.ofA (.load none (.tmp 11)))⟩ (.seq ⟨some 13, some (10, true), (.ofA (.faddr 1 (.tmp 3)))⟩ (.seq ⟨some 14, some (10, true), (.ofA (.load none (.tmp 13)))⟩ (.seq ⟨some 15, some (10, true), (.ofA (.bin .eql (.tmp 12) (.tmp 14)))⟩ (.seq ⟨some 16, none, (.ofA (.pick (.tmp 10) (.tmp 15) (.cst (.v (.bool false)))))⟩ (.seq ⟨some 17, none, (.ofA (.mv (.tmp 16)))⟩ (.seq ⟨some 18, some (17, true), (.ofA (.faddr 2 (.tmp 2)))⟩ (.seq ⟨some 19, some (17, true), (.ofA (.load none (.tmp 18)))⟩ (.seq ⟨some 20, some (17, true), (.ofA (.faddr 2 (.tmp 3)))⟩ (.seq ⟨some 21, some (17, true), (.ofA (.load none (.tmp 20)))⟩ (.seq ⟨some 22, some (17, true), (.call (.cst (.fn 104 [])) [(.tmp 19), (.tmp 21)])⟩ (.seq ⟨some 23, none, (.ofA (.pick (.tmp 17) (.tmp 22) (.cst (.v (.bool false)))))⟩ (.seq ⟨some 4, none, (.ofA (.mv (.tmp 23)))⟩ .done))))))))))))))))))))) .ret))
def r62 : List XR := [.tmp 4]
theorem fn62 : FnX Try.prog 62 EFF 24 x62 r62 := ⟨_, Try.func62, by kernel_rfl, by kernel_rfl, by kernel_rfl, by kernel_rfl⟩
-- (*almshouse/nand.Nand).Geometry (1 parameters)
def x80 : XC := (.seq (.tree (.seq ⟨some 2, none, (.alloc [(.v (.int .i64 0)), (.v (.int .i64 0)), (.v (.int .i64 0)), (.v (.int .i64 0))])⟩ .done)) (.seq (.seq (.tree (.seq ⟨some 3, none, (.ofA (.mv (.tmp 0)))⟩ (.seq ⟨some 4, none, (.ofA (.eqn false 1 (.tmp 3) (.cst (.v (.pointer none)))))⟩ .done))) (.cond (.tmp 4) (.seq (.tree (.seq ⟨some 5, none, (.build [(.v (.int .i64 0)), (.v (.int .i64 0)), (.v (.int .i64 0)), (.v (.int .i64 0))] [])⟩ (.seq ⟨none, none, (.store 4 (.tmp 2) (.tmp 5))⟩ .done))) .ret) .skip)) (.seq (.tree (.seq ⟨some 6, none, (.ofA (.mv (.tmp 0)))⟩ (.seq ⟨some 7, none, (.ofA (.nilc (.tmp 6)))⟩ (.seq ⟨some 8, none, (.ofA (.faddr 0 (.tmp 7)))⟩ (.seq ⟨some 9, none, (.ofA (.load (some 4) (.tmp 8)))⟩ (.seq ⟨none, none, (.store 4 (.tmp 2) (.tmp 9))⟩ .done)))))) .ret)))
def r80 : List XR := [.cell 2 (some 4)]
theorem fn80 : FnX Try.prog 80 EFF 10 x80 r80 := ⟨_, Try.func80, by kernel_rfl, by kernel_rfl, by kernel_rfl, by kernel_rfl⟩
-- (*almshouse/nand.Nand).Blocks (1 parameters)
def x81 : XC := (fun (u0 : XT) =>
 (.seq (.tree u0) (.seq (.seq (.tree (.seq ⟨some 3, none, (.ofA (.mv (.tmp 0)))⟩ (.seq ⟨some 4, none, (.ofA (.eqn false 1 (.tmp 3) (.cst (.v (.pointer none)))))⟩ .done))) (.cond (.tmp 4) (.seq (.tree u0) .ret) .skip)) (.seq (.tree (.seq ⟨some 5, none, (.ofA (.mv (.tmp 0)))⟩ (.seq ⟨some 6, none, (.ofA (.nilc (.tmp 5)))⟩ (.seq ⟨some 7, none, (.ofA (.faddr 6 (.tmp 6)))⟩ (.seq ⟨some 8, none, (.ofA (.load none (.tmp 7)))⟩ (.seq ⟨some 9, none, (.ofA (.len (.tmp 8)))⟩ (.seq ⟨some 2, none, (.ofA (.mv (.tmp 9)))⟩ .done))))))) .ret))))
 (.seq ⟨some 2, none, (.ofA (.mv (.cst (.v (.int .i64 0)))))⟩ .done)
def r81 : List XR := [.tmp 2]
theorem fn81 : FnX Try.prog 81 EFF 10 x81 r81 := ⟨_, Try.func81, by kernel_rfl, by kernel_rfl, by kernel_rfl, by kernel_rfl⟩
-- slices.ContainsFunc[[]almshouse/image.Page,almshouse/image.Page] (2 parameters)
def x86 : XC := (.seq (.tree (.seq ⟨some 4, none, (.ofA (.mv (.cst (.v (.bool false)))))⟩ .done)) (.seq (.tree (.seq ⟨some 5, none, (.ofA (.mv (.tmp 0)))⟩ (.seq ⟨some 6, none, (.ofA (.mv (.tmp 1)))⟩ (.seq ⟨some 7, none, (.call (.cst (.fn 122 [])) [(.tmp 5), (.tmp 6)])⟩ (.seq ⟨some 8, none, (.ofA (.bin .geq (.tmp 7) (.cst (.v (.int .i64 0)))))⟩ (.seq ⟨some 4, none, (.ofA (.mv (.tmp 8)))⟩ .done)))))) .ret))
def r86 : List XR := [.tmp 4]
theorem fn86 : FnX Try.prog 86 EFF 9 x86 r86 := ⟨_, Try.func86, by kernel_rfl, by kernel_rfl, by kernel_rfl, by kernel_rfl⟩
-- (almshouse/image.Picture).may$1 (1 parameters)
def x87 : XC := (.seq (.tree (.seq ⟨some 1, none, (.box (.tmp 0))⟩ (.seq ⟨some 2, none, (.ofA (.mv (.cst (.v (.bool false)))))⟩ .done))) (.seq (.tree (.seq ⟨some 3, none, (.ofA (.load (some 3) (.tmp 1)))⟩ (.seq ⟨some 4, none, (.call (.cst (.fn 88 [])) [(.tmp 3)])⟩ (.seq ⟨some 5, none, (.ofA (.un .not (.tmp 4)))⟩ (.seq ⟨some 2, none, (.ofA (.mv (.tmp 5)))⟩ .done))))) .ret))
def r87 : List XR := [.tmp 2]
theorem fn87 : FnX Try.prog 87 EFF 6 x87 r87 := ⟨_, Try.func87, by kernel_rfl, by kernel_rfl, by kernel_rfl, by kernel_rfl⟩
-- (almshouse/image.Page).may (1 parameters)
def x88 : XC := (.seq (.tree (.seq ⟨some 1, none, (.box (.tmp 0))⟩ (.seq ⟨some 2, none, (.ofA (.mv (.cst (.v (.bool false)))))⟩ .done))) (.seq (.seq (.tree (.seq ⟨some 3, none, (.ofA (.faddr 0 (.tmp 1)))⟩ (.seq ⟨some 4, none, (.ofA (.load none (.tmp 3)))⟩ .done))) (.cond (.tmp 4) (.seq (.tree (.seq ⟨some 5, none, (.ofA (.load (some 3) (.tmp 1)))⟩ (.seq ⟨some 6, none, (.build [(.v (.bool false)), (.v (.string ⟨#[]⟩)), (.v (.string ⟨#[]⟩))] [(0, 1, (.cst (.v (.bool true))))])⟩ (.seq ⟨some 7, none, (.ofA (.eqs false [.bool, .str, .str] (.tmp 5) (.tmp 6)))⟩ (.seq ⟨some 2, none, (.ofA (.mv (.tmp 7)))⟩ .done))))) .ret) .skip)) (.seq (.tree (.seq ⟨some 8, none, (.ofA (.faddr 1 (.tmp 1)))⟩ (.seq ⟨some 9, none, (.ofA (.load none (.tmp 8)))⟩ (.seq ⟨some 10, none, (.ofA (.lens (.tmp 9)))⟩ (.seq ⟨some 11, none, (.ofA (.bin .leq (.tmp 10) (.cst (.v (.int .i64 32)))))⟩ (.seq ⟨some 12, none, (.ofA (.mv (.tmp 11)))⟩ (.seq ⟨some 13, some (12, true), (.ofA (.faddr 2 (.tmp 1)))⟩ (.seq ⟨some 14, some (12, true), (.ofA (.load none (.tmp 13)))⟩ (.seq ⟨some 15, some (12, true), (.ofA (.lens (.tmp 14)))⟩ (.seq ⟨some 16, some (12, true), (.ofA (.bin .leq (.tmp 15) (.cst (.v (.int .i64 160)))))⟩ (.seq ⟨some 17, none, (.ofA (.pick (.tmp 12) (.tmp 16) (.cst (.v (.bool false)))))⟩ (.seq ⟨some 2, none, (.ofA (.mv (.tmp 17)))⟩ .done)))))))))))) .ret)))
def r88 : List XR := [.tmp 2]
theorem fn88 : FnX Try.prog 88 EFF 18 x88 r88 := ⟨_, Try.func88, by kernel_rfl, by kernel_rfl, by kernel_rfl, by kernel_rfl⟩
-- slices.Clip[[]byte,byte] (1 parameters)
def x89 : XC := (.seq (.tree (.seq ⟨some 2, none, (.ofA (.mv (.cst (.v (.slice none 0 0)))))⟩ .done)) (.seq (.tree (.seq ⟨some 3, none, (.ofA (.mv (.tmp 0)))⟩ (.seq ⟨some 4, none, (.ofA (.mv (.tmp 0)))⟩ (.seq ⟨some 5, none, (.ofA (.len (.tmp 4)))⟩ (.seq ⟨some 6, none, (.ofA (.mv (.tmp 0)))⟩ (.seq ⟨some 7, none, (.ofA (.len (.tmp 6)))⟩ (.seq ⟨some 8, none, (.ofA (.slc3 1 (.tmp 3) none (.tmp 5) (.tmp 7)))⟩ (.seq ⟨some 2, none, (.ofA (.mv (.tmp 8)))⟩ .done)))))))) .ret))
def r89 : List XR := [.tmp 2]
theorem fn89 : FnX Try.prog 89 EFF 9 x89 r89 := ⟨_, Try.func89, by kernel_rfl, by kernel_rfl, by kernel_rfl, by kernel_rfl⟩
-- slices.Clone[[]byte,byte] (1 parameters)
def x90 : XC := (fun (u0 : XT) =>
 (.seq (.tree u0) (.seq (.seq (.tree (.seq ⟨some 3, none, (.ofA (.mv (.tmp 0)))⟩ (.seq ⟨some 4, none, (.ofA (.eqn false 2 (.tmp 3) (.cst (.v (.slice none 0 0)))))⟩ .done))) (.cond (.tmp 4) (.seq (.tree u0) .ret) .skip)) (.seq (.tree (.seq ⟨some 5, none, (.buildSl 1 0 [] [])⟩ (.seq ⟨some 6, none, (.ofA (.mv (.tmp 0)))⟩ (.seq ⟨some 7, none, (.app 1 1 (.tmp 5) (.tmp 6))⟩ (.seq ⟨some 2, none, (.ofA (.mv (.tmp 7)))⟩ .done))))) .ret))))
 (.seq ⟨some 2, none, (.ofA (.mv (.cst (.v (.slice none 0 0)))))⟩ .done)
def r90 : List XR := [.tmp 2]
theorem fn90 : FnX Try.prog 90 EFF 8 x90 r90 := ⟨_, Try.func90, by kernel_rfl, by kernel_rfl, by kernel_rfl, by kernel_rfl⟩
-- almshouse/word.Fits (2 parameters)
def x91 : XC := (.seq (.tree (.seq ⟨some 4, none, (.ofA (.mv (.cst (.v (.bool false)))))⟩ .done)) (.seq (.tree (.seq ⟨some 5, none, (.ofA (.mv (.tmp 1)))⟩ (.seq ⟨some 6, none, (.call (.cst (.fn 96 [])) [(.tmp 5)])⟩ (.seq ⟨some 7, none, (.ofA (.mv (.tmp 6)))⟩ (.seq ⟨some 8, some (7, true), (.ofA (.mv (.tmp 0)))⟩ (.seq ⟨some 9, some (7, true), (.ofA (.mv (.tmp 1)))⟩ (.seq ⟨some 10, some (7, true), (.ofA (.bin .mul (.cst (.v (.int .i64 8))) (.tmp 9)))⟩ (.seq ⟨some 11, some (7, true), (.ofA (.conv .u64 (.tmp 10)))⟩ (.seq ⟨some 12, some (7, true), (.ofA (.bin .shr (.tmp 8) (.tmp 11)))⟩ (.seq ⟨some 13, some (7, true), (.ofA (.bin .eql (.tmp 12) (.cst (.v (.int .i64 0)))))⟩ (.seq ⟨some 14, none, (.ofA (.pick (.tmp 7) (.tmp 13) (.cst (.v (.bool false)))))⟩ (.seq ⟨some 4, none, (.ofA (.mv (.tmp 14)))⟩ .done)))))))))))) .ret))
def r91 : List XR := [.tmp 4]
theorem fn91 : FnX Try.prog 91 EFF 15 x91 r91 := ⟨_, Try.func91, by kernel_rfl, by kernel_rfl, by kernel_rfl, by kernel_rfl⟩
-- almshouse/frame.Make (2 parameters)
def x92 : XC := (fun (u0 : XT) =>
 (.seq (.tree (.seq ⟨some 4, none, (.ofA (.mv (.cst (.v (.slice none 0 0)))))⟩ u0)) (.seq (.block 0 (.seq (.tree (.seq ⟨some 8, none, (.ofA (.mv (.tmp 0)))⟩ (.seq ⟨some 9, none, (.call (.cst (.fn 91 [])) [(.tmp 8), (.cst (.v (.int .i64 1)))])⟩ (.seq ⟨some 10, none, (.ofA (.un .not (.tmp 9)))⟩ (.seq ⟨some 7, none, (.ofA (.mv (.tmp 10)))⟩ .done))))) (.cond (.tmp 7) (.seq (.tree (.seq ⟨some 4, none, (.ofA (.mv (.cst (.v (.slice none 0 0)))))⟩ (.seq ⟨some 5, none, (.ofA (.mv (.cst (.v (.int .i64 1)))))⟩ .done))) .ret) (.seq (.tree (.seq ⟨some 12, none, (.ofA (.mv (.tmp 1)))⟩ (.seq ⟨some 13, none, (.ofA (.len (.tmp 12)))⟩ (.seq ⟨some 14, none, (.ofA (.bin .gtr (.tmp 13) (.cst (.v (.int .i64 65535)))))⟩ (.seq ⟨some 11, none, (.ofA (.mv (.tmp 14)))⟩ .done))))) (.cond (.tmp 11) (.seq (.tree (.seq ⟨some 4, none, (.ofA (.mv (.cst (.v (.slice none 0 0)))))⟩ (.seq ⟨some 5, none, (.ofA (.mv (.cst (.v (.int .i64 3)))))⟩ .done))) .ret) .skip))))) (.seq (.tree (.seq ⟨some 15, none, (.ofA (.mv (.tmp 0)))⟩ (.seq ⟨some 16, none, (.call (.cst (.fn 46 [])) [(.cst (.v (.slice none 0 0))), (.tmp 15), (.cst (.v (.int .i64 1)))])⟩ (.seq ⟨some 17, none, (.ofA (.mv (.tmp 1)))⟩ (.seq ⟨some 18, none, (.ofA (.len (.tmp 17)))⟩ (.seq ⟨some 19, none, (.call (.cst (.fn 46 [])) [(.tmp 16), (.tmp 18), (.cst (.v (.int .i64 2)))])⟩ (.seq ⟨some 20, none, (.ofA (.mv (.tmp 1)))⟩ (.seq ⟨some 21, none, (.app 1 1 (.tmp 19) (.tmp 20))⟩ (.seq ⟨some 6, none, (.ofA (.mv (.tmp 21)))⟩ .done))))))))) (.seq (.tree (.seq ⟨some 22, none, (.ofA (.mv (.tmp 6)))⟩ (.seq ⟨some 23, none, (.ofA (.mv (.tmp 6)))⟩ (.seq ⟨some 24, none, (.call (.cst (.fn 123 [])) [(.tmp 23)])⟩ (.seq ⟨some 25, none, (.ofA (.conv .i64 (.tmp 24)))⟩ (.seq ⟨some 26, none, (.call (.cst (.fn 46 [])) [(.tmp 22), (.tmp 25), (.cst (.v (.int .i64 4)))])⟩ (.seq ⟨some 4, none, (.ofA (.mv (.tmp 26)))⟩ u0))))))) .ret)))))
 (.seq ⟨some 5, none, (.ofA (.mv (.cst (.v (.int .i64 0)))))⟩ .done)
def r92 : List XR := [.tmp 4, .tmp 5]
theorem fn92 : FnX Try.prog 92 EFF 27 x92 r92 := ⟨_, Try.func92, by kernel_rfl, by kernel_rfl, by kernel_rfl, by kernel_rfl⟩
-- almshouse/frame.Open (1 parameters)
def x93 : XC := (fun (u0 : XT) =>
 (.seq (.tree (.seq ⟨some 2, none, (.ofA (.mv (.cst (.v (.int .i64 0)))))⟩ (.seq ⟨some 3, none, (.ofA (.mv (.cst (.v (.slice none 0 0)))))⟩ (.seq ⟨some 4, none, (.ofA (.mv (.cst (.v (.int .i64 0)))))⟩ u0)))) (.seq (.tree (.seq ⟨some 9, none, (.ofA (.mv (.tmp 0)))⟩ (.seq ⟨some 10, none, (.call (.cst (.fn 94 [])) [(.tmp 9)])⟩ (.seq ⟨some 6, none, (.ofA (.mv (.tmp 10)))⟩ .done)))) (.seq (.tree (.seq ⟨some 11, none, (.ofA (.mv (.tmp 6)))⟩ (.seq ⟨some 12, none, (.call (.cst (.fn 52 [])) [(.tmp 11), (.cst (.v (.int .i64 1)))])⟩ (.seq ⟨some 2, none, (.ofA (.mv (.tmp 12)))⟩ .done)))) (.seq (.tree (.seq ⟨some 13, none, (.ofA (.mv (.tmp 6)))⟩ (.seq ⟨some 14, none, (.call (.cst (.fn 52 [])) [(.tmp 13), (.cst (.v (.int .i64 2)))])⟩ (.seq ⟨some 7, none, (.ofA (.mv (.tmp 14)))⟩ .done)))) (.seq (.seq (.tree (.seq ⟨some 15, none, (.ofA (.mv (.tmp 6)))⟩ (.seq ⟨some 16, none, (.call (.cst (.fn 124 [])) [(.tmp 15)])⟩ (.seq ⟨some 17, none, (.ofA (.mv (.tmp 7)))⟩ (.seq ⟨some 18, none, (.ofA (.bin .add (.tmp 17) (.cst (.v (.int .i64 4)))))⟩ (.seq ⟨some 19, none, (.ofA (.bin .lss (.tmp 16) (.tmp 18)))⟩ (.seq ⟨some 20, none, (.ofA (.mv (.tmp 19)))⟩ (.seq ⟨some 21, some (20, false), (.ofA (.mv (.tmp 0)))⟩ (.seq ⟨some 22, some (20, false), (.ofA (.len (.tmp 21)))⟩ (.seq ⟨some 23, some (20, false), (.ofA (.bin .lss (.tmp 22) (.cst (.v (.int .i64 3)))))⟩ (.seq ⟨some 24, none, (.ofA (.pick (.tmp 20) (.cst (.v (.bool true))) (.tmp 23)))⟩ .done))))))))))) (.cond (.tmp 24) (.seq (.tree (.seq ⟨some 2, none, (.ofA (.mv (.cst (.v (.int .i64 0)))))⟩ (.seq ⟨some 3, none, (.ofA (.mv (.cst (.v (.slice none 0 0)))))⟩ (.seq ⟨some 4, none, (.ofA (.mv (.cst (.v (.int .i64 0)))))⟩ (.seq ⟨some 5, none, (.ofA (.mv (.cst (.v (.int .i64 2)))))⟩ .done))))) .ret) .skip)) (.seq (.tree (.seq ⟨some 25, none, (.ofA (.mv (.tmp 7)))⟩ (.seq ⟨some 26, none, (.ofA (.bin .add (.cst (.v (.int .i64 3))) (.tmp 25)))⟩ (.seq ⟨some 8, none, (.ofA (.mv (.tmp 26)))⟩ .done)))) (.seq (.seq (.tree (.take ⟨some 27, none, (.ofA (.mv (.tmp 0)))⟩ (.take ⟨some 28, none, (.ofA (.mv (.tmp 8)))⟩ (.take ⟨some 29, none, (.ofA (.slc 1 (.tmp 27) (some (.tmp 28)) none))⟩ (.take ⟨some 32, none, (.ofA (.mv (.tmp 0)))⟩ (.take ⟨some 33, none, (.ofA (.mv (.tmp 8)))⟩ (.take ⟨some 34, none, (.ofA (.slc 1 (.tmp 32) none (some (.tmp 33))))⟩ (.alt [true] [(⟨some 30, none, (.call (.cst (.fn 94 [])) [(.tmp 29)])⟩, (.alt [false] [(⟨some 31, none, (.call (.cst (.fn 52 [])) [(.tmp 30), (.cst (.v (.int .i64 4)))])⟩, (.alt [true] [(⟨some 35, none, (.call (.cst (.fn 123 [])) [(.tmp 34)])⟩, (.take ⟨some 36, none, (.ofA (.conv .i64 (.tmp 35)))⟩ (.take ⟨some 37, none, (.ofA (.bin .neq (.tmp 31) (.tmp 36)))⟩ .done)))]))]))])))))))) (.cond (.tmp 37) (.seq (.tree (.seq ⟨some 2, none, (.ofA (.mv (.cst (.v (.int .i64 0)))))⟩ (.seq ⟨some 3, none, (.ofA (.mv (.cst (.v (.slice none 0 0)))))⟩ (.seq ⟨some 4, none, (.ofA (.mv (.cst (.v (.int .i64 0)))))⟩ (.seq ⟨some 5, none, (.ofA (.mv (.cst (.v (.int .i64 14)))))⟩ .done))))) .ret) .skip)) (.seq (.tree (.seq ⟨some 38, none, (.ofA (.mv (.tmp 2)))⟩ (.seq ⟨some 39, none, (.ofA (.mv (.tmp 0)))⟩ (.seq ⟨some 40, none, (.ofA (.mv (.tmp 8)))⟩ (.seq ⟨some 41, none, (.ofA (.slc 1 (.tmp 39) (some (.cst (.v (.int .i64 3)))) (some (.tmp 40))))⟩ (.seq ⟨some 42, none, (.call (.cst (.fn 90 [])) [(.tmp 41)])⟩ (.seq ⟨some 43, none, (.ofA (.mv (.tmp 8)))⟩ (.seq ⟨some 44, none, (.ofA (.bin .add (.tmp 43) (.cst (.v (.int .i64 4)))))⟩ (.seq ⟨some 2, none, (.ofA (.mv (.tmp 38)))⟩ (.seq ⟨some 3, none, (.ofA (.mv (.tmp 42)))⟩ (.seq ⟨some 4, none, (.ofA (.mv (.tmp 44)))⟩ u0))))))))))) .ret)))))))))
 (.seq ⟨some 5, none, (.ofA (.mv (.cst (.v (.int .i64 0)))))⟩ .done)
def r93 : List XR := [.tmp 2, .tmp 3, .tmp 4, .tmp 5]
theorem fn93 : FnX Try.prog 93 EFF 45 x93 r93 := ⟨_, Try.func93, by kernel_rfl, by kernel_rfl, by kernel_rfl, by kernel_rfl⟩
-- almshouse/word.Read (1 parameters)
def x94 : XC := (.seq (.tree (.seq ⟨some 2, none, (.ofA (.mv (.cst (.v (.pointer none)))))⟩ .done)) (.seq (.tree (.seq ⟨some 3, none, (.ofA (.mv (.tmp 0)))⟩ (.seq ⟨some 4, none, (.call (.cst (.fn 90 [])) [(.tmp 3)])⟩ (.seq ⟨some 5, none, (.build [(.v (.slice none 0 0)), (.v (.int .i64 0))] [(0, 1, (.tmp 4))])⟩ (.seq ⟨some 6, none, (.box (.tmp 5))⟩ (.seq ⟨some 2, none, (.ofA (.mv (.tmp 6)))⟩ .done)))))) .ret))
def r94 : List XR := [.tmp 2]
theorem fn94 : FnX Try.prog 94 EFF 7 x94 r94 := ⟨_, Try.func94, by kernel_rfl, by kernel_rfl, by kernel_rfl, by kernel_rfl⟩
-- (*almshouse/word.Reader).Done (1 parameters)
def x95 : XC := (.seq (.tree (.seq ⟨some 2, none, (.ofA (.mv (.cst (.v (.int .i64 0)))))⟩ .done)) (.seq (.seq (.tree (.seq ⟨some 3, none, (.ofA (.mv (.tmp 0)))⟩ (.seq ⟨some 4, none, (.ofA (.eqn false 1 (.tmp 3) (.cst (.v (.pointer none)))))⟩ .done))) (.cond (.tmp 4) (.seq (.tree (.seq ⟨some 2, none, (.ofA (.mv (.cst (.v (.int .i64 1)))))⟩ .done)) .ret) .skip)) (.seq (.seq (.tree (.seq ⟨some 5, none, (.ofA (.mv (.tmp 0)))⟩ (.seq ⟨some 6, none, (.ofA (.nilc (.tmp 5)))⟩ (.seq ⟨some 7, none, (.ofA (.faddr 0 (.tmp 6)))⟩ (.seq ⟨some 8, none, (.ofA (.load none (.tmp 7)))⟩ (.seq ⟨some 9, none, (.ofA (.len (.tmp 8)))⟩ (.seq ⟨some 10, none, (.ofA (.bin .gtr (.tmp 9) (.cst (.v (.int .i64 0)))))⟩ .done))))))) (.cond (.tmp 10) (.tree (.seq ⟨some 11, none, (.ofA (.mv (.tmp 0)))⟩ (.seq ⟨some 12, none, (.call (.cst (.fn 97 [])) [(.tmp 11), (.cst (.v (.int .i64 2)))])⟩ .done))) .skip)) (.seq (.tree (.seq ⟨some 13, none, (.ofA (.mv (.tmp 0)))⟩ (.seq ⟨some 14, none, (.ofA (.nilc (.tmp 13)))⟩ (.seq ⟨some 15, none, (.ofA (.faddr 1 (.tmp 14)))⟩ (.seq ⟨some 16, none, (.ofA (.load none (.tmp 15)))⟩ (.seq ⟨some 2, none, (.ofA (.mv (.tmp 16)))⟩ .done)))))) .ret))))
def r95 : List XR := [.tmp 2]
theorem fn95 : FnX Try.prog 95 EFF 17 x95 r95 := ⟨_, Try.func95, by kernel_rfl, by kernel_rfl, by kernel_rfl, by kernel_rfl⟩
-- almshouse/word.sized (1 parameters)
def x96 : XC := (.seq (.tree (.seq ⟨some 2, none, (.ofA (.mv (.cst (.v (.bool false)))))⟩ .done)) (.seq (.tree (.seq ⟨some 3, none, (.ofA (.mv (.tmp 0)))⟩ (.seq ⟨some 4, none, (.ofA (.bin .eql (.tmp 3) (.cst (.v (.int .i64 1)))))⟩ (.seq ⟨some 5, none, (.ofA (.mv (.tmp 4)))⟩ (.seq ⟨some 6, some (5, false), (.ofA (.mv (.tmp 0)))⟩ (.seq ⟨some 7, some (5, false), (.ofA (.bin .eql (.tmp 6) (.cst (.v (.int .i64 2)))))⟩ (.seq ⟨some 8, none, (.ofA (.pick (.tmp 5) (.cst (.v (.bool true))) (.tmp 7)))⟩ (.seq ⟨some 9, none, (.ofA (.mv (.tmp 8)))⟩ (.seq ⟨some 10, some (9, false), (.ofA (.mv (.tmp 0)))⟩ (.seq ⟨some 11, some (9, false), (.ofA (.bin .eql (.tmp 10) (.cst (.v (.int .i64 4)))))⟩ (.seq ⟨some 12, none, (.ofA (.pick (.tmp 9) (.cst (.v (.bool true))) (.tmp 11)))⟩ (.seq ⟨some 2, none, (.ofA (.mv (.tmp 12)))⟩ .done)))))))))))) .ret))
def r96 : List XR := [.tmp 2]
theorem fn96 : FnX Try.prog 96 EFF 13 x96 r96 := ⟨_, Try.func96, by kernel_rfl, by kernel_rfl, by kernel_rfl, by kernel_rfl⟩
-- (*almshouse/word.Reader).fail (2 parameters)
def x97 : XC := (.seq (.tree (.seq ⟨some 4, none, (.ofA (.mv (.cst (.v (.bool false)))))⟩ .done)) (.seq (.seq (.tree (.seq ⟨some 5, none, (.ofA (.mv (.tmp 0)))⟩ (.seq ⟨some 6, none, (.ofA (.nilc (.tmp 5)))⟩ (.seq ⟨some 7, none, (.ofA (.faddr 1 (.tmp 6)))⟩ (.seq ⟨some 8, none, (.ofA (.load none (.tmp 7)))⟩ (.seq ⟨some 9, none, (.ofA (.bin .eql (.tmp 8) (.cst (.v (.int .i64 0)))))⟩ .done)))))) (.cond (.tmp 9) (.tree (.seq ⟨some 10, none, (.ofA (.mv (.tmp 0)))⟩ (.seq ⟨some 11, none, (.ofA (.mv (.tmp 1)))⟩ (.seq ⟨some 12, none, (.ofA (.nilc (.tmp 10)))⟩ (.seq ⟨some 13, none, (.ofA (.faddr 1 (.tmp 12)))⟩ (.seq ⟨none, none, (.store 1 (.tmp 13) (.tmp 11))⟩ .done)))))) .skip)) (.seq (.tree (.seq ⟨some 14, none, (.ofA (.mv (.tmp 0)))⟩ (.seq ⟨some 15, none, (.ofA (.nilc (.tmp 14)))⟩ (.seq ⟨some 16, none, (.ofA (.faddr 1 (.tmp 15)))⟩ (.seq ⟨some 17, none, (.ofA (.load none (.tmp 16)))⟩ (.seq ⟨some 18, none, (.ofA (.bin .neq (.tmp 17) (.cst (.v (.int .i64 0)))))⟩ (.seq ⟨some 4, none, (.ofA (.mv (.tmp 18)))⟩ .done))))))) .ret)))
def r97 : List XR := [.tmp 4]
theorem fn97 : FnX Try.prog 97 EFF 19 x97 r97 := ⟨_, Try.func97, by kernel_rfl, by kernel_rfl, by kernel_rfl, by kernel_rfl⟩
-- (*almshouse/word.Reader).next (2 parameters)
def x98 : XC := (fun (u0 : XT) =>
 (.seq (.tree u0) (.seq (.seq (.tree (.seq ⟨some 6, none, (.ofA (.mv (.tmp 0)))⟩ (.seq ⟨some 7, none, (.ofA (.nilc (.tmp 6)))⟩ (.seq ⟨some 8, none, (.ofA (.faddr 1 (.tmp 7)))⟩ (.seq ⟨some 9, none, (.ofA (.load none (.tmp 8)))⟩ (.seq ⟨some 10, none, (.ofA (.bin .neq (.tmp 9) (.cst (.v (.int .i64 0)))))⟩ (.seq ⟨some 11, none, (.ofA (.mv (.tmp 10)))⟩ (.seq ⟨some 12, some (11, false), (.ofA (.mv (.tmp 1)))⟩ (.seq ⟨some 13, some (11, false), (.ofA (.mv (.tmp 0)))⟩ (.seq ⟨some 14, some (11, false), (.ofA (.nilc (.tmp 13)))⟩ (.seq ⟨some 15, some (11, false), (.ofA (.faddr 0 (.tmp 14)))⟩ (.seq ⟨some 16, some (11, false), (.ofA (.load none (.tmp 15)))⟩ (.seq ⟨some 17, some (11, false), (.ofA (.len (.tmp 16)))⟩ (.seq ⟨some 18, some (11, false), (.ofA (.bin .gtr (.tmp 12) (.tmp 17)))⟩ (.seq ⟨some 19, some (11, false), (.ofA (.mv (.tmp 18)))⟩ (.seq ⟨some 20, some (19, true), (.ofA (.mv (.tmp 0)))⟩ (.seq ⟨some 21, some (19, true), (.call (.cst (.fn 97 [])) [(.tmp 20), (.cst (.v (.int .i64 2)))])⟩ (.seq ⟨some 22, some (11, false), (.ofA (.pick (.tmp 19) (.tmp 21) (.cst (.v (.bool false)))))⟩ (.seq ⟨some 23, none, (.ofA (.pick (.tmp 11) (.cst (.v (.bool true))) (.tmp 22)))⟩ .done))))))))))))))))))) (.cond (.tmp 23) (.seq (.tree u0) .ret) .skip)) (.seq (.tree (.seq ⟨some 24, none, (.ofA (.mv (.tmp 0)))⟩ (.seq ⟨some 25, none, (.ofA (.nilc (.tmp 24)))⟩ (.seq ⟨some 26, none, (.ofA (.faddr 0 (.tmp 25)))⟩ (.seq ⟨some 27, none, (.ofA (.load none (.tmp 26)))⟩ (.seq ⟨some 28, none, (.ofA (.mv (.tmp 1)))⟩ (.seq ⟨some 29, none, (.ofA (.mv (.tmp 1)))⟩ (.seq ⟨some 30, none, (.ofA (.slc3 1 (.tmp 27) none (.tmp 28) (.tmp 29)))⟩ (.seq ⟨some 5, none, (.ofA (.mv (.tmp 30)))⟩ .done))))))))) (.seq (.tree (.seq ⟨some 31, none, (.ofA (.mv (.tmp 0)))⟩ (.seq ⟨some 32, none, (.ofA (.mv (.tmp 0)))⟩ (.seq ⟨some 33, none, (.ofA (.nilc (.tmp 32)))⟩ (.seq ⟨some 34, none, (.ofA (.faddr 0 (.tmp 33)))⟩ (.seq ⟨some 35, none, (.ofA (.load none (.tmp 34)))⟩ (.seq ⟨some 36, none, (.ofA (.mv (.tmp 1)))⟩ (.seq ⟨some 37, none, (.ofA (.slc 1 (.tmp 35) (some (.tmp 36)) none))⟩ (.seq ⟨some 38, none, (.ofA (.nilc (.tmp 31)))⟩ (.seq ⟨some 39, none, (.ofA (.faddr 0 (.tmp 38)))⟩ (.seq ⟨none, none, (.store 1 (.tmp 39) (.tmp 37))⟩ .done))))))))))) (.seq (.tree (.seq ⟨some 40, none, (.ofA (.mv (.tmp 5)))⟩ (.seq ⟨some 4, none, (.ofA (.mv (.tmp 40)))⟩ .done))) .ret))))))
 (.seq ⟨some 4, none, (.ofA (.mv (.cst (.v (.slice none 0 0)))))⟩ .done)
def r98 : List XR := [.tmp 4]
theorem fn98 : FnX Try.prog 98 EFF 41 x98 r98 := ⟨_, Try.func98, by kernel_rfl, by kernel_rfl, by kernel_rfl, by kernel_rfl⟩
-- (*almshouse/image.reader).block$1 (1 parameters)
def x99 : XC := (.seq (.tree (.seq ⟨some 4, none, (.ofA (.mv (.tmp 0)))⟩ (.seq ⟨some 5, none, (.call (.cst (.fn 100 [])) [(.tmp 4)])⟩ (.seq ⟨some 6, none, (.ofA (.faddr 0 (.tmp 1)))⟩ (.seq ⟨none, none, (.store 1 (.tmp 6) (.tmp 5))⟩ .done))))) (.seq (.tree (.seq ⟨some 7, none, (.ofA (.mv (.tmp 0)))⟩ (.seq ⟨some 8, none, (.call (.cst (.fn 52 [])) [(.tmp 7), (.cst (.v (.int .i64 1)))])⟩ (.seq ⟨none, none, (.store 1 (.tmp 2) (.tmp 8))⟩ .done)))) (.tree (.seq ⟨some 9, none, (.ofA (.mv (.tmp 0)))⟩ (.seq ⟨some 10, none, (.call (.cst (.fn 52 [])) [(.tmp 9), (.cst (.v (.int .i64 4)))])⟩ (.seq ⟨some 11, none, (.ofA (.faddr 1 (.tmp 1)))⟩ (.seq ⟨none, none, (.store 1 (.tmp 11) (.tmp 10))⟩ .done)))))))
def r99 : List XR := []
theorem fn99 : FnX Try.prog 99 EFF 12 x99 r99 := ⟨_, Try.func99, by kernel_rfl, by kernel_rfl, by kernel_rfl, by kernel_rfl⟩
-- (*almshouse/word.Reader).Flag (1 parameters)
def x100 : XC := (.seq (.tree (.seq ⟨some 2, none, (.ofA (.mv (.cst (.v (.bool false)))))⟩ .done)) (.seq (.tree (.seq ⟨some 4, none, (.ofA (.mv (.tmp 0)))⟩ (.seq ⟨some 5, none, (.call (.cst (.fn 52 [])) [(.tmp 4), (.cst (.v (.int .i64 1)))])⟩ (.seq ⟨some 3, none, (.ofA (.mv (.tmp 5)))⟩ .done)))) (.seq (.seq (.tree (.seq ⟨some 6, none, (.ofA (.mv (.tmp 3)))⟩ (.seq ⟨some 7, none, (.ofA (.bin .gtr (.tmp 6) (.cst (.v (.int .i64 1)))))⟩ .done))) (.cond (.tmp 7) (.tree (.seq ⟨some 8, none, (.ofA (.mv (.tmp 0)))⟩ (.seq ⟨some 9, none, (.call (.cst (.fn 97 [])) [(.tmp 8), (.cst (.v (.int .i64 2)))])⟩ .done))) .skip)) (.seq (.tree (.seq ⟨some 10, none, (.ofA (.mv (.tmp 3)))⟩ (.seq ⟨some 11, none, (.ofA (.bin .eql (.tmp 10) (.cst (.v (.int .i64 1)))))⟩ (.seq ⟨some 2, none, (.ofA (.mv (.tmp 11)))⟩ .done)))) .ret))))
def r100 : List XR := [.tmp 2]
theorem fn100 : FnX Try.prog 100 EFF 12 x100 r100 := ⟨_, Try.func100, by kernel_rfl, by kernel_rfl, by kernel_rfl, by kernel_rfl⟩
-- (*almshouse/image.reader).page (1 parameters)
def x101 : XC := (.seq (.tree (.seq ⟨some 2, none, (.alloc [(.v (.bool false)), (.v (.string ⟨#[]⟩)), (.v (.string ⟨#[]⟩))])⟩ .done)) (.seq (.tree (.seq ⟨some 3, none, (.ofA (.mv (.tmp 0)))⟩ (.seq ⟨some 4, none, (.ofA (.mkfn 125 [(.tmp 2)]))⟩ (.seq ⟨some 5, none, (.call (.cst (.fn 50 [])) [(.tmp 3), (.cst (.v (.int .i64 80))), (.tmp 4)])⟩ .done)))) (.seq (.tree (.seq ⟨some 6, none, (.ofA (.load (some 3) (.tmp 2)))⟩ (.seq ⟨none, none, (.store 3 (.tmp 2) (.tmp 6))⟩ .done))) .ret)))
def r101 : List XR := [.cell 2 (some 3)]
theorem fn101 : FnX Try.prog 101 EFF 7 x101 r101 := ⟨_, Try.func101, by kernel_rfl, by kernel_rfl, by kernel_rfl, by kernel_rfl⟩
-- slices.Equal[[]almshouse/image.Page,almshouse/image.Page] (2 parameters)
def x104 : XC := (fun (u0 : XT) =>
 (.seq (.tree u0) (.seq (.seq (.tree (.seq ⟨some 6, none, (.ofA (.mv (.tmp 0)))⟩ (.seq ⟨some 7, none, (.ofA (.len (.tmp 6)))⟩ (.seq ⟨some 8, none, (.ofA (.mv (.tmp 1)))⟩ (.seq ⟨some 9, none, (.ofA (.len (.tmp 8)))⟩ (.seq ⟨some 10, none, (.ofA (.bin .neq (.tmp 7) (.tmp 9)))⟩ .done)))))) (.cond (.tmp 10) (.seq (.tree u0) .ret) .skip)) (.seq (.seq (.tree (.seq ⟨some 11, none, (.ofA (.mv (.tmp 0)))⟩ (.seq ⟨some 12, none, (.ofA (.len (.tmp 11)))⟩ (.seq ⟨some 13, none, (.ofA (.mv (.cst (.v (.int .i64 0)))))⟩ .done)))) (.block 0 (.loop (.seq (.tree (.seq ⟨some 14, none, (.ofA (.bin .lss (.tmp 13) (.tmp 12)))⟩ .done)) (.seq (.cond (.tmp 14) .skip (.exit 0)) (.seq (.block 1 (.seq (.tree (.seq ⟨some 15, none, (.ofA (.mv (.tmp 13)))⟩ (.seq ⟨some 5, none, (.ofA (.mv (.tmp 15)))⟩ .done))) (.seq (.tree (.take ⟨some 16, none, (.ofA (.mv (.tmp 0)))⟩ (.take ⟨some 17, none, (.ofA (.mv (.tmp 5)))⟩ (.take ⟨some 18, none, (.ofA (.isl 3 (.tmp 16) (.tmp 17)))⟩ (.take ⟨some 19, none, (.ofA (.load (some 3) (.tmp 18)))⟩ (.take ⟨some 20, none, (.ofA (.mv (.tmp 1)))⟩ (.take ⟨some 21, none, (.ofA (.mv (.tmp 5)))⟩ (.take ⟨some 22, none, (.ofA (.isl 3 (.tmp 20) (.tmp 21)))⟩ (.take ⟨some 23, none, (.ofA (.load (some 3) (.tmp 22)))⟩ (.take ⟨some 24, none, (.ofA (.eqs true [.bool, .str, .str] (.tmp 19) (.tmp 23)))⟩ .done)))))))))) (.cond (.tmp 24) (.seq (.tree u0) .ret) .skip)))) (.tree (.seq ⟨some 25, none, (.ofA (.bin .add (.tmp 13) (.cst (.v (.int .i64 1)))))⟩ (.seq ⟨some 13, none, (.ofA (.mv (.tmp 25)))⟩ .done))))))))) (.seq (.tree (.seq ⟨some 4, none, (.ofA (.mv (.cst (.v (.bool true)))))⟩ .done)) .ret)))))
 (.seq ⟨some 4, none, (.ofA (.mv (.cst (.v (.bool false)))))⟩ .done)
def r104 : List XR := [.tmp 4]
theorem fn104 : FnX Try.prog 104 EFF 26 x104 r104 := ⟨_, Try.func104, by kernel_rfl, by kernel_rfl, by kernel_rfl, by kernel_rfl⟩
-- slices.IndexFunc[[]almshouse/image.Page,almshouse/image.Page] (2 parameters)
def x122 : XC := (.seq (.tree (.seq ⟨some 4, none, (.ofA (.mv (.cst (.v (.int .i64 0)))))⟩ .done)) (.seq (.seq (.tree (.seq ⟨some 6, none, (.ofA (.mv (.tmp 0)))⟩ (.seq ⟨some 7, none, (.ofA (.len (.tmp 6)))⟩ (.seq ⟨some 8, none, (.ofA (.mv (.cst (.v (.int .i64 0)))))⟩ .done)))) (.block 0 (.loop (.seq (.tree (.seq ⟨some 9, none, (.ofA (.bin .lss (.tmp 8) (.tmp 7)))⟩ .done)) (.seq (.cond (.tmp 9) .skip (.exit 0)) (.seq (.block 1 (.seq (.tree (.seq ⟨some 10, none, (.ofA (.mv (.tmp 8)))⟩ (.seq ⟨some 5, none, (.ofA (.mv (.tmp 10)))⟩ .done))) (.seq (.tree (.seq ⟨some 11, none, (.ofA (.mv (.tmp 1)))⟩ (.seq ⟨some 12, none, (.ofA (.mv (.tmp 0)))⟩ (.seq ⟨some 13, none, (.ofA (.mv (.tmp 5)))⟩ (.seq ⟨some 14, none, (.ofA (.isl 3 (.tmp 12) (.tmp 13)))⟩ (.seq ⟨some 15, none, (.ofA (.load (some 3) (.tmp 14)))⟩ (.seq ⟨some 16, none, (.call (.tmp 11) [(.tmp 15)])⟩ .done))))))) (.cond (.tmp 16) (.seq (.tree (.seq ⟨some 17, none, (.ofA (.mv (.tmp 5)))⟩ (.seq ⟨some 4, none, (.ofA (.mv (.tmp 17)))⟩ .done))) .ret) .skip)))) (.tree (.seq ⟨some 18, none, (.ofA (.bin .add (.tmp 8) (.cst (.v (.int .i64 1)))))⟩ (.seq ⟨some 8, none, (.ofA (.mv (.tmp 18)))⟩ .done))))))))) (.seq (.tree (.seq ⟨some 4, none, (.ofA (.mv (.cst (.v (.int .i64 (-1))))))⟩ .done)) .ret)))
def r122 : List XR := [.tmp 4]
theorem fn122 : FnX Try.prog 122 EFF 19 x122 r122 := ⟨_, Try.func122, by kernel_rfl, by kernel_rfl, by kernel_rfl, by kernel_rfl⟩
-- (*almshouse/word.Reader).Left (1 parameters)
def x124 : XC := (fun (u0 : XT) =>
 (.seq (.tree u0) (.seq (.seq (.tree (.seq ⟨some 3, none, (.ofA (.mv (.tmp 0)))⟩ (.seq ⟨some 4, none, (.ofA (.eqn false 1 (.tmp 3) (.cst (.v (.pointer none)))))⟩ .done))) (.cond (.tmp 4) (.seq (.tree u0) .ret) .skip)) (.seq (.tree (.seq ⟨some 5, none, (.ofA (.mv (.tmp 0)))⟩ (.seq ⟨some 6, none, (.ofA (.nilc (.tmp 5)))⟩ (.seq ⟨some 7, none, (.ofA (.faddr 0 (.tmp 6)))⟩ (.seq ⟨some 8, none, (.ofA (.load none (.tmp 7)))⟩ (.seq ⟨some 9, none, (.ofA (.len (.tmp 8)))⟩ (.seq ⟨some 2, none, (.ofA (.mv (.tmp 9)))⟩ .done))))))) .ret))))
 (.seq ⟨some 2, none, (.ofA (.mv (.cst (.v (.int .i64 0)))))⟩ .done)
def r124 : List XR := [.tmp 2]
theorem fn124 : FnX Try.prog 124 EFF 10 x124 r124 := ⟨_, Try.func124, by kernel_rfl, by kernel_rfl, by kernel_rfl, by kernel_rfl⟩
-- (*almshouse/image.reader).page$1 (1 parameters)
def x125 : XC := (.seq (.tree (.seq ⟨some 3, none, (.ofA (.mv (.tmp 0)))⟩ (.seq ⟨some 4, none, (.call (.cst (.fn 100 [])) [(.tmp 3)])⟩ (.seq ⟨some 5, none, (.ofA (.faddr 0 (.tmp 1)))⟩ (.seq ⟨none, none, (.store 1 (.tmp 5) (.tmp 4))⟩ .done))))) (.seq (.tree (.seq ⟨some 6, none, (.ofA (.faddr 0 (.tmp 1)))⟩ (.seq ⟨some 7, none, (.ofA (.load none (.tmp 6)))⟩ (.seq ⟨some 8, none, (.ofA (.un .not (.tmp 7)))⟩ .done)))) (.cond (.tmp 8) (.seq (.tree (.seq ⟨some 9, none, (.ofA (.mv (.tmp 0)))⟩ (.seq ⟨some 10, none, (.call (.cst (.fn 126 [])) [(.tmp 9), (.cst (.v (.int .i64 32)))])⟩ (.seq ⟨some 11, none, (.ofA (.faddr 1 (.tmp 1)))⟩ (.seq ⟨none, none, (.store 1 (.tmp 11) (.tmp 10))⟩ .done))))) (.tree (.seq ⟨some 12, none, (.ofA (.mv (.tmp 0)))⟩ (.seq ⟨some 13, none, (.call (.cst (.fn 126 [])) [(.tmp 12), (.cst (.v (.int .i64 160)))])⟩ (.seq ⟨some 14, none, (.ofA (.faddr 2 (.tmp 1)))⟩ (.seq ⟨none, none, (.store 1 (.tmp 14) (.tmp 13))⟩ .done)))))) .skip)))
def r125 : List XR := []
theorem fn125 : FnX Try.prog 125 EFF 15 x125 r125 := ⟨_, Try.func125, by kernel_rfl, by kernel_rfl, by kernel_rfl, by kernel_rfl⟩
-- (*almshouse/word.Reader).Text (2 parameters)
def x126 : XC := (fun (u0 : XT) =>
 (.seq (.tree u0) (.seq (.tree (.seq ⟨some 6, none, (.ofA (.mv (.tmp 0)))⟩ (.seq ⟨some 7, none, (.call (.cst (.fn 52 [])) [(.tmp 6), (.cst (.v (.int .i64 2)))])⟩ (.seq ⟨some 5, none, (.ofA (.mv (.tmp 7)))⟩ .done)))) (.seq (.seq (.tree (.seq ⟨some 8, none, (.ofA (.mv (.tmp 0)))⟩ (.seq ⟨some 9, none, (.ofA (.eqn false 1 (.tmp 8) (.cst (.v (.pointer none)))))⟩ (.seq ⟨some 10, none, (.ofA (.mv (.tmp 9)))⟩ (.seq ⟨some 11, some (10, false), (.ofA (.mv (.tmp 0)))⟩ (.seq ⟨some 12, some (10, false), (.ofA (.nilc (.tmp 11)))⟩ (.seq ⟨some 13, some (10, false), (.ofA (.faddr 1 (.tmp 12)))⟩ (.seq ⟨some 14, some (10, false), (.ofA (.load none (.tmp 13)))⟩ (.seq ⟨some 15, some (10, false), (.ofA (.bin .neq (.tmp 14) (.cst (.v (.int .i64 0)))))⟩ (.seq ⟨some 16, none, (.ofA (.pick (.tmp 10) (.cst (.v (.bool true))) (.tmp 15)))⟩ (.seq ⟨some 17, none, (.ofA (.mv (.tmp 16)))⟩ (.seq ⟨some 18, some (17, false), (.ofA (.mv (.tmp 5)))⟩ (.seq ⟨some 19, some (17, false), (.ofA (.mv (.tmp 1)))⟩ (.seq ⟨some 20, some (17, false), (.ofA (.bin .gtr (.tmp 18) (.tmp 19)))⟩ (.seq ⟨some 21, some (17, false), (.ofA (.mv (.tmp 20)))⟩ (.seq ⟨some 22, some (21, true), (.ofA (.mv (.tmp 0)))⟩ (.seq ⟨some 23, some (21, true), (.call (.cst (.fn 97 [])) [(.tmp 22), (.cst (.v (.int .i64 3)))])⟩ (.seq ⟨some 24, some (17, false), (.ofA (.pick (.tmp 21) (.tmp 23) (.cst (.v (.bool false)))))⟩ (.seq ⟨some 25, none, (.ofA (.pick (.tmp 17) (.cst (.v (.bool true))) (.tmp 24)))⟩ .done))))))))))))))))))) (.cond (.tmp 25) (.seq (.tree u0) .ret) .skip)) (.seq (.tree (.seq ⟨some 26, none, (.ofA (.mv (.tmp 0)))⟩ (.seq ⟨some 27, none, (.ofA (.mv (.tmp 5)))⟩ (.seq ⟨some 28, none, (.call (.cst (.fn 98 [])) [(.tmp 26), (.tmp 27)])⟩ (.seq ⟨some 29, none, (.ofA (.b2s (.tmp 28)))⟩ (.seq ⟨some 4, none, (.ofA (.mv (.tmp 29)))⟩ .done)))))) .ret)))))
 (.seq ⟨some 4, none, (.ofA (.mv (.cst (.v (.string ⟨#[]⟩)))))⟩ .done)
def r126 : List XR := [.tmp 4]
theorem fn126 : FnX Try.prog 126 EFF 30 x126 r126 := ⟨_, Try.func126, by kernel_rfl, by kernel_rfl, by kernel_rfl, by kernel_rfl⟩
-- (*sync/atomic.Bool).Load (1 parameters)
def x146 : XC := (.seq (.tree (.seq ⟨some 2, none, (.ofA (.mv (.cst (.v (.bool false)))))⟩ .done)) (.seq (.tree (.seq ⟨some 3, none, (.ofA (.mv (.tmp 0)))⟩ (.seq ⟨some 4, none, (.ofA (.nilc (.tmp 3)))⟩ (.seq ⟨some 5, none, (.ofA (.faddr 0 (.tmp 4)))⟩ (.seq ⟨some 6, none, (.call (.cst (.fn 164 [])) [(.tmp 5)])⟩ (.seq ⟨some 7, none, (.ofA (.bin .neq (.tmp 6) (.cst (.v (.int .u32 0)))))⟩ (.seq ⟨some 2, none, (.ofA (.mv (.tmp 7)))⟩ .done))))))) .ret))
def r146 : List XR := [.tmp 2]
theorem fn146 : FnX Try.prog 146 EFF 8 x146 r146 := ⟨_, Try.func146, by kernel_rfl, by kernel_rfl, by kernel_rfl, by kernel_rfl⟩
def T11 : List RE := [.run 11 true ⟨x11, 60, r11, 6⟩, .run 13 true ⟨x13, 102, r13, 7⟩, .run 15 true ⟨x15, 74, r15, 7⟩, .run 17 true ⟨x17, 17, r17, 5⟩, .run 18 true ⟨x18, 49, r18, 6⟩, .run 43 true ⟨x43, 10, r43, 4⟩, .run 44 true ⟨x44, 60, r44, 6⟩, .run 45 true ⟨x45, 50, r45, 6⟩, .run 46 true ⟨x46, 28, r46, 5⟩, .run 47 false ⟨x47, 32, r47, 6⟩, .run 48 true ⟨x48, 4, r48, 3⟩, .run 49 true ⟨x49, 16, r49, 5⟩, .run 50 false ⟨x50, 55, r50, 6⟩, .run 51 false ⟨x51, 13, r51, 4⟩, .run 52 false ⟨x52, 38, r52, 6⟩, .run 53 true ⟨x53, 50, r53, 6⟩, .run 54 false ⟨x54, 13, r54, 4⟩, .run 55 true ⟨x55, 14, r55, 4⟩, .run 56 false ⟨x56, 24, r56, 5⟩, .run 61 true ⟨x61, 32, r61, 6⟩, .run 62 true ⟨x62, 24, r62, 5⟩, .run 80 true ⟨x80, 10, r80, 4⟩, .run 81 true ⟨x81, 10, r81, 4⟩, .run 86 true ⟨x86, 9, r86, 4⟩, .run 87 true ⟨x87, 6, r87, 3⟩, .run 88 true ⟨x88, 18, r88, 5⟩, .run 89 true ⟨x89, 9, r89, 4⟩, .run 90 true ⟨x90, 8, r90, 4⟩, .run 91 true ⟨x91, 15, r91, 4⟩, .run 92 true ⟨x92, 27, r92, 5⟩, .run 93 true ⟨x93, 45, r93, 6⟩, .run 94 true ⟨x94, 7, r94, 3⟩, .run 95 false ⟨x95, 17, r95, 5⟩, .run 96 true ⟨x96, 13, r96, 4⟩, .run 97 false ⟨x97, 19, r97, 5⟩, .run 98 false ⟨x98, 41, r98, 6⟩, .run 99 false ⟨x99, 12, r99, 4⟩, .run 100 false ⟨x100, 12, r100, 4⟩, .run 101 false ⟨x101, 7, r101, 3⟩, .run 104 true ⟨x104, 26, r104, 5⟩, .run 122 true ⟨x122, 19, r122, 5⟩, .run 123 true ⟨x123, 5, r123, 3⟩, .run 124 true ⟨x124, 10, r124, 4⟩, .run 125 false ⟨x125, 15, r125, 4⟩, .run 126 false ⟨x126, 30, r126, 5⟩, .run 146 true ⟨x146, 8, r146, 4⟩, .nat 147 true g242N, .nat 164 true (nLoad .u32), .nat 180 false nStore]
theorem T11_ok : TOk Try.prog EFF T11 := (TOk.run fn11 (TOk.run fn13 (TOk.run fn15 (TOk.run fn17 (TOk.run fn18 (TOk.run fn43 (TOk.run fn44 (TOk.run fn45 (TOk.run fn46 (TOk.run fn47 (TOk.run fn48 (TOk.run fn49 (TOk.run fn50 (TOk.run fn51 (TOk.run fn52 (TOk.run fn53 (TOk.run fn54 (TOk.run fn55 (TOk.run fn56 (TOk.run fn61 (TOk.run fn62 (TOk.run fn80 (TOk.run fn81 (TOk.run fn86 (TOk.run fn87 (TOk.run fn88 (TOk.run fn89 (TOk.run fn90 (TOk.run fn91 (TOk.run fn92 (TOk.run fn93 (TOk.run fn94 (TOk.run fn95 (TOk.run fn96 (TOk.run fn97 (TOk.run fn98 (TOk.run fn99 (TOk.run fn100 (TOk.run fn101 (TOk.run fn104 (TOk.run fn122 (TOk.run fn123e (TOk.run fn124 (TOk.run fn125 (TOk.run fn126 (TOk.run fn146 (TOk.nat h147 (TOk.nat h164 (TOk.nat h180 TOk.nil)))))))))))))))))))))))))))))))))))))))))))))))))
theorem run11 : runsTo T11 1000 80 11 [] (.v (.bool true)) = true := by kernel_rfl
def c11 [Inp] : Trans := fun args m k => args = [] ∧ k (.v (.bool true)) m
theorem c11_ok [Inp] : Contract Try.prog 11 true c11 := .runs T11_ok 1000 80 run11 _ fun a m k h => ⟨h.1, h.2⟩
end Go.Proofs.Ytibefgdjijmncaa.Run
end
section
namespace Go.Proofs.Ytibefgdjijmncaa
open Go.RowKit Sz
set_option maxHeartbeats 8000000
set_option maxRecDepth 20000
-- almshouse/almshouselaw43.ImageParses (5 parameters)
def x4 : XC := (.seq (.tree (.seq ⟨some 5, none, (.box (.tmp 0))⟩
 (.seq ⟨some 10, none, (.ofA (.mv (.cst (.v (.bool false)))))⟩
 .done)))
 (.seq (.seq (.tree (.seq ⟨some 16, none, (.call (.cst (.fn 11 [])) [])⟩
 (.seq ⟨some 17, none, (.ofA (.un .not (.tmp 16)))⟩
 .done)))
 (.cond (.tmp 17)
 (.seq (.tree (.seq ⟨some 10, none, (.ofA (.mv (.cst (.v (.bool false)))))⟩
 .done))
 .ret)
 .skip))
 (.seq (.seq (.tree (.seq ⟨some 18, none, (.ofA (.load (some 5) (.tmp 5)))⟩
 (.seq ⟨some 19, none, (.call (.cst (.fn 12 [])) [(.tmp 18)])⟩
 (.seq ⟨some 20, none, (.ofA (.un .not (.tmp 19)))⟩
 (.seq ⟨some 21, none, (.ofA (.mv (.tmp 20)))⟩
 (.seq ⟨some 22, some (21, false), (.ofA (.load (some 5) (.tmp 5)))⟩
 (.seq ⟨some 23, some (21, false), (.call (.cst (.fn 14 [])) [(.tmp 22)])⟩
 (.seq ⟨some 24, some (21, false), (.ofA (.un .not (.tmp 23)))⟩
 (.seq ⟨some 25, none, (.ofA (.pick (.tmp 21) (.cst (.v (.bool true))) (.tmp 24)))⟩
 (.seq ⟨some 26, none, (.ofA (.mv (.tmp 25)))⟩
 (.seq ⟨some 27, some (26, false), (.ofA (.mv (.tmp 4)))⟩
 (.seq ⟨some 28, some (26, false), (.ofA (.len (.tmp 27)))⟩
 (.seq ⟨some 29, some (26, false), (.ofA (.bin .gtr (.tmp 28) (.cst (.v (.int .i64 20)))))⟩
 (.seq ⟨some 30, none, (.ofA (.pick (.tmp 26) (.cst (.v (.bool true))) (.tmp 29)))⟩
 .done))))))))))))))
 (.cond (.tmp 30)
 (.seq (.tree (.seq ⟨some 10, none, (.ofA (.mv (.cst (.v (.bool true)))))⟩
 .done))
 .ret)
 .skip))
 (.seq (.tree (.seq ⟨some 31, none, (.ofA (.load (some 5) (.tmp 5)))⟩
 (.seq ⟨some 32, none, (.call (.cst (.fn 16 [])) [(.tmp 31)])⟩
 (.seq ⟨some 11, none, (.ofA (.mv (.tmp 32)))⟩
 .done))))
 (.seq (.tree (.seq ⟨some 33, none, (.ofA (.mv (.tmp 11)))⟩
 (.seq ⟨some 34, none, (.ofA (.mv (.tmp 1)))⟩
 (.seq ⟨some 35, none, (.ofA (.conv .i64 (.tmp 34)))⟩
 (.seq ⟨some 36, none, (.ofA (.mv (.tmp 11)))⟩
 (.seq ⟨some 37, none, (.ofA (.len (.tmp 36)))⟩
 (.seq ⟨some 38, none, (.ofA (.bin .rem (.tmp 35) (.tmp 37)))⟩
 (.seq ⟨some 39, none, (.ofA (.isl 1 (.tmp 33) (.tmp 38)))⟩
 (.seq ⟨some 40, none, (.ofA (.load none (.tmp 39)))⟩
 (.seq ⟨some 41, none, (.ofA (.mv (.tmp 2)))⟩
 (.seq ⟨some 42, none, (.ofA (.bin .xor (.tmp 40) (.tmp 41)))⟩
 (.seq ⟨some 43, none, (.ofA (.isl 1 (.tmp 33) (.tmp 38)))⟩
 (.seq ⟨none, none, (.store 1 (.tmp 43) (.tmp 42))⟩
 .done)))))))))))))
 (.seq (.tree (.seq ⟨some 44, none, (.ofA (.mv (.tmp 11)))⟩
 (.seq ⟨some 45, none, (.ofA (.mv (.tmp 11)))⟩
 (.seq ⟨some 46, none, (.ofA (.len (.tmp 45)))⟩
 (.seq ⟨some 47, none, (.ofA (.mv (.tmp 3)))⟩
 (.seq ⟨some 48, none, (.ofA (.conv .i64 (.tmp 47)))⟩
 (.seq ⟨some 49, none, (.ofA (.mv (.tmp 11)))⟩
 (.seq ⟨some 50, none, (.ofA (.len (.tmp 49)))⟩
 (.seq ⟨some 51, none, (.ofA (.bin .add (.tmp 50) (.cst (.v (.int .i64 1)))))⟩
 (.seq ⟨some 52, none, (.ofA (.bin .rem (.tmp 48) (.tmp 51)))⟩
 (.seq ⟨some 53, none, (.ofA (.bin .sub (.tmp 46) (.tmp 52)))⟩
 (.seq ⟨some 54, none, (.ofA (.slc 1 (.tmp 44) none (some (.tmp 53))))⟩
 (.seq ⟨some 55, none, (.ofA (.mv (.tmp 4)))⟩
 (.seq ⟨some 56, none, (.app 1 1 (.tmp 54) (.tmp 55))⟩
 (.seq ⟨some 11, none, (.ofA (.mv (.tmp 56)))⟩
 .done)))))))))))))))
 (.seq (.tree (.seq ⟨some 58, none, (.ofA (.mv (.tmp 11)))⟩
 (.seq ⟨some 59, none, (.call (.cst (.fn 15 [])) [(.tmp 58)])⟩
 (.seq ⟨some 57, none, (.ofA (.mv (.tmp 59)))⟩
 (.seq ⟨some 60, none, (.ofA (.extract 0 (.tmp 57)))⟩
 (.seq ⟨some 61, none, (.ofA (.extract 1 (.tmp 57)))⟩
 (.seq ⟨some 12, none, (.alloc [(.v (.int .i64 0)), (.v (.int .i64 0)), (.v (.int .i64 0)), (.v (.int .i64 0)), (.v (.slice none 0 0))])⟩
 (.seq ⟨none, none, (.store 5 (.tmp 12) (.tmp 60))⟩
 (.seq ⟨some 13, none, (.ofA (.mv (.tmp 61)))⟩
 .done)))))))))
 (.seq (.seq (.tree (.seq ⟨some 62, none, (.ofA (.mv (.tmp 13)))⟩
 (.seq ⟨some 63, none, (.ofA (.bin .neq (.tmp 62) (.cst (.v (.int .i64 0)))))⟩
 .done)))
 (.cond (.tmp 63)
 (.seq (.tree (.seq ⟨some 64, none, (.ofA (.mv (.tmp 13)))⟩
 (.seq ⟨some 65, none, (.ofA (.bin .eql (.tmp 64) (.cst (.v (.int .i64 2)))))⟩
 (.seq ⟨some 66, none, (.ofA (.mv (.tmp 65)))⟩
 (.seq ⟨some 67, some (66, false), (.ofA (.mv (.tmp 13)))⟩
 (.seq ⟨some 68, some (66, false), (.ofA (.bin .eql (.tmp 67) (.cst (.v (.int .i64 14)))))⟩
 (.seq ⟨some 69, none, (.ofA (.pick (.tmp 66) (.cst (.v (.bool true))) (.tmp 68)))⟩
 (.seq ⟨some 70, none, (.ofA (.mv (.tmp 69)))⟩
 (.seq ⟨some 71, some (70, true), (.ofA (.faddr 4 (.tmp 12)))⟩
 (.seq ⟨some 72, some (70, true), (.ofA (.load none (.tmp 71)))⟩
 (.seq ⟨some 73, some (70, true), (.ofA (.len (.tmp 72)))⟩
 (.seq ⟨some 74, some (70, true), (.ofA (.bin .eql (.tmp 73) (.cst (.v (.int .i64 0)))))⟩
 (.seq ⟨some 75, none, (.ofA (.pick (.tmp 70) (.tmp 74) (.cst (.v (.bool false)))))⟩
 (.seq ⟨some 10, none, (.ofA (.mv (.tmp 75)))⟩
 .done))))))))))))))
 .ret)
 .skip))
 (.seq (.tree (.seq ⟨some 77, none, (.ofA (.load (some 5) (.tmp 12)))⟩
 (.seq ⟨some 78, none, (.call (.cst (.fn 13 [])) [(.tmp 77)])⟩
 (.seq ⟨some 76, none, (.ofA (.mv (.tmp 78)))⟩
 (.seq ⟨some 79, none, (.ofA (.extract 0 (.tmp 76)))⟩
 (.seq ⟨some 80, none, (.ofA (.extract 1 (.tmp 76)))⟩
 (.seq ⟨some 14, none, (.ofA (.mv (.tmp 79)))⟩
 (.seq ⟨some 15, none, (.ofA (.mv (.tmp 80)))⟩
 .done))))))))
 (.seq (.tree (.seq ⟨some 81, none, (.ofA (.mv (.tmp 15)))⟩
 (.seq ⟨some 82, none, (.ofA (.bin .eql (.tmp 81) (.cst (.v (.int .i64 0)))))⟩
 (.seq ⟨some 83, none, (.ofA (.mv (.tmp 82)))⟩
 (.seq ⟨some 84, some (83, true), (.ofA (.mv (.tmp 14)))⟩
 (.seq ⟨some 85, some (83, true), (.ofA (.b2s (.tmp 84)))⟩
 (.seq ⟨some 86, some (83, true), (.ofA (.mv (.tmp 11)))⟩
 (.seq ⟨some 87, some (83, true), (.ofA (.b2s (.tmp 86)))⟩
 (.seq ⟨some 88, some (83, true), (.ofA (.bin .eql (.tmp 85) (.tmp 87)))⟩
 (.seq ⟨some 89, none, (.ofA (.pick (.tmp 83) (.tmp 88) (.cst (.v (.bool false)))))⟩
 (.seq ⟨some 90, none, (.ofA (.mv (.tmp 89)))⟩
 (.seq ⟨some 91, some (90, true), (.ofA (.load (some 5) (.tmp 12)))⟩
 (.seq ⟨some 92, some (90, true), (.call (.cst (.fn 14 [])) [(.tmp 91)])⟩
 (.seq ⟨some 93, none, (.ofA (.pick (.tmp 90) (.tmp 92) (.cst (.v (.bool false)))))⟩
 (.seq ⟨some 10, none, (.ofA (.mv (.tmp 93)))⟩
 .done)))))))))))))))
 .ret))))))))))
def r4 : List XR := [.tmp 10]
theorem fn4 : FnX Try.prog 4 [] 94 x4 r4 := ⟨_, Try.func4, by kernel_rfl, by kernel_rfl, by kernel_rfl, by kernel_rfl⟩
def c4 [Inp] : Trans := fun args m k => ∃ (s1 : SV) (g1 : Ge) (bs1 : List Bk) (a y cu : Int) (p : Option Addr) (n c : Nat) (more : List Int), args = [s1, .v (.int .u16 a), .v (.int .u8 y), .v (.int .u16 cu), .v (.slice p n c)] ∧ picS m s1 g1 bs1 ∧ smallB bs1 ∧ (0 ≤ a ∧ a ≤ 65535) ∧ (0 ≤ cu ∧ cu ≤ 65535) ∧ inpL p n = some (more.map (Value.int .u8)) ∧ more.length = n ∧ n ≤ 140737488355328 ∧ Byt more ∧ k (.v (.bool true)) m
def G4 [Inp] : List CEntry := [⟨11, true, Run.c11⟩, ⟨12, true, c12⟩, ⟨13, true, c13⟩, ⟨14, true, c14⟩, ⟨15, true, c15⟩, ⟨16, true, c16⟩]
theorem g4 [Inp] : GOk Try.prog G4 := GOk.cons Run.c11_ok (GOk.cons c12_ok (GOk.cons c13_ok (GOk.cons c14_ok (GOk.cons c15_ok (GOk.cons c16_ok (g0 _))))))
theorem strB_bV {w : List Int} {K : SV → Prop} : strK (bytesV (bL w)) K = K (.v (.string (strB w))) := by
  rw [bytesV_bL]
  rfl
theorem at_end0 {α : Type} {l : List α} {a : α} : (l ++ [a])[l.length]? = some a := by simp
theorem set_end0 {α : Type} {l : List α} {a b : α} : (l ++ [a]).set l.length b = l ++ [b] := by
  rw [List.set_append_right _ _ (Nat.le_refl _)]
  simp
theorem at_end1 {α : Type} {l : List α} {a b : α} : (l ++ [a] ++ [b])[l.length]? = some a := by simp
theorem bL_takeL {T : List Int} : (bL T).take T.length = bL T := by
  rw [← bL_len T]
  exact List.take_length
theorem bL_take {T : List Int} {h : Nat} : (bL T).take h = bL (T.take h) := by
  unfold bL
  rw [List.map_take]
theorem bL_over {xs : List Int} {i : Nat} {y : Int} (h : i < xs.length) : over (bL xs) i [.v (.int .u8 y)] = bL (xs.set i y) := by
  unfold over bL
  rw [List.set_eq_take_append_cons_drop, if_pos h]
  simp
theorem bL_app {a b : List Int} : bL a ++ bL b = bL (a ++ b) := by
  unfold bL
  rw [List.map_append]
theorem slOf_one [Inp] {m : Mem} {z : Nat} {s : SV} {x : Nat × List SV} (h : slOf m z s = some x) : s.one = true := by
  unfold slOf at h
  split at h <;> first | rfl | cases h
theorem u8_in (x : Int) : 0 ≤ IntKind.u8.wrap x ∧ IntKind.u8.wrap x ≤ 255 := by
  have h : IntKind.u8.wrap x = x % 256 := by
    unfold IntKind.wrap
    rw [if_neg (by simp [IntKind.signed])]
    rfl
  rw [h]
  omega
theorem Byt.set {T : List Int} (h : Byt T) (i : Nat) {y : Int} (h0 : 0 ≤ y) (h1 : y ≤ 255) : Byt (T.set i y) := fun x hx => by
  rcases List.mem_or_eq_of_mem_set hx with hx | rfl
  · exact h x hx
  · exact ⟨h0, h1⟩
theorem rdB_pre [Inp] {m : Mem} {j n : Nat} {L B : List Int} (hm : m[j]? = some ⟨true, bL L⟩) (hn : n ≤ L.length) (hB : L.take n = B) : rdB m (.row j 0 n 1) = some B := by
  unfold rdB
  simp only [slOf, hm, if_true, Nat.zero_add, Nat.mul_one, List.drop_zero]
  rw [if_pos (by rw [bL_len]; exact hn), bL_take, hB]
  exact decB_bL
theorem c4_ok [I : Inp] : Contract Try.prog 4 true c4 := by
  refine .readG fn4 (G := fun J => @G4 J) (fun J => @g4 J) _ fun args m k h => ?_
  obtain ⟨s1, g1, bs1, a, y, cu, pm, nm, cm, more, rfl, h1, hb1, ha, hcu, hmore, rfl, hmx, hmb, hk⟩ := h
  refine ⟨by simp, fun J hJ K hK us hus => ?_⟩
  obtain ⟨u, t1, rfl, hk1, u2, t2, rfl, hk2, u3, t3, rfl, hk3, u4, t4, rfl, hk4, u5, t5, rfl, hk5, rfl⟩ := hus
  obtain ⟨p, c, xs, e1, rfl, hin, hx0⟩ := pic_kn hK h1 hk1
  obtain rfl := hK.v _ _ hk2
  obtain rfl := hK.v _ _ hk3
  obtain rfl := hK.v _ _ hk4
  obtain rfl := hK.v _ _ hk5
  have hmi := hK.inp _ _ _ hmore
  simp only [List.map_cons, List.map_nil, e1]
  have P1 : ∀ m', picS m' (.agg [.v (.int .i64 g1.ch), .v (.int .i64 g1.di), .v (.int .i64 g1.bl), .v (.int .i64 g1.pa), .v (.slice p xs.length c)]) g1 (xs.map Bi.b) := fun m' => pic_plain m' hin hx0
  unfold Ge.sv
  have hb2 : ∀ b ∈ xs.map Bi.b, b.pages.length ≤ 140737488355328 := fun b hb => (hb1.2 b hb).1
  simp (maxSteps := 2000000) -implicitDefEqProofs only [↓x4, ↓r4, ↓G4, ↓Run.c11, ↓c12, s_alt, s_alt20, s_alt2t, s_alt2f, ↓s_loopi, ↓v_pq, ↓PRE, POST, CORE, Nat.reduceDiv, Nat.reduceMod, Int.reduceLT, Int.reduceLE, Int.reduceToNat, Int.reduceAdd, ↓reduceIte, Nat.reduceEqDiff, Nat.reduceAdd, Nat.reduceMul, Nat.reduceSub, Nat.reduceLeDiff, Nat.reduceLT, reduceCtorEq, if_true, eq_self, forall_const, implies_true]
  refine ⟨_, g1, _, rfl, P1 _, hb1.1, hb1.2, fun r1 hr1 => ?_⟩
  cases r1 with
  | false =>
    simp (maxSteps := 2000000) -implicitDefEqProofs only [s_alt, s_alt20, s_alt2t, s_alt2f, ↓s_loopi, ↓v_pq, ↓PRE, POST, CORE, Nat.reduceDiv, Nat.reduceMod, Int.reduceLT, Int.reduceLE, Int.reduceToNat, Int.reduceAdd, ↓reduceIte, Nat.reduceEqDiff, Nat.reduceAdd, Nat.reduceMul, Nat.reduceSub, Nat.reduceLeDiff, Nat.reduceLT, reduceCtorEq, if_true, eq_self, forall_const, implies_true]
    exact hk
  | true =>
  simp (maxSteps := 2000000) -implicitDefEqProofs only [↓G4, ↓c14, s_alt, s_alt20, s_alt2t, s_alt2f, ↓s_loopi, ↓v_pq, ↓PRE, POST, CORE, Nat.reduceDiv, Nat.reduceMod, Int.reduceLT, Int.reduceLE, Int.reduceToNat, Int.reduceAdd, ↓reduceIte, Nat.reduceEqDiff, Nat.reduceAdd, Nat.reduceMul, Nat.reduceSub, Nat.reduceLeDiff, Nat.reduceLT, reduceCtorEq, if_true, eq_self, forall_const, implies_true]
  refine ⟨_, g1, _, rfl, P1 _, hb1.1, hb2, ?_⟩
  cases hm : mayF g1 (xs.map Bi.b) with
  | false =>
    simp (maxSteps := 2000000) -implicitDefEqProofs only [s_alt, s_alt20, s_alt2t, s_alt2f, ↓s_loopi, ↓v_pq, ↓PRE, POST, CORE, Nat.reduceDiv, Nat.reduceMod, Int.reduceLT, Int.reduceLE, Int.reduceToNat, Int.reduceAdd, ↓reduceIte, Nat.reduceEqDiff, Nat.reduceAdd, Nat.reduceMul, Nat.reduceSub, Nat.reduceLeDiff, Nat.reduceLT, reduceCtorEq, if_true, eq_self, forall_const, implies_true]
    exact hk
  | true =>
  by_cases h20 : (20 : Int) < (more.length : Int)
  · simp (maxSteps := 2000000) -implicitDefEqProofs only [h20, s_alt, s_alt20, s_alt2t, s_alt2f, ↓s_loopi, ↓v_pq, ↓PRE, POST, CORE, Nat.reduceDiv, Nat.reduceMod, Int.reduceLT, Int.reduceLE, Int.reduceToNat, Int.reduceAdd, ↓reduceIte, Nat.reduceEqDiff, Nat.reduceAdd, Nat.reduceMul, Nat.reduceSub, Nat.reduceLeDiff, Nat.reduceLT, reduceCtorEq, if_true, eq_self, forall_const, implies_true]
    exact hk
  simp (maxSteps := 2000000) -implicitDefEqProofs only [h20, ↓G4, ↓c16, s_alt, s_alt20, s_alt2t, s_alt2f, ↓s_loopi, ↓v_pq, ↓PRE, POST, CORE, Nat.reduceDiv, Nat.reduceMod, Int.reduceLT, Int.reduceLE, Int.reduceToNat, Int.reduceAdd, ↓reduceIte, Nat.reduceEqDiff, Nat.reduceAdd, Nat.reduceMul, Nat.reduceSub, Nat.reduceLeDiff, Nat.reduceLT, reduceCtorEq, if_true, eq_self, forall_const, implies_true]
  refine ⟨_, g1, _, rfl, P1 _, hm, ?_⟩
  have hlen := told_len hm
  have hpos := @told_pos g1 (xs.map Bi.b)
  have hbyt := @told_byt g1 (xs.map Bi.b)
  obtain ⟨T, hT⟩ : ∃ T, T = toldF smF g1 (xs.map Bi.b) := ⟨_, rfl⟩
  rw [← hT] at hlen hpos hbyt ⊢
  clear hT
  obtain ⟨iN, hi, hiT⟩ : ∃ iN : Nat, a.tmod (T.length : Int) = (iN : Int) ∧ iN < T.length := by
    have h0 := Int.tmod_nonneg (T.length : Int) ha.1
    have h2 := Int.tmod_lt_of_pos a (b := (T.length : Int)) (by omega)
    exact ⟨(a.tmod (T.length : Int)).toNat, by omega, by omega⟩
  obtain ⟨cN, hc, hcT⟩ : ∃ cN : Nat, cu.tmod ((T.length : Int) + 1) = (cN : Int) ∧ cN ≤ T.length := by
    have h0 := Int.tmod_nonneg ((T.length : Int) + 1) hcu.1
    have h2 := Int.tmod_lt_of_pos cu (b := (T.length : Int) + 1) (by omega)
    exact ⟨(cu.tmod ((T.length : Int) + 1)).toNat, by omega, by omega⟩
  have w1 : IntKind.i64.wrap a = a := Sz.w_64 (by omega) (by omega)
  have w2 : IntKind.i64.wrap cu = cu := Sz.w_64 (by omega) (by omega)
  have w3 : IntKind.i64.wrap ((T.length : Int) + 1) = (T.length : Int) + 1 := Sz.w_64 (by omega) (by omega)
  obtain ⟨hN, hhN, hhT⟩ : ∃ hN : Nat, (T.length : Int) - (cN : Int) = (hN : Int) ∧ hN ≤ T.length := ⟨T.length - cN, by omega, by omega⟩
  have w4 : IntKind.i64.wrap (hN : Int) = (hN : Int) := Sz.w_64 (by omega) (by omega)
  have k0 : ¬ (T.length : Int) = 0 := by omega
  have k1 : ¬ (T.length : Int) + 1 = 0 := by omega
  have k2 : (0 : Int) ≤ (iN : Int) := by omega
  have k3 : (iN : Int) < (T.length : Int) := by omega
  have k4 : (0 : Int) ≤ (hN : Int) := by omega
  obtain ⟨x, hx⟩ : ∃ x, T[iN]? = some x := ⟨_, List.getElem?_eq_getElem hiT⟩
  have hxb : (bL T)[iN]? = some (.v (.int .u8 x)) := by unfold bL; rw [List.getElem?_map, hx]; rfl
  obtain ⟨z, hz⟩ : ∃ z, z = IntKind.u8.wrap ((BitVec.ofInt IntKind.u8.bits x ^^^ BitVec.ofInt IntKind.u8.bits y).toNat : Int) := ⟨_, rfl⟩
  have hzb : 0 ≤ z ∧ z ≤ 255 := by rw [hz]; exact u8_in _
  have hov := bL_over (y := z) hiT
  have hTs : Byt (T.set iN z) := hbyt.set iN hzb.1 hzb.2
  have hTl : (T.set iN z).length = T.length := List.length_set ..
  have k5 : hN ≤ (T.set iN z).length := by omega
  have k6 : (T.length : Int) ≠ 0 := k0
  have k7 : (T.length : Int) + 1 ≠ 0 := k1
  have k8 : hN ≤ T.length := hhT
  have k9 : iN + 1 ≤ T.length := hiT
  by_cases m0 : more = []
  · subst m0
    obtain ⟨B, hB⟩ : ∃ B, B = (T.set iN z).take hN := ⟨_, rfl⟩
    have hBl : B.length = hN := by rw [hB, List.length_take]; omega
    have hBb : Byt B := by rw [hB]; exact hTs.take hN
    have hBt : (T.set iN z).take hN = B := hB.symm
    have l0 : inpL pm 0 = some ([].map (Value.int .u8)) := hmi
    simp (maxSteps := 2000000) -implicitDefEqProofs only [hi, hc, w1, w2, w3, hhN, w4, k0, k1, k2, k3, k4, k5, k6, k7, k8, k9, hxb, ← hz, hov, bL_len, Nat.sub_zero, true_or, l0, bL_fold, bL_take, ↓G4, ↓c15, s_alt, s_alt20, s_alt2t, s_alt2f, ↓s_loopi, ↓v_pq, ↓PRE, POST, CORE, Nat.reduceDiv, Nat.reduceMod, Int.reduceLT, Int.reduceLE, Int.reduceToNat, Int.reduceAdd, ↓reduceIte, Nat.reduceEqDiff, Nat.reduceAdd, Nat.reduceMul, Nat.reduceSub, Nat.reduceLeDiff, Nat.reduceLT, reduceCtorEq, if_true, eq_self, forall_const, implies_true]
    refine ⟨k6, k7, Nat.zero_le _, ?_⟩
    refine ⟨_, B, rfl, rdB_pre rfl k5 hBt, by omega, hBb, .inl ⟨_, _, _, _, rfl⟩, ?_, ?_⟩
    · intro he
      rcases parse_err smF (b := B) with h0 | h0 | h0
      · exact (he h0).elim
      · rw [h0]
        exact hk
      · rw [h0]
        exact hk
    · intro he s m2 hp
      obtain ⟨g, bs, hpf⟩ : ∃ g bs, parseF smF B = (g, bs, 0) := ⟨(parseF smF B).1, (parseF smF B).2.1, by rw [← he]⟩
      rw [hpf] at hp
      obtain ⟨hTB, hmF⟩ := told_parse smF hBb hpf
      have hl64 := (may_len hmF).1
      have hpl : ∀ b ∈ bs, b.pages.length ≤ 140737488355328 := fun b hb => by have := (may_len hmF).2 b hb; omega
      obtain ⟨r, cells, rfl, hp1, hp2⟩ := hp
      have hgs : g.sv ++ [r] = [.v (.int .i64 g.ch), .v (.int .i64 g.di), .v (.int .i64 g.bl), .v (.int .i64 g.pa), r] := rfl
      have hro : r.one = true := slOf_one hp1
      have hp : picS ([⟨true, [.v (.int .i64 g1.ch), .v (.int .i64 g1.di), .v (.int .i64 g1.bl), .v (.int .i64 g1.pa), .v (.slice p xs.length c)]⟩, ⟨true, bL (T.set iN z)⟩] ++ m2) (.agg [.v (.int .i64 g.ch), .v (.int .i64 g.di), .v (.int .i64 g.bl), .v (.int .i64 g.pa), r]) g bs := ⟨r, cells, rfl, hp1, hp2⟩
      simp (maxSteps := 2000000) -implicitDefEqProofs only [hgs, hro, at_end0, set_end0, beq_self_eq_true, ↓G4, ↓c13, s_alt, s_alt20, s_alt2t, s_alt2f, ↓s_loopi, ↓v_pq, ↓PRE, POST, CORE, Nat.reduceDiv, Nat.reduceMod, Int.reduceLT, Int.reduceLE, Int.reduceToNat, Int.reduceAdd, ↓reduceIte, Nat.reduceEqDiff, Nat.reduceAdd, Nat.reduceMul, Nat.reduceSub, Nat.reduceLeDiff, Nat.reduceLT, reduceCtorEq, if_true, eq_self, forall_const, implies_true]
      refine ⟨_, g, _, rfl, picS_app hp, by omega, hpl, ?_⟩
      rw [if_pos hmF, ← hTB]
      simp (maxSteps := 2000000) -implicitDefEqProofs only [at_end0, at_end1, beq_self_eq_true, bL_len, bL_takeL, bL_take, Nat.sub_zero, k5, hBt, List.take_length, strB_bV, ↓G4, ↓c14, s_alt, s_alt20, s_alt2t, s_alt2f, ↓s_loopi, ↓v_pq, ↓PRE, POST, CORE, Nat.reduceDiv, Nat.reduceMod, Int.reduceLT, Int.reduceLE, Int.reduceToNat, Int.reduceAdd, ↓reduceIte, Nat.reduceEqDiff, Nat.reduceAdd, Nat.reduceMul, Nat.reduceSub, Nat.reduceLeDiff, Nat.reduceLT, reduceCtorEq, if_true, eq_self, forall_const, implies_true]
      refine ⟨_, g, _, rfl, picS_app (picS_app hp), by omega, hpl, ?_⟩
      rw [hmF]
      try simp (maxSteps := 2000000) -implicitDefEqProofs only [s_alt, s_alt20, s_alt2t, s_alt2f, ↓s_loopi, ↓v_pq, ↓PRE, POST, CORE, Nat.reduceDiv, Nat.reduceMod, Int.reduceLT, Int.reduceLE, Int.reduceToNat, Int.reduceAdd, ↓reduceIte, Nat.reduceEqDiff, Nat.reduceAdd, Nat.reduceMul, Nat.reduceSub, Nat.reduceLeDiff, Nat.reduceLT, reduceCtorEq, if_true, eq_self, forall_const, implies_true]
      exact hk
  · have m1 : ¬ more.length = 0 := fun h => m0 (List.length_eq_zero_iff.1 h)
    have m2 : 0 < more.length := by omega
    have m3 : hN + more.length ≤ maxLen := by unfold maxLen; omega
    have m4 : hN + more.length ≤ 140737488355328 := by omega
    obtain ⟨B, hB⟩ : ∃ B, B = (T.set iN z).take hN ++ more := ⟨_, rfl⟩
    have hBl : hN + more.length = B.length := by rw [hB, List.length_append, List.length_take]; omega
    have hBb : Byt B := by rw [hB]; exact (hTs.take hN).app hmb
    have hBt : (T.set iN z).take hN ++ more = B := hB.symm
    have k10 : ((T.set iN z).take hN).length = hN := by rw [List.length_take]; omega
    simp (maxSteps := 2000000) -implicitDefEqProofs only [hi, hc, w1, w2, w3, hhN, w4, k0, k1, k2, k3, k4, k5, k6, k7, k8, k9, hxb, ← hz, hov, bL_len, Nat.sub_zero, true_or, hmi, bL_fold, bL_take, m1, m2, m3, m4, k10, bL_one, bL_app, hBt, hBl, ↓G4, ↓c15, s_alt, s_alt20, s_alt2t, s_alt2f, ↓s_loopi, ↓v_pq, ↓PRE, POST, CORE, Nat.reduceDiv, Nat.reduceMod, Int.reduceLT, Int.reduceLE, Int.reduceToNat, Int.reduceAdd, ↓reduceIte, Nat.reduceEqDiff, Nat.reduceAdd, Nat.reduceMul, Nat.reduceSub, Nat.reduceLeDiff, Nat.reduceLT, reduceCtorEq, if_true, eq_self, forall_const, implies_true]
    refine ⟨k6, k7, Nat.zero_le _, ⟨by unfold maxLen; omega, by omega⟩, ?_⟩
    refine ⟨_, B, rfl, rdB_row rfl rfl, by omega, hBb, .inl ⟨_, _, _, _, rfl⟩, ?_, ?_⟩
    · intro he
      rcases parse_err smF (b := B) with h0 | h0 | h0
      · exact (he h0).elim
      · rw [h0]
        exact hk
      · rw [h0]
        exact hk
    · intro he s m2 hp
      obtain ⟨g, bs, hpf⟩ : ∃ g bs, parseF smF B = (g, bs, 0) := ⟨(parseF smF B).1, (parseF smF B).2.1, by rw [← he]⟩
      rw [hpf] at hp
      obtain ⟨hTB, hmF⟩ := told_parse smF hBb hpf
      have hl64 := (may_len hmF).1
      have hpl : ∀ b ∈ bs, b.pages.length ≤ 140737488355328 := fun b hb => by have := (may_len hmF).2 b hb; omega
      obtain ⟨r, cells, rfl, hp1, hp2⟩ := hp
      have hgs : g.sv ++ [r] = [.v (.int .i64 g.ch), .v (.int .i64 g.di), .v (.int .i64 g.bl), .v (.int .i64 g.pa), r] := rfl
      have hro : r.one = true := slOf_one hp1
      have hp : picS ([⟨true, [.v (.int .i64 g1.ch), .v (.int .i64 g1.di), .v (.int .i64 g1.bl), .v (.int .i64 g1.pa), .v (.slice p xs.length c)]⟩, ⟨false, []⟩, ⟨true, bL B⟩] ++ m2) (.agg [.v (.int .i64 g.ch), .v (.int .i64 g.di), .v (.int .i64 g.bl), .v (.int .i64 g.pa), r]) g bs := ⟨r, cells, rfl, hp1, hp2⟩
      simp (maxSteps := 2000000) -implicitDefEqProofs only [hgs, hro, at_end0, set_end0, beq_self_eq_true, ↓G4, ↓c13, s_alt, s_alt20, s_alt2t, s_alt2f, ↓s_loopi, ↓v_pq, ↓PRE, POST, CORE, Nat.reduceDiv, Nat.reduceMod, Int.reduceLT, Int.reduceLE, Int.reduceToNat, Int.reduceAdd, ↓reduceIte, Nat.reduceEqDiff, Nat.reduceAdd, Nat.reduceMul, Nat.reduceSub, Nat.reduceLeDiff, Nat.reduceLT, reduceCtorEq, if_true, eq_self, forall_const, implies_true]
      refine ⟨_, g, _, rfl, picS_app hp, by omega, hpl, ?_⟩
      rw [if_pos hmF, ← hTB]
      simp (maxSteps := 2000000) -implicitDefEqProofs only [at_end0, at_end1, beq_self_eq_true, bL_len, bL_takeL, bL_take, Nat.sub_zero, k5, hBt, List.take_length, strB_bV, ↓G4, ↓c14, s_alt, s_alt20, s_alt2t, s_alt2f, ↓s_loopi, ↓v_pq, ↓PRE, POST, CORE, Nat.reduceDiv, Nat.reduceMod, Int.reduceLT, Int.reduceLE, Int.reduceToNat, Int.reduceAdd, ↓reduceIte, Nat.reduceEqDiff, Nat.reduceAdd, Nat.reduceMul, Nat.reduceSub, Nat.reduceLeDiff, Nat.reduceLT, reduceCtorEq, if_true, eq_self, forall_const, implies_true]
      refine ⟨_, g, _, rfl, picS_app (picS_app hp), by omega, hpl, ?_⟩
      rw [hmF]
      try simp (maxSteps := 2000000) -implicitDefEqProofs only [s_alt, s_alt20, s_alt2t, s_alt2f, ↓s_loopi, ↓v_pq, ↓PRE, POST, CORE, Nat.reduceDiv, Nat.reduceMod, Int.reduceLT, Int.reduceLE, Int.reduceToNat, Int.reduceAdd, ↓reduceIte, Nat.reduceEqDiff, Nat.reduceAdd, Nat.reduceMul, Nat.reduceSub, Nat.reduceLeDiff, Nat.reduceLT, reduceCtorEq, if_true, eq_self, forall_const, implies_true]
      exact hk
end Go.Proofs.Ytibefgdjijmncaa
end
section
namespace Go.Proofs.Ytibefgdjijmncaa
open Go.ChangeShapes Go.WideShapes Go.ChangeAt Go.RowKit Go.Deep
theorem add_plain' (g o j : Nat) : (⟨g, o, none⟩ : Addr).add j = ⟨g, o + j, none⟩ := by unfold Addr.add; split <;> simp_all
inductive Sh where
  | nil
  | int (k : IntKind) (r : Sh)
  | bool (r : Sh)
  | str (r : Sh)
  | sl (e : Sh) (r : Sh)
def Sh.len : Sh → Nat
  | .nil => 0
  | .int _ r | .bool r | .str r | .sl _ r => r.len + 1
def Sh.app : Sh → Sh → Sh
  | .nil, b => b
  | .int k r, b => .int k (r.app b)
  | .bool r, b => .bool (r.app b)
  | .str r, b => .str (r.app b)
  | .sl e r, b => .sl e (r.app b)
def Sh.rep (a : Sh) : Nat → Sh
  | 0 => .nil
  | n + 1 => a.app (a.rep n)
def SlFits (w : World) (v : Value) (sz : Nat) (F : List Value → Prop) : Prop :=
  ∃ A n c, v = .slice A n c ∧ n ≤ c ∧ c ≤ maxLen ∧ (A = none → c = 0) ∧
    ∀ a, A = some a → ∀ i, i < n → ∃ cs : List Value, cs.length = sz ∧ (∀ j u, cs[j]? = some u → w.cell? ((a.add (i * sz)).add j) = some u) ∧ F cs
def Sh.fits (w : World) : Sh → List Value → Prop
  | .nil, cs => cs = []
  | .int k r, cs => ∃ n cs', cs = .int k n :: cs' ∧ (Lit.int k n).wf = true ∧ r.fits w cs'
  | .bool r, cs => ∃ b cs', cs = .bool b :: cs' ∧ r.fits w cs'
  | .str r, cs => ∃ s cs', cs = .string s :: cs' ∧ s.size ≤ maxLen ∧ r.fits w cs'
  | .sl e r, cs => ∃ v cs', cs = v :: cs' ∧ SlFits w v e.len (e.fits w) ∧ r.fits w cs'
theorem Sh.fits_len {w : World} : ∀ {s : Sh} {cs : List Value}, s.fits w cs → cs.length = s.len
  | .nil, cs, h => by simp only [Sh.fits] at h; simp [h, Sh.len]
  | .int k r, cs, h => by obtain ⟨n, cs', rfl, _, h'⟩ := h; simp [Sh.len, Sh.fits_len h']
  | .bool r, cs, h => by obtain ⟨n, cs', rfl, h'⟩ := h; simp [Sh.len, Sh.fits_len h']
  | .str r, cs, h => by obtain ⟨n, cs', rfl, _, h'⟩ := h; simp [Sh.len, Sh.fits_len h']
  | .sl e r, cs, h => by obtain ⟨n, cs', rfl, _, h'⟩ := h; simp [Sh.len, Sh.fits_len h']
theorem Sh.fits_app {w : World} {b : Sh} {ds : List Value} (hb : b.fits w ds) : ∀ {a : Sh} {cs : List Value}, a.fits w cs → (a.app b).fits w (cs ++ ds)
  | .nil, cs, h => by simp only [Sh.fits] at h; subst h; simpa [Sh.app] using hb
  | .int k r, cs, h => by obtain ⟨n, cs', rfl, h1, h'⟩ := h; exact ⟨n, cs' ++ ds, rfl, h1, Sh.fits_app hb h'⟩
  | .bool r, cs, h => by obtain ⟨n, cs', rfl, h'⟩ := h; exact ⟨n, cs' ++ ds, rfl, Sh.fits_app hb h'⟩
  | .str r, cs, h => by obtain ⟨n, cs', rfl, h1, h'⟩ := h; exact ⟨n, cs' ++ ds, rfl, h1, Sh.fits_app hb h'⟩
  | .sl e r, cs, h => by obtain ⟨n, cs', rfl, h1, h'⟩ := h; exact ⟨n, cs' ++ ds, rfl, h1, Sh.fits_app hb h'⟩
theorem Sh.app_len : ∀ {a b : Sh}, (a.app b).len = a.len + b.len
  | .nil, b => by simp [Sh.app, Sh.len]
  | .int k r, b => by simp [Sh.app, Sh.len, Sh.app_len (a := r)]; omega
  | .bool r, b => by simp [Sh.app, Sh.len, Sh.app_len (a := r)]; omega
  | .str r, b => by simp [Sh.app, Sh.len, Sh.app_len (a := r)]; omega
  | .sl e r, b => by simp [Sh.app, Sh.len, Sh.app_len (a := r)]; omega
section
variable (P : Program)
def shFields (one : TypeId → Option Sh) : Nat → List Field → Option Sh
  | _, [] => some .nil
  | off, f :: fs => (one f.type).bind fun a => if f.offset = off ∧ P.cellsOf f.type = a.len then (shFields one (off + a.len) fs).map (a.app ·) else none
def shOf : Nat → TypeId → Option Sh
  | 0, _ => none
  | n + 1, t => match P.underlying t with
    | some .bool => some (.bool .nil)
    | some (.int k) => some (.int k .nil)
    | some .string => some (.str .nil)
    | some (.slice e) => (shOf n e).bind fun a => if P.cellsOf e = a.len then some (.sl a .nil) else none
    | some (.struct fs) => (shFields P (shOf n) 0 fs.toList).bind fun a => if P.cellsOf t = a.len then some a else none
    | some (.array k e) => (shOf n e).bind fun a => if P.cellsOf e = a.len ∧ P.cellsOf t = k * a.len then some (a.rep k) else none
    | _ => none
end
section
variable {P : Program} {H : Type} {enc : TypeId × Value → H} {w : World} {base : Nat} {spare : Nat → Bool} {held : Bool}
def isAggT (P : Program) (t : TypeId) : Bool := match P.underlying t with
  | some (.struct _) | some (.array _ _) => true
  | _ => false
end
theorem sl_open {w : World} {v : Value} {sz : Nat} {F : List Value → Prop} (h : SlFits w v sz F) (hsz : 0 < sz) :
    ∃ A n c, v = .slice A n c ∧ n ≤ c ∧ c ≤ maxLen ∧ (n = 0 ∨ ∃ g o, A = some ⟨g, o, none⟩ ∧ ∀ i, i < n → ∃ cs : List Value, cs.length = sz ∧ (∀ j u, cs[j]? = some u → w.cell? ⟨g, o + i * sz + j, none⟩ = some u) ∧ F cs) := by
  obtain ⟨A, n, c, rfl, hn, hc, hA, hcell⟩ := h
  refine ⟨A, n, c, rfl, hn, hc, ?_⟩
  rcases Nat.eq_zero_or_pos n with h0 | h0
  · exact .inl h0
  · right
    cases A with
    | none => have := hA rfl; omega
    | some a =>
      obtain ⟨g, o, spot⟩ := a
      obtain ⟨cs, hl, hg, _⟩ := hcell _ rfl 0 h0
      obtain ⟨x, hx⟩ : ∃ x, cs[0]? = some x := ⟨_, List.getElem?_eq_getElem (by omega)⟩
      have hc0 := hg 0 x hx
      have hspot : spot = Option.none := by simpa [Addr.add] using World.cell?_spot hc0
      subst hspot
      refine ⟨g, o, rfl, fun i hi => ?_⟩
      obtain ⟨cs, hl, hg, hF⟩ := hcell _ rfl i hi
      refine ⟨cs, hl, fun j u hj => ?_, hF⟩
      have := hg j u hj
      rwa [add_plain', add_plain'] at this
theorem list_of {α : Type} {p : Nat → α → Prop} : ∀ (n : Nat), (∀ i, i < n → ∃ x, p i x) → ∃ l : List α, l.length = n ∧ ∀ i x, l[i]? = some x → p i x
  | 0, _ => ⟨[], rfl, fun i x h => by simp at h⟩
  | n + 1, h => by
    obtain ⟨l, hl, hp⟩ := list_of n (fun i hi => h i (by omega))
    obtain ⟨x, hx⟩ := h n (by omega)
    refine ⟨l ++ [x], by simp [hl], fun i y hy => ?_⟩
    rcases Nat.lt_or_ge i n with hi | hi
    · rw [List.getElem?_append_left (by omega)] at hy; exact hp i y hy
    · rw [List.getElem?_append_right (by omega)] at hy
      have : i - l.length = 0 := by
        rcases Nat.eq_zero_or_pos (i - l.length) with h | h
        · exact h
        · rw [List.getElem?_eq_none (by simp; omega)] at hy; cases hy
      rw [this] at hy
      simp at hy
      subst hy
      have : i = n := by omega
      subst this; exact hx
theorem wf_bounds_u8 {n : Int} (h : (Lit.int .u8 n).wf = true) : 0 ≤ n ∧ n ≤ 255 := by
  simpa [Lit.wf, IntKind.min, IntKind.max, IntKind.signed, IntKind.bits] using h
end Go.Proofs.Ytibefgdjijmncaa
end
section
namespace Go.Proofs.Ytibefgdjijmncaa.Sz
open Go.RowKit
theorem rowV_get {α : Type} {cs : α → List Value} {z : Nat} (hz : ∀ x, (cs x).length = z) (h0 : 0 < z) : ∀ {l : List α} {j : Nat} {u : Value}, (rowV cs l)[j]? = some u → ∃ x, l[j / z]? = some x ∧ (cs x)[j % z]? = some u
  | [], j, u, h => by simp [rowV] at h
  | x :: l, j, u, h => by
    have e : rowV cs (x :: l) = cs x ++ rowV cs l := rfl
    rw [e] at h
    by_cases hj : j < z
    · rw [List.getElem?_append_left (by rw [hz]; exact hj)] at h
      exact ⟨x, by rw [Nat.div_eq_of_lt hj]; rfl, by rw [Nat.mod_eq_of_lt hj]; exact h⟩
    · rw [List.getElem?_append_right (by rw [hz]; omega), hz] at h
      obtain ⟨y, h1, h2⟩ := rowV_get hz h0 h
      refine ⟨y, ?_, ?_⟩
      · rw [Nat.div_eq_sub_div h0 (by omega)]
        simpa using h1
      · rw [Nat.mod_eq_sub_mod (by omega)]; exact h2
theorem rows_of_sl {α : Type} {cs : α → List Value} {z : Nat} (hz : ∀ x, (cs x).length = z) (h0 : 0 < z) {W : World} {v : Value} {F : List Value → Prop} {Q : α → Prop} (h : SlFits W v z F) (hF : ∀ l, F l → ∃ x, cs x = l ∧ Q x) :
    ∃ A n c l, v = .slice A n c ∧ n ≤ c ∧ c ≤ 9223372036854775807 ∧ l.length = n ∧ (∀ x ∈ l, Q x) ∧ @inpL (inpOf W) A (n * z) = some (rowV cs l) := by
  obtain ⟨A, n, c, rfl, hn, hc, hh⟩ := sl_open h h0
  have hc' : c ≤ 9223372036854775807 := by simpa [maxLen] using hc
  rcases hh with rfl | ⟨g, o, rfl, hcell⟩
  · exact ⟨A, 0, c, [], rfl, hn, hc', rfl, by simp, by simp [inpL, rowV]⟩
  · obtain ⟨l, hl, hp⟩ := list_of (p := fun i x => Q x ∧ ∀ j u, (cs x)[j]? = some u → W.cell? ⟨g, o + i * z + j, none⟩ = some u) n (fun i hi => by
      obtain ⟨us, _, h1, h2⟩ := hcell i hi
      obtain ⟨x, rfl, hq⟩ := hF us h2
      exact ⟨x, hq, h1⟩)
    refine ⟨_, n, c, l, rfl, hn, hc', hl, fun x hx => ?_, inpL_of (I := inpOf W) (by rw [rowV_len hz, hl]) fun _ => ⟨_, rfl, rfl, fun j u hj => ?_⟩⟩
    · obtain ⟨i, hi⟩ := List.getElem?_of_mem hx
      exact (hp i x hi).1
    · obtain ⟨x, h1, h2⟩ := rowV_get hz h0 hj
      have := (hp _ x h1).2 _ u h2
      show W.cell? ((⟨g, o, none⟩ : Addr).add j) = some u
      rw [Addr.add_lit]
      have e : o + j / z * z + j % z = o + j := by rw [Nat.add_assoc, Nat.mul_comm, Nat.div_add_mod]
      rwa [e] at this
end Go.Proofs.Ytibefgdjijmncaa.Sz
end
