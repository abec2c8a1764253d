/- Layer 43 (image): is a picture small? By symbolic walks. -/
import Derived.Test.YtibefgdjijmncaaIdB
namespace Go.Proofs.Ytibefgdjijmncaa
open Go.RowKit Sz
set_option linter.unusedVariables false
set_option linter.unusedSimpArgs false
set_option maxHeartbeats 4000000
set_option maxRecDepth 20000
-- almshouse/almshouselaw43.few (1 parameters)
def x12 : XC := (.seq (.tree (.seq ⟨some 1, none, (.box (.tmp 0))⟩
  (.seq ⟨some 2, none, (.ofA (.mv (.cst (.v (.bool false)))))⟩
  .done)))
 (.seq (.tree (.seq ⟨some 3, none, (.ofA (.mv (.cst (.v (.int .i64 0)))))⟩
  .done))
 (.seq (.seq (.tree (.seq ⟨some 8, none, (.ofA (.faddr 4 (.tmp 1)))⟩
  (.seq ⟨some 9, none, (.ofA (.load none (.tmp 8)))⟩
  (.seq ⟨some 10, none, (.ofA (.len (.tmp 9)))⟩
  (.seq ⟨some 11, none, (.ofA (.mv (.cst (.v (.int .i64 0)))))⟩
  .done)))))
 (.block 0 (.loop (.seq (.tree (.seq ⟨some 12, none, (.ofA (.bin .lss (.tmp 11) (.tmp 10)))⟩
  .done))
 (.seq (.cond (.tmp 12)
 .skip
 (.exit 0))
 (.seq (.block 1 (.seq (.tree (.seq ⟨some 13, none, (.ofA (.isl 3 (.tmp 9) (.tmp 11)))⟩
  (.seq ⟨some 14, none, (.ofA (.load (some 3) (.tmp 13)))⟩
  (.seq ⟨some 5, none, (.alloc [(.v (.bool false)), (.v (.int .i64 0)), (.v (.slice none 0 0))])⟩
  (.seq ⟨none, none, (.store 3 (.tmp 5) (.tmp 14))⟩
  .done)))))
 (.seq (.seq (.tree (.seq ⟨some 15, none, (.ofA (.faddr 2 (.tmp 5)))⟩
  (.seq ⟨some 16, none, (.ofA (.load none (.tmp 15)))⟩
  (.seq ⟨some 17, none, (.ofA (.len (.tmp 16)))⟩
  (.seq ⟨some 18, none, (.ofA (.mv (.cst (.v (.int .i64 0)))))⟩
  .done)))))
 (.block 2 (.loop (.seq (.tree (.seq ⟨some 19, none, (.ofA (.bin .lss (.tmp 18) (.tmp 17)))⟩
  .done))
 (.seq (.cond (.tmp 19)
 .skip
 (.exit 2))
 (.seq (.block 3 (.seq (.tree (.seq ⟨some 20, none, (.ofA (.isl 3 (.tmp 16) (.tmp 18)))⟩
  (.seq ⟨some 21, none, (.ofA (.load (some 3) (.tmp 20)))⟩
  (.seq ⟨some 7, none, (.alloc [(.v (.bool false)), (.v (.string ⟨#[]⟩)), (.v (.string ⟨#[]⟩))])⟩
  (.seq ⟨none, none, (.store 3 (.tmp 7) (.tmp 21))⟩
  .done)))))
 (.tree (.seq ⟨some 22, none, (.ofA (.mv (.tmp 3)))⟩
  (.seq ⟨some 23, none, (.ofA (.faddr 1 (.tmp 7)))⟩
  (.seq ⟨some 24, none, (.ofA (.load none (.tmp 23)))⟩
  (.seq ⟨some 25, none, (.ofA (.lens (.tmp 24)))⟩
  (.seq ⟨some 26, none, (.ofA (.faddr 2 (.tmp 7)))⟩
  (.seq ⟨some 27, none, (.ofA (.load none (.tmp 26)))⟩
  (.seq ⟨some 28, none, (.ofA (.lens (.tmp 27)))⟩
  (.seq ⟨some 29, none, (.ofA (.bin .add (.tmp 25) (.tmp 28)))⟩
  (.seq ⟨some 30, none, (.ofA (.mx false (.tmp 29) [(.cst (.v (.int .i64 10000)))]))⟩
  (.seq ⟨some 31, none, (.ofA (.bin .add (.cst (.v (.int .i64 10))) (.tmp 30)))⟩
  (.seq ⟨some 32, none, (.ofA (.bin .add (.tmp 22) (.tmp 31)))⟩
  (.seq ⟨some 3, none, (.ofA (.mv (.tmp 32)))⟩
  .done)))))))))))))))
 (.tree (.seq ⟨some 33, none, (.ofA (.bin .add (.tmp 18) (.cst (.v (.int .i64 1)))))⟩
  (.seq ⟨some 18, none, (.ofA (.mv (.tmp 33)))⟩
  .done)))))))))
 (.seq (.tree (.seq ⟨some 34, none, (.ofA (.mv (.tmp 3)))⟩
  (.seq ⟨some 35, none, (.ofA (.bin .add (.tmp 34) (.cst (.v (.int .i64 10)))))⟩
  (.seq ⟨some 3, none, (.ofA (.mv (.tmp 35)))⟩
  .done))))
 (.seq (.tree (.seq ⟨some 36, none, (.ofA (.mv (.tmp 3)))⟩
  (.seq ⟨some 37, none, (.ofA (.bin .gtr (.tmp 36) (.cst (.v (.int .i64 6000)))))⟩
  .done)))
 (.cond (.tmp 37)
 (.seq (.tree (.seq ⟨some 2, none, (.ofA (.mv (.cst (.v (.bool false)))))⟩
  .done))
 .ret)
 .skip))))))
 (.tree (.seq ⟨some 38, none, (.ofA (.bin .add (.tmp 11) (.cst (.v (.int .i64 1)))))⟩
  (.seq ⟨some 11, none, (.ofA (.mv (.tmp 38)))⟩
  .done)))))))))
 (.seq (.tree (.seq ⟨some 2, none, (.ofA (.mv (.cst (.v (.bool true)))))⟩
  .done))
 .ret))))
def r12 : List XR := [.tmp 2]
theorem fn12 : FnX Try.prog 12 [] 39 x12 r12 := ⟨_, Try.func12, by kernel_rfl, by kernel_rfl, by kernel_rfl, by kernel_rfl⟩

def c12 [Inp] : Trans := fun args m k => ∃ s g bs, args = [s] ∧ picS m s g bs ∧ bs.length ≤ 140737488355328 ∧ (∀ b ∈ bs, b.pages.length ≤ 140737488355328 ∧ ∀ x ∈ b.pages, x.beside.size ≤ 140737488355328 ∧ x.data.size ≤ 140737488355328) ∧ ∀ r : Bool, (r = true → bs.length ≤ 600) → k (.v (.bool r)) m
theorem c12_ok [I : Inp] : Contract Try.prog 12 true c12 := by
  refine .readG fn12 (G := fun J => []) (fun J => @g0 J _) _ fun args m k h => ?_
  obtain ⟨s, g, bs, rfl, h1, hn, hpn, hk⟩ := h
  refine ⟨by simp, fun J hJ K hK us hus => ?_⟩
  obtain ⟨u, t1, rfl, hk1, rfl⟩ := hus
  obtain ⟨p, c, xs, e1, rfl, hin, hx0⟩ := pic_kn hK h1 hk1
  rw [List.map_cons, e1, List.map_nil]
  rw [List.length_map] at hn hk
  have hitem : ∀ (i : Nat) (x : Bi), xs[i]? = some x → inpL (plusA p (i * 3)) 3 = some x.cs := fun i x hx => inp_item Bi.len hin rfl hx
  unfold Ge.sv
  simp (maxSteps := 2000000) -implicitDefEqProofs only [↓x12, ↓r12, Sz.s_alt, Sz.s_alt20, Sz.s_alt2t, Sz.s_alt2f, ↓Sz.s_loopi, ↓Sz.v_pq, ↓Sz.PRE, Sz.POST, Sz.CORE, Nat.reduceDiv, Nat.reduceMod, Int.reduceLT, Int.reduceLE, Int.reduceToNat, Int.reduceAdd, ↓reduceIte, Nat.reduceEqDiff, Nat.reduceAdd, Nat.reduceMul, Nat.reduceSub, Nat.reduceLeDiff, Nat.reduceLT, reduceCtorEq, if_true, eq_self, forall_const, implies_true]
  refine TXi_of (TX_countS (g0 _) xs.length (σ := Int) (fun x s => [(1, .ptr 0 0), (3, .v (.int .i64 s)), (9, .v (.slice p xs.length c)), (10, .v (.int .i64 (xs.length : Int))), (11, .v (.int .i64 (x : Int)))]) (fun x s => [⟨true, [.v (.int .i64 g.ch), .v (.int .i64 g.di), .v (.int .i64 g.bl), .v (.int .i64 g.pa), .v (.slice p xs.length c)]⟩]) (fun x s => 10 * (x : Int) ≤ s ∧ s ≤ 6000) 0 (by omega) ⟨[0], by simp [Sz.NdL, Sz.NdA, Sz.oO_cells, Sz.oO_own, Sz.iL_nil], by simp only [FitM, ObLe, LeL, Le, List.cons_append, List.nil_append] <;> (try (simp (maxSteps := 2000000) -implicitDefEqProofs only [Sz.s_alt, Sz.s_alt20, Sz.s_alt2t, Sz.s_alt2f, ↓Sz.s_loopi, ↓Sz.v_pq, ↓Sz.PRE, Sz.POST, Sz.CORE, Nat.reduceDiv, Nat.reduceMod, Int.reduceLT, Int.reduceLE, Int.reduceToNat, Int.reduceAdd, ↓reduceIte, Nat.reduceEqDiff, Nat.reduceAdd, Nat.reduceMul, Nat.reduceSub, Nat.reduceLeDiff, Nat.reduceLT, reduceCtorEq, if_true, eq_self, forall_const, implies_true])) <;> (try simp), by simp only [FitE, Le, LeL, List.cons_append, List.nil_append] <;> (try (simp (maxSteps := 2000000) -implicitDefEqProofs only [Sz.s_alt, Sz.s_alt20, Sz.s_alt2t, Sz.s_alt2f, ↓Sz.s_loopi, ↓Sz.v_pq, ↓Sz.PRE, Sz.POST, Sz.CORE, Nat.reduceDiv, Nat.reduceMod, Int.reduceLT, Int.reduceLE, Int.reduceToNat, Int.reduceAdd, ↓reduceIte, Nat.reduceEqDiff, Nat.reduceAdd, Nat.reduceMul, Nat.reduceSub, Nat.reduceLeDiff, Nat.reduceLT, reduceCtorEq, if_true, eq_self, forall_const, implies_true])) <;> (try simp only [Sz.Le, Sz.LeL, List.getElem?_cons_zero, List.getElem?_cons_succ]) <;> (try simp), keep0 hJ⟩ ?_ ?_)
  · intro x s hx hI
    obtain ⟨a, ha⟩ : ∃ a, xs[x]? = some a := ⟨_, List.getElem?_eq_getElem hx⟩
    have hpa := hpn a.b (List.mem_map.2 ⟨a, List.mem_of_getElem? ha, rfl⟩)
    have f : inpL (plusA p (x * 3)) 3 = some [.bool a.b.bad, .int .i64 a.b.er, .slice a.a a.b.pages.length a.c] := hitem x a ha
    have hina : inpL a.a (a.b.pages.length * 3) = some (rowV Pg.cs a.b.pages) := hx0 a (List.mem_of_getElem? ha)
    have hitem2 : ∀ (i : Nat) (y : Pg), a.b.pages[i]? = some y → inpL (plusA a.a (i * 3)) 3 = some y.cs := fun i y hy => inp_item Pg.len hina rfl hy
    have hp : p.isSome = true := inpL_isSome hin (by omega)
    have i0 : (0 : Int) ≤ (x : Int) := by omega
    have i1 : (x : Int) < (xs.length : Int) := by omega
    have w1 : IntKind.i64.wrap ((x : Int) + 1) = (x : Int) + 1 := Sz.w_64 (by omega) (by omega)
    simp (maxSteps := 2000000) -implicitDefEqProofs only [f, hp, i0, i1, w1, Sz.s_alt, Sz.s_alt20, Sz.s_alt2t, Sz.s_alt2f, ↓Sz.s_loopi, ↓Sz.v_pq, ↓Sz.PRE, Sz.POST, Sz.CORE, Nat.reduceDiv, Nat.reduceMod, Int.reduceLT, Int.reduceLE, Int.reduceToNat, Int.reduceAdd, ↓reduceIte, Nat.reduceEqDiff, Nat.reduceAdd, Nat.reduceMul, Nat.reduceSub, Nat.reduceLeDiff, Nat.reduceLT, reduceCtorEq, if_true, eq_self, forall_const, implies_true]
    refine TXi_of (TX_countS (g0 _) a.b.pages.length (σ := Int) (fun y s' => [(1, .ptr 0 0), (3, .v (.int .i64 s')), (9, .v (.slice p xs.length c)), (10, .v (.int .i64 (xs.length : Int))), (11, .v (.int .i64 (x : Int))), (16, .v (.slice a.a a.b.pages.length a.c)), (17, .v (.int .i64 (a.b.pages.length : Int))), (18, .v (.int .i64 (y : Int)))]) (fun y s' => [⟨true, [.v (.int .i64 g.ch), .v (.int .i64 g.di), .v (.int .i64 g.bl), .v (.int .i64 g.pa), .v (.slice p xs.length c)]⟩]) (fun y s' => s ≤ s' ∧ s' ≤ s + 10010 * (y : Int)) s (by omega) ⟨[0], by simp [Sz.NdL, Sz.NdA, Sz.oO_cells, Sz.oO_own, Sz.iL_nil], by simp only [FitM, ObLe, LeL, Le, List.cons_append, List.nil_append] <;> (try (simp (maxSteps := 2000000) -implicitDefEqProofs only [Sz.s_alt, Sz.s_alt20, Sz.s_alt2t, Sz.s_alt2f, ↓Sz.s_loopi, ↓Sz.v_pq, ↓Sz.PRE, Sz.POST, Sz.CORE, Nat.reduceDiv, Nat.reduceMod, Int.reduceLT, Int.reduceLE, Int.reduceToNat, Int.reduceAdd, ↓reduceIte, Nat.reduceEqDiff, Nat.reduceAdd, Nat.reduceMul, Nat.reduceSub, Nat.reduceLeDiff, Nat.reduceLT, reduceCtorEq, if_true, eq_self, forall_const, implies_true])) <;> (try simp), by simp only [FitE, Le, LeL, List.cons_append, List.nil_append] <;> (try (simp (maxSteps := 2000000) -implicitDefEqProofs only [Sz.s_alt, Sz.s_alt20, Sz.s_alt2t, Sz.s_alt2f, ↓Sz.s_loopi, ↓Sz.v_pq, ↓Sz.PRE, Sz.POST, Sz.CORE, Nat.reduceDiv, Nat.reduceMod, Int.reduceLT, Int.reduceLE, Int.reduceToNat, Int.reduceAdd, ↓reduceIte, Nat.reduceEqDiff, Nat.reduceAdd, Nat.reduceMul, Nat.reduceSub, Nat.reduceLeDiff, Nat.reduceLT, reduceCtorEq, if_true, eq_self, forall_const, implies_true])) <;> (try simp only [Sz.Le, Sz.LeL, List.getElem?_cons_zero, List.getElem?_cons_succ]) <;> (try simp), keep0 hJ⟩ ?_ ?_)
    · intro y s' hy hI2
      obtain ⟨b, hb⟩ : ∃ b, a.b.pages[y]? = some b := ⟨_, List.getElem?_eq_getElem hy⟩
      have hbs := hpa.2 b (List.mem_of_getElem? hb)
      have f2 : inpL (plusA a.a (y * 3)) 3 = some [.bool b.torn, .string b.beside, .string b.data] := hitem2 y b hb
      have hp2 : a.a.isSome = true := inpL_isSome hina (by omega)
      have j0 : (0 : Int) ≤ (y : Int) := by omega
      have j1 : (y : Int) < (a.b.pages.length : Int) := by omega
      have w2 : IntKind.i64.wrap ((y : Int) + 1) = (y : Int) + 1 := Sz.w_64 (by omega) (by omega)
      have w3 : IntKind.i64.wrap ((b.beside.size : Int) + (b.data.size : Int)) = (b.beside.size : Int) + (b.data.size : Int) := Sz.w_64 (by omega) (by omega)
      by_cases h10 : (10000 : Int) < (b.beside.size : Int) + (b.data.size : Int)
      · have w4 : IntKind.i64.wrap 10010 = 10010 := rfl
        have w5 : IntKind.i64.wrap (s' + 10010) = s' + 10010 := Sz.w_64 (by omega) (by omega)
        simp (maxSteps := 2000000) -implicitDefEqProofs only [f2, hp2, j0, j1, w2, w3, h10, w4, w5, Sz.s_alt, Sz.s_alt20, Sz.s_alt2t, Sz.s_alt2f, ↓Sz.s_loopi, ↓Sz.v_pq, ↓Sz.PRE, Sz.POST, Sz.CORE, Nat.reduceDiv, Nat.reduceMod, Int.reduceLT, Int.reduceLE, Int.reduceToNat, Int.reduceAdd, ↓reduceIte, Nat.reduceEqDiff, Nat.reduceAdd, Nat.reduceMul, Nat.reduceSub, Nat.reduceLeDiff, Nat.reduceLT, reduceCtorEq, if_true, eq_self, forall_const, implies_true]
        exact ⟨s' + 10010, ⟨by omega, by omega⟩, ⟨[0], by simp [Sz.NdL, Sz.NdA, Sz.oO_cells, Sz.oO_own, Sz.iL_nil], by simp only [FitM, ObLe, LeL, Le, List.cons_append, List.nil_append] <;> (try (simp (maxSteps := 2000000) -implicitDefEqProofs only [Sz.s_alt, Sz.s_alt20, Sz.s_alt2t, Sz.s_alt2f, ↓Sz.s_loopi, ↓Sz.v_pq, ↓Sz.PRE, Sz.POST, Sz.CORE, Nat.reduceDiv, Nat.reduceMod, Int.reduceLT, Int.reduceLE, Int.reduceToNat, Int.reduceAdd, ↓reduceIte, Nat.reduceEqDiff, Nat.reduceAdd, Nat.reduceMul, Nat.reduceSub, Nat.reduceLeDiff, Nat.reduceLT, reduceCtorEq, if_true, eq_self, forall_const, implies_true])) <;> (try simp), by simp only [FitE, Le, LeL, List.cons_append, List.nil_append] <;> (try (simp (maxSteps := 2000000) -implicitDefEqProofs only [Sz.s_alt, Sz.s_alt20, Sz.s_alt2t, Sz.s_alt2f, ↓Sz.s_loopi, ↓Sz.v_pq, ↓Sz.PRE, Sz.POST, Sz.CORE, Nat.reduceDiv, Nat.reduceMod, Int.reduceLT, Int.reduceLE, Int.reduceToNat, Int.reduceAdd, ↓reduceIte, Nat.reduceEqDiff, Nat.reduceAdd, Nat.reduceMul, Nat.reduceSub, Nat.reduceLeDiff, Nat.reduceLT, reduceCtorEq, if_true, eq_self, forall_const, implies_true])) <;> (try simp only [Sz.Le, Sz.LeL, List.getElem?_cons_zero, List.getElem?_cons_succ]) <;> (try simp), keep0 hJ⟩⟩
      · have w4 : IntKind.i64.wrap ((10 : Int) + ((b.beside.size : Int) + (b.data.size : Int))) = 10 + ((b.beside.size : Int) + (b.data.size : Int)) := Sz.w_64 (by omega) (by omega)
        have w5 : IntKind.i64.wrap (s' + (10 + ((b.beside.size : Int) + (b.data.size : Int)))) = s' + (10 + ((b.beside.size : Int) + (b.data.size : Int))) := Sz.w_64 (by omega) (by omega)
        simp (maxSteps := 2000000) -implicitDefEqProofs only [f2, hp2, j0, j1, w2, w3, h10, w4, w5, Sz.s_alt, Sz.s_alt20, Sz.s_alt2t, Sz.s_alt2f, ↓Sz.s_loopi, ↓Sz.v_pq, ↓Sz.PRE, Sz.POST, Sz.CORE, Nat.reduceDiv, Nat.reduceMod, Int.reduceLT, Int.reduceLE, Int.reduceToNat, Int.reduceAdd, ↓reduceIte, Nat.reduceEqDiff, Nat.reduceAdd, Nat.reduceMul, Nat.reduceSub, Nat.reduceLeDiff, Nat.reduceLT, reduceCtorEq, if_true, eq_self, forall_const, implies_true]
        exact ⟨s' + (10 + ((b.beside.size : Int) + (b.data.size : Int))), ⟨by omega, by omega⟩, ⟨[0], by simp [Sz.NdL, Sz.NdA, Sz.oO_cells, Sz.oO_own, Sz.iL_nil], by simp only [FitM, ObLe, LeL, Le, List.cons_append, List.nil_append] <;> (try (simp (maxSteps := 2000000) -implicitDefEqProofs only [Sz.s_alt, Sz.s_alt20, Sz.s_alt2t, Sz.s_alt2f, ↓Sz.s_loopi, ↓Sz.v_pq, ↓Sz.PRE, Sz.POST, Sz.CORE, Nat.reduceDiv, Nat.reduceMod, Int.reduceLT, Int.reduceLE, Int.reduceToNat, Int.reduceAdd, ↓reduceIte, Nat.reduceEqDiff, Nat.reduceAdd, Nat.reduceMul, Nat.reduceSub, Nat.reduceLeDiff, Nat.reduceLT, reduceCtorEq, if_true, eq_self, forall_const, implies_true])) <;> (try simp), by simp only [FitE, Le, LeL, List.cons_append, List.nil_append] <;> (try (simp (maxSteps := 2000000) -implicitDefEqProofs only [Sz.s_alt, Sz.s_alt20, Sz.s_alt2t, Sz.s_alt2f, ↓Sz.s_loopi, ↓Sz.v_pq, ↓Sz.PRE, Sz.POST, Sz.CORE, Nat.reduceDiv, Nat.reduceMod, Int.reduceLT, Int.reduceLE, Int.reduceToNat, Int.reduceAdd, ↓reduceIte, Nat.reduceEqDiff, Nat.reduceAdd, Nat.reduceMul, Nat.reduceSub, Nat.reduceLeDiff, Nat.reduceLT, reduceCtorEq, if_true, eq_self, forall_const, implies_true])) <;> (try simp only [Sz.Le, Sz.LeL, List.getElem?_cons_zero, List.getElem?_cons_succ]) <;> (try simp), keep0 hJ⟩⟩
    · intro s' hI2
      have j1 : ¬ (a.b.pages.length : Int) < (a.b.pages.length : Int) := by omega
      have w2 : IntKind.i64.wrap (s' + 10) = s' + 10 := Sz.w_64 (by omega) (by omega)
      by_cases h6 : (6000 : Int) < s' + 10
      · simp (maxSteps := 2000000) -implicitDefEqProofs only [j1, w1, w2, h6, gt_iff_lt, Sz.s_alt, Sz.s_alt20, Sz.s_alt2t, Sz.s_alt2f, ↓Sz.s_loopi, ↓Sz.v_pq, ↓Sz.PRE, Sz.POST, Sz.CORE, Nat.reduceDiv, Nat.reduceMod, Int.reduceLT, Int.reduceLE, Int.reduceToNat, Int.reduceAdd, ↓reduceIte, Nat.reduceEqDiff, Nat.reduceAdd, Nat.reduceMul, Nat.reduceSub, Nat.reduceLeDiff, Nat.reduceLT, reduceCtorEq, if_true, eq_self, forall_const, implies_true]
        exact hk false (by simp)
      · simp (maxSteps := 2000000) -implicitDefEqProofs only [j1, w1, w2, h6, gt_iff_lt, Sz.s_alt, Sz.s_alt20, Sz.s_alt2t, Sz.s_alt2f, ↓Sz.s_loopi, ↓Sz.v_pq, ↓Sz.PRE, Sz.POST, Sz.CORE, Nat.reduceDiv, Nat.reduceMod, Int.reduceLT, Int.reduceLE, Int.reduceToNat, Int.reduceAdd, ↓reduceIte, Nat.reduceEqDiff, Nat.reduceAdd, Nat.reduceMul, Nat.reduceSub, Nat.reduceLeDiff, Nat.reduceLT, reduceCtorEq, if_true, eq_self, forall_const, implies_true]
        exact ⟨s' + 10, ⟨by omega, by omega⟩, ⟨[0], by simp [Sz.NdL, Sz.NdA, Sz.oO_cells, Sz.oO_own, Sz.iL_nil], by simp only [FitM, ObLe, LeL, Le, List.cons_append, List.nil_append] <;> (try (simp (maxSteps := 2000000) -implicitDefEqProofs only [Sz.s_alt, Sz.s_alt20, Sz.s_alt2t, Sz.s_alt2f, ↓Sz.s_loopi, ↓Sz.v_pq, ↓Sz.PRE, Sz.POST, Sz.CORE, Nat.reduceDiv, Nat.reduceMod, Int.reduceLT, Int.reduceLE, Int.reduceToNat, Int.reduceAdd, ↓reduceIte, Nat.reduceEqDiff, Nat.reduceAdd, Nat.reduceMul, Nat.reduceSub, Nat.reduceLeDiff, Nat.reduceLT, reduceCtorEq, if_true, eq_self, forall_const, implies_true])) <;> (try simp), by simp only [FitE, Le, LeL, List.cons_append, List.nil_append] <;> (try (simp (maxSteps := 2000000) -implicitDefEqProofs only [Sz.s_alt, Sz.s_alt20, Sz.s_alt2t, Sz.s_alt2f, ↓Sz.s_loopi, ↓Sz.v_pq, ↓Sz.PRE, Sz.POST, Sz.CORE, Nat.reduceDiv, Nat.reduceMod, Int.reduceLT, Int.reduceLE, Int.reduceToNat, Int.reduceAdd, ↓reduceIte, Nat.reduceEqDiff, Nat.reduceAdd, Nat.reduceMul, Nat.reduceSub, Nat.reduceLeDiff, Nat.reduceLT, reduceCtorEq, if_true, eq_self, forall_const, implies_true])) <;> (try simp only [Sz.Le, Sz.LeL, List.getElem?_cons_zero, List.getElem?_cons_succ]) <;> (try simp), keep0 hJ⟩⟩
  · intro s hI
    have i1 : ¬ (xs.length : Int) < (xs.length : Int) := by omega
    simp (maxSteps := 2000000) -implicitDefEqProofs only [i1, Sz.s_alt, Sz.s_alt20, Sz.s_alt2t, Sz.s_alt2f, ↓Sz.s_loopi, ↓Sz.v_pq, ↓Sz.PRE, Sz.POST, Sz.CORE, Nat.reduceDiv, Nat.reduceMod, Int.reduceLT, Int.reduceLE, Int.reduceToNat, Int.reduceAdd, ↓reduceIte, Nat.reduceEqDiff, Nat.reduceAdd, Nat.reduceMul, Nat.reduceSub, Nat.reduceLeDiff, Nat.reduceLT, reduceCtorEq, if_true, eq_self, forall_const, implies_true]
    exact hk true (fun _ => by omega)
end Go.Proofs.Ytibefgdjijmncaa
