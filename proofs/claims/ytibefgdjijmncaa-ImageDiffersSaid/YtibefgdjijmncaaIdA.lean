/- Layer 43 (image): what two pictures differ in, and whether they are the same. By symbolic walks. -/
import Derived.Test.YtibefgdjijmncaaIdP
import Derived.Test.YtibefgdjijmncaaProg
namespace Go.Proofs.Ytibefgdjijmncaa
open Go.RowKit Sz
set_option linter.unusedVariables false
set_option linter.unusedSimpArgs false
set_option maxHeartbeats 4000000
set_option maxRecDepth 20000
-- slices.Equal[[]almshouse/image.Page,almshouse/image.Page] (2 parameters)
def x104 : XC := (.seq (.tree (.seq ⟨some 4, none, (.ofA (.mv (.cst (.v (.bool false)))))⟩
  .done))
 (.seq (.seq (.tree (.seq ⟨some 6, none, (.ofA (.mv (.tmp 0)))⟩
  (.seq ⟨some 7, none, (.ofA (.len (.tmp 6)))⟩
  (.seq ⟨some 8, none, (.ofA (.mv (.tmp 1)))⟩
  (.seq ⟨some 9, none, (.ofA (.len (.tmp 8)))⟩
  (.seq ⟨some 10, none, (.ofA (.bin .neq (.tmp 7) (.tmp 9)))⟩
  .done))))))
 (.cond (.tmp 10)
 (.seq (.tree (.seq ⟨some 4, none, (.ofA (.mv (.cst (.v (.bool false)))))⟩
  .done))
 .ret)
 .skip))
 (.seq (.seq (.tree (.seq ⟨some 11, none, (.ofA (.mv (.tmp 0)))⟩
  (.seq ⟨some 12, none, (.ofA (.len (.tmp 11)))⟩
  (.seq ⟨some 13, none, (.ofA (.mv (.cst (.v (.int .i64 0)))))⟩
  .done))))
 (.block 0 (.loop (.seq (.tree (.seq ⟨some 14, none, (.ofA (.bin .lss (.tmp 13) (.tmp 12)))⟩
  .done))
 (.seq (.cond (.tmp 14)
 .skip
 (.exit 0))
 (.seq (.block 1 (.seq (.tree (.seq ⟨some 15, none, (.ofA (.mv (.tmp 13)))⟩
  (.seq ⟨some 5, none, (.ofA (.mv (.tmp 15)))⟩
  .done)))
 (.seq (.tree (.take ⟨some 16, none, (.ofA (.mv (.tmp 0)))⟩
  (.take ⟨some 17, none, (.ofA (.mv (.tmp 5)))⟩
  (.take ⟨some 18, none, (.ofA (.isl 3 (.tmp 16) (.tmp 17)))⟩
  (.take ⟨some 19, none, (.ofA (.load (some 3) (.tmp 18)))⟩
  (.take ⟨some 20, none, (.ofA (.mv (.tmp 1)))⟩
  (.take ⟨some 21, none, (.ofA (.mv (.tmp 5)))⟩
  (.take ⟨some 22, none, (.ofA (.isl 3 (.tmp 20) (.tmp 21)))⟩
  (.take ⟨some 23, none, (.ofA (.load (some 3) (.tmp 22)))⟩
  (.take ⟨some 24, none, (.ofA (.eqs true [.bool, .str, .str] (.tmp 19) (.tmp 23)))⟩
  .done))))))))))
 (.cond (.tmp 24)
 (.seq (.tree (.seq ⟨some 4, none, (.ofA (.mv (.cst (.v (.bool false)))))⟩
  .done))
 .ret)
 .skip))))
 (.tree (.seq ⟨some 25, none, (.ofA (.bin .add (.tmp 13) (.cst (.v (.int .i64 1)))))⟩
  (.seq ⟨some 13, none, (.ofA (.mv (.tmp 25)))⟩
  .done)))))))))
 (.seq (.tree (.seq ⟨some 4, none, (.ofA (.mv (.cst (.v (.bool true)))))⟩
  .done))
 .ret))))
def r104 : List XR := [.tmp 4]
theorem fn104 : FnX Try.prog 104 [] 26 x104 r104 := ⟨_, Try.func104, by kernel_rfl, by kernel_rfl, by kernel_rfl, by kernel_rfl⟩
-- almshouse/image.same (2 parameters)
def x62 : XC := (.seq (.tree (.seq ⟨some 2, none, (.box (.tmp 0))⟩
  (.seq ⟨some 3, none, (.box (.tmp 1))⟩
  (.seq ⟨some 4, none, (.ofA (.mv (.cst (.v (.bool false)))))⟩
  .done))))
 (.seq (.tree (.seq ⟨some 5, none, (.ofA (.faddr 0 (.tmp 2)))⟩
  (.seq ⟨some 6, none, (.ofA (.load none (.tmp 5)))⟩
  (.seq ⟨some 7, none, (.ofA (.faddr 0 (.tmp 3)))⟩
  (.seq ⟨some 8, none, (.ofA (.load none (.tmp 7)))⟩
  (.seq ⟨some 9, none, (.ofA (.eqb false (.tmp 6) (.tmp 8)))⟩
  (.seq ⟨some 10, none, (.ofA (.mv (.tmp 9)))⟩
  (.seq ⟨some 11, some (10, true), (.ofA (.faddr 1 (.tmp 2)))⟩
  (.seq ⟨some 12, some (10, true), (.ofA (.load none (.tmp 11)))⟩
  (.seq ⟨some 13, some (10, true), (.ofA (.faddr 1 (.tmp 3)))⟩
  (.seq ⟨some 14, some (10, true), (.ofA (.load none (.tmp 13)))⟩
  (.seq ⟨some 15, some (10, true), (.ofA (.bin .eql (.tmp 12) (.tmp 14)))⟩
  (.seq ⟨some 16, none, (.ofA (.pick (.tmp 10) (.tmp 15) (.cst (.v (.bool false)))))⟩
  (.seq ⟨some 17, none, (.ofA (.mv (.tmp 16)))⟩
  (.seq ⟨some 18, some (17, true), (.ofA (.faddr 2 (.tmp 2)))⟩
  (.seq ⟨some 19, some (17, true), (.ofA (.load none (.tmp 18)))⟩
  (.seq ⟨some 20, some (17, true), (.ofA (.faddr 2 (.tmp 3)))⟩
  (.seq ⟨some 21, some (17, true), (.ofA (.load none (.tmp 20)))⟩
  (.seq ⟨some 22, some (17, true), (.call (.cst (.fn 104 [])) [(.tmp 19), (.tmp 21)])⟩
  (.seq ⟨some 23, none, (.ofA (.pick (.tmp 17) (.tmp 22) (.cst (.v (.bool false)))))⟩
  (.seq ⟨some 4, none, (.ofA (.mv (.tmp 23)))⟩
  .done)))))))))))))))))))))
 .ret))
def r62 : List XR := [.tmp 4]
theorem fn62 : FnX Try.prog 62 [] 24 x62 r62 := ⟨_, Try.func62, by kernel_rfl, by kernel_rfl, by kernel_rfl, by kernel_rfl⟩
-- slices.EqualFunc[[]almshouse/image.Block,[]almshouse/image.Block,almshouse/image.Block,almshouse/image.Block] (3 parameters)
def x61 : XC := (.seq (.tree (.seq ⟨some 6, none, (.ofA (.mv (.cst (.v (.bool false)))))⟩
  .done))
 (.seq (.seq (.tree (.seq ⟨some 10, none, (.ofA (.mv (.tmp 0)))⟩
  (.seq ⟨some 11, none, (.ofA (.len (.tmp 10)))⟩
  (.seq ⟨some 12, none, (.ofA (.mv (.tmp 1)))⟩
  (.seq ⟨some 13, none, (.ofA (.len (.tmp 12)))⟩
  (.seq ⟨some 14, none, (.ofA (.bin .neq (.tmp 11) (.tmp 13)))⟩
  .done))))))
 (.cond (.tmp 14)
 (.seq (.tree (.seq ⟨some 6, none, (.ofA (.mv (.cst (.v (.bool false)))))⟩
  .done))
 .ret)
 .skip))
 (.seq (.seq (.tree (.seq ⟨some 15, none, (.ofA (.mv (.tmp 0)))⟩
  (.seq ⟨some 16, none, (.ofA (.len (.tmp 15)))⟩
  (.seq ⟨some 17, none, (.ofA (.mv (.cst (.v (.int .i64 0)))))⟩
  .done))))
 (.block 0 (.loop (.seq (.tree (.seq ⟨some 18, none, (.ofA (.bin .lss (.tmp 17) (.tmp 16)))⟩
  .done))
 (.seq (.cond (.tmp 18)
 .skip
 (.exit 0))
 (.seq (.block 1 (.seq (.tree (.seq ⟨some 19, none, (.ofA (.mv (.tmp 17)))⟩
  (.seq ⟨some 20, none, (.ofA (.isl 3 (.tmp 15) (.tmp 17)))⟩
  (.seq ⟨some 21, none, (.ofA (.load (some 3) (.tmp 20)))⟩
  (.seq ⟨some 8, none, (.alloc [(.v (.bool false)), (.v (.int .i64 0)), (.v (.slice none 0 0))])⟩
  (.seq ⟨some 7, none, (.ofA (.mv (.tmp 19)))⟩
  (.seq ⟨none, none, (.store 3 (.tmp 8) (.tmp 21))⟩
  .done)))))))
 (.seq (.tree (.seq ⟨some 22, none, (.ofA (.mv (.tmp 1)))⟩
  (.seq ⟨some 23, none, (.ofA (.mv (.tmp 7)))⟩
  (.seq ⟨some 24, none, (.ofA (.isl 3 (.tmp 22) (.tmp 23)))⟩
  (.seq ⟨some 25, none, (.ofA (.load (some 3) (.tmp 24)))⟩
  (.seq ⟨some 9, none, (.alloc [(.v (.bool false)), (.v (.int .i64 0)), (.v (.slice none 0 0))])⟩
  (.seq ⟨none, none, (.store 3 (.tmp 9) (.tmp 25))⟩
  .done)))))))
 (.seq (.tree (.seq ⟨some 26, none, (.ofA (.mv (.tmp 2)))⟩
  (.seq ⟨some 27, none, (.ofA (.load (some 3) (.tmp 8)))⟩
  (.seq ⟨some 28, none, (.ofA (.load (some 3) (.tmp 9)))⟩
  (.seq ⟨some 29, none, (.call (.tmp 26) [(.tmp 27), (.tmp 28)])⟩
  (.seq ⟨some 30, none, (.ofA (.un .not (.tmp 29)))⟩
  .done))))))
 (.cond (.tmp 30)
 (.seq (.tree (.seq ⟨some 6, none, (.ofA (.mv (.cst (.v (.bool false)))))⟩
  .done))
 .ret)
 .skip)))))
 (.tree (.seq ⟨some 31, none, (.ofA (.bin .add (.tmp 17) (.cst (.v (.int .i64 1)))))⟩
  (.seq ⟨some 17, none, (.ofA (.mv (.tmp 31)))⟩
  .done)))))))))
 (.seq (.tree (.seq ⟨some 6, none, (.ofA (.mv (.cst (.v (.bool true)))))⟩
  .done))
 .ret))))
def r61 : List XR := [.tmp 6]
theorem fn61 : FnX Try.prog 61 [] 32 x61 r61 := ⟨_, Try.func61, by kernel_rfl, by kernel_rfl, by kernel_rfl, by kernel_rfl⟩
-- almshouse/image.Same (2 parameters)
def x17 : XC := (.seq (.tree (.seq ⟨some 2, none, (.box (.tmp 0))⟩
  (.seq ⟨some 3, none, (.box (.tmp 1))⟩
  (.seq ⟨some 4, none, (.ofA (.mv (.cst (.v (.bool false)))))⟩
  .done))))
 (.seq (.tree (.seq ⟨some 5, none, (.ofA (.faddr 0 (.tmp 2)))⟩
  (.seq ⟨some 6, none, (.ofA (.load (some 4) (.tmp 5)))⟩
  (.seq ⟨some 7, none, (.ofA (.faddr 0 (.tmp 3)))⟩
  (.seq ⟨some 8, none, (.ofA (.load (some 4) (.tmp 7)))⟩
  (.seq ⟨some 9, none, (.ofA (.eqs false [.int, .int, .int, .int] (.tmp 6) (.tmp 8)))⟩
  (.seq ⟨some 10, none, (.ofA (.mv (.tmp 9)))⟩
  (.seq ⟨some 11, some (10, true), (.ofA (.faddr 4 (.tmp 2)))⟩
  (.seq ⟨some 12, some (10, true), (.ofA (.load none (.tmp 11)))⟩
  (.seq ⟨some 13, some (10, true), (.ofA (.faddr 4 (.tmp 3)))⟩
  (.seq ⟨some 14, some (10, true), (.ofA (.load none (.tmp 13)))⟩
  (.seq ⟨some 15, some (10, true), (.call (.cst (.fn 61 [])) [(.tmp 12), (.tmp 14), (.cst (.fn 62 []))])⟩
  (.seq ⟨some 16, none, (.ofA (.pick (.tmp 10) (.tmp 15) (.cst (.v (.bool false)))))⟩
  (.seq ⟨some 4, none, (.ofA (.mv (.tmp 16)))⟩
  .done))))))))))))))
 .ret))
def r17 : List XR := [.tmp 4]
theorem fn17 : FnX Try.prog 17 [] 17 x17 r17 := ⟨_, Try.func17, by kernel_rfl, by kernel_rfl, by kernel_rfl, by kernel_rfl⟩
-- almshouse/image.Diff (2 parameters)
def x18 : XC := (.seq (.tree (.seq ⟨some 2, none, (.box (.tmp 0))⟩
  (.seq ⟨some 3, none, (.box (.tmp 1))⟩
  (.seq ⟨some 4, none, (.ofA (.mv (.cst (.v (.slice none 0 0)))))⟩
  .done))))
 (.seq (.tree (.seq ⟨some 5, none, (.ofA (.mv (.cst (.v (.slice none 0 0)))))⟩
  .done))
 (.seq (.seq (.tree (.seq ⟨some 7, none, (.ofA (.faddr 4 (.tmp 2)))⟩
  (.seq ⟨some 8, none, (.ofA (.load none (.tmp 7)))⟩
  (.seq ⟨some 9, none, (.ofA (.len (.tmp 8)))⟩
  (.seq ⟨some 10, none, (.ofA (.faddr 4 (.tmp 3)))⟩
  (.seq ⟨some 11, none, (.ofA (.load none (.tmp 10)))⟩
  (.seq ⟨some 12, none, (.ofA (.len (.tmp 11)))⟩
  (.seq ⟨some 13, none, (.ofA (.mx true (.tmp 9) [(.tmp 12)]))⟩
  (.seq ⟨some 14, none, (.ofA (.mv (.cst (.v (.int .i64 0)))))⟩
  .done)))))))))
 (.block 0 (.loop (.seq (.tree (.seq ⟨some 15, none, (.ofA (.bin .lss (.tmp 14) (.tmp 13)))⟩
  .done))
 (.seq (.cond (.tmp 15)
 .skip
 (.exit 0))
 (.seq (.block 1 (.seq (.tree (.seq ⟨some 16, none, (.ofA (.mv (.tmp 14)))⟩
  (.seq ⟨some 6, none, (.ofA (.mv (.tmp 16)))⟩
  .done)))
 (.seq (.tree (.take ⟨some 17, none, (.ofA (.mv (.tmp 6)))⟩
  (.take ⟨some 18, none, (.ofA (.faddr 4 (.tmp 2)))⟩
  (.take ⟨some 19, none, (.ofA (.load none (.tmp 18)))⟩
  (.take ⟨some 20, none, (.ofA (.len (.tmp 19)))⟩
  (.take ⟨some 21, none, (.ofA (.bin .geq (.tmp 17) (.tmp 20)))⟩
  (.take ⟨some 22, none, (.ofA (.mv (.tmp 21)))⟩
  (.take ⟨some 23, some (22, false), (.ofA (.mv (.tmp 6)))⟩
  (.take ⟨some 24, some (22, false), (.ofA (.faddr 4 (.tmp 3)))⟩
  (.take ⟨some 25, some (22, false), (.ofA (.load none (.tmp 24)))⟩
  (.take ⟨some 26, some (22, false), (.ofA (.len (.tmp 25)))⟩
  (.take ⟨some 27, some (22, false), (.ofA (.bin .geq (.tmp 23) (.tmp 26)))⟩
  (.take ⟨some 28, none, (.ofA (.pick (.tmp 22) (.cst (.v (.bool true))) (.tmp 27)))⟩
  (.take ⟨some 29, none, (.ofA (.mv (.tmp 28)))⟩
  (.take ⟨some 30, some (29, false), (.ofA (.faddr 4 (.tmp 2)))⟩
  (.take ⟨some 31, some (29, false), (.ofA (.load none (.tmp 30)))⟩
  (.take ⟨some 32, some (29, false), (.ofA (.mv (.tmp 6)))⟩
  (.take ⟨some 33, some (29, false), (.ofA (.isl 3 (.tmp 31) (.tmp 32)))⟩
  (.take ⟨some 34, some (29, false), (.ofA (.load (some 3) (.tmp 33)))⟩
  (.take ⟨some 35, some (29, false), (.ofA (.faddr 4 (.tmp 3)))⟩
  (.take ⟨some 36, some (29, false), (.ofA (.load none (.tmp 35)))⟩
  (.take ⟨some 37, some (29, false), (.ofA (.mv (.tmp 6)))⟩
  (.take ⟨some 38, some (29, false), (.ofA (.isl 3 (.tmp 36) (.tmp 37)))⟩
  (.take ⟨some 39, some (29, false), (.ofA (.load (some 3) (.tmp 38)))⟩
  (.act true [(⟨some 40, some (29, false), (.call (.cst (.fn 62 [])) [(.tmp 34), (.tmp 39)])⟩,
 (.take ⟨some 41, some (29, false), (.ofA (.un .not (.tmp 40)))⟩
  (.take ⟨some 42, none, (.ofA (.pick (.tmp 29) (.cst (.v (.bool true))) (.tmp 41)))⟩
  .done)))])))))))))))))))))))))))))
 (.cond (.tmp 42)
 (.tree (.seq ⟨some 43, none, (.ofA (.mv (.tmp 5)))⟩
  (.seq ⟨some 44, none, (.ofA (.mv (.tmp 6)))⟩
  (.seq ⟨some 45, none, (.buildSl 1 1 [(.v (.int .i64 0))] [(0, 1, (.tmp 44))])⟩
  (.seq ⟨some 46, none, (.app 1 8 (.tmp 43) (.tmp 45))⟩
  (.seq ⟨some 5, none, (.ofA (.mv (.tmp 46)))⟩
  .done))))))
 .skip))))
 (.tree (.seq ⟨some 47, none, (.ofA (.bin .add (.tmp 14) (.cst (.v (.int .i64 1)))))⟩
  (.seq ⟨some 14, none, (.ofA (.mv (.tmp 47)))⟩
  .done)))))))))
 (.seq (.tree (.seq ⟨some 48, none, (.ofA (.mv (.tmp 5)))⟩
  (.seq ⟨some 4, none, (.ofA (.mv (.tmp 48)))⟩
  .done)))
 .ret))))
def r18 : List XR := [.tmp 4]
theorem fn18 : FnX Try.prog 18 [] 49 x18 r18 := ⟨_, Try.func18, by kernel_rfl, by kernel_rfl, by kernel_rfl, by kernel_rfl⟩

theorem zip_at {α β : Type} {us : List α} {bs : List β} {x : Nat} {a : α} {b : β} (h : us[x]? = some a) (h2 : bs[x]? = some b) : (us.zip bs)[x]? = some (a, b) := List.getElem?_zip_eq_some.2 ⟨h, h2⟩
def c104 [Inp] : Trans := fun args m k => match args with
  | [.v (.slice p n c), .v (.slice p' n' c')] => ∃ ps qs : List Pg, inpL p (n * 3) = some (rowV Pg.cs ps) ∧ ps.length = n ∧ inpL p' (n' * 3) = some (rowV Pg.cs qs) ∧ qs.length = n' ∧ n ≤ 9223372036854775807 ∧ k (.v (.bool (eqPs ps qs))) m
  | _ => False
theorem c104_ok [I : Inp] : Contract Try.prog 104 true c104 := by
  refine .readN fn104 (G := fun J => []) (fun J => @g0 J _) _ fun args m k h => ?_
  unfold c104 at h
  split at h
  case h_2 => exact h.elim
  rename_i p n c p' n' c'
  obtain ⟨ps, qs, hin0, rfl, hin0', rfl, hn, hk⟩ := h
  refine ⟨by simp, fun J hJ us hus hI => ?_⟩
  obtain ⟨u, t1, rfl, hk1, u2, t2, rfl, hk2, rfl⟩ := hus
  have hin := hI _ _ _ hin0
  have hin' := hI _ _ _ hin0'
  obtain rfl := hk1.1 _ rfl
  obtain rfl := hk2.1 _ rfl
  unfold eqPs at hk
  by_cases hl : ps.length = qs.length
  · have hl1 : ((ps.length : Int) != (qs.length : Int)) = false := by simp [hl]
    have hl2 : (ps.length == qs.length) = true := by simp [hl]
    rw [hl2, Bool.true_and] at hk
    have hitem : ∀ (i : Nat) (x : Pg), ps[i]? = some x → inpL (plusA p (i * 3)) 3 = some x.cs := fun i x hx => inp_item Pg.len hin rfl hx
    have hitem' : ∀ (i : Nat) (x : Pg), qs[i]? = some x → inpL (plusA p' (i * 3)) 3 = some x.cs := fun i x hx => inp_item Pg.len hin' rfl hx
    simp (maxSteps := 2000000) -implicitDefEqProofs only [↓x104, ↓r104, hl1, Sz.s_alt, Sz.s_alt20, Sz.s_alt2t, Sz.s_alt2f, ↓Sz.s_loopi, ↓Sz.v_pq, ↓Sz.PRE, Sz.POST, Sz.CORE, Nat.reduceDiv, Nat.reduceMod, Int.reduceLT, Int.reduceLE, Int.reduceToNat, Int.reduceAdd, ↓reduceIte, Nat.reduceEqDiff, Nat.reduceAdd, Nat.reduceMul, Nat.reduceSub, Nat.reduceLeDiff, Nat.reduceLT, reduceCtorEq, if_true, eq_self, forall_const, implies_true]
    refine TXi_of (TX_count (g0 _) ps.length (fun x => [(0, .v (.slice p ps.length c)), (1, .v (.slice p' qs.length c')), (12, .v (.int .i64 ps.length)), (13, .v (.int .i64 (x : Int)))]) (fun _ => []) (fun x => ((ps.zip qs).take x).all (fun z => eqP z.1 z.2) = true) rfl ⟨[], by simp [Sz.NdL, Sz.NdA, Sz.oO_cells, Sz.oO_own, Sz.iL_nil], by simp only [FitM, ObLe, LeL, Le, List.cons_append, List.nil_append] <;> (try (simp (maxSteps := 2000000) -implicitDefEqProofs only [Sz.s_alt, Sz.s_alt20, Sz.s_alt2t, Sz.s_alt2f, ↓Sz.s_loopi, ↓Sz.v_pq, ↓Sz.PRE, Sz.POST, Sz.CORE, Nat.reduceDiv, Nat.reduceMod, Int.reduceLT, Int.reduceLE, Int.reduceToNat, Int.reduceAdd, ↓reduceIte, Nat.reduceEqDiff, Nat.reduceAdd, Nat.reduceMul, Nat.reduceSub, Nat.reduceLeDiff, Nat.reduceLT, reduceCtorEq, if_true, eq_self, forall_const, implies_true])) <;> (try simp), by simp only [FitE, Le, LeL, List.cons_append, List.nil_append] <;> (try (simp (maxSteps := 2000000) -implicitDefEqProofs only [Sz.s_alt, Sz.s_alt20, Sz.s_alt2t, Sz.s_alt2f, ↓Sz.s_loopi, ↓Sz.v_pq, ↓Sz.PRE, Sz.POST, Sz.CORE, Nat.reduceDiv, Nat.reduceMod, Int.reduceLT, Int.reduceLE, Int.reduceToNat, Int.reduceAdd, ↓reduceIte, Nat.reduceEqDiff, Nat.reduceAdd, Nat.reduceMul, Nat.reduceSub, Nat.reduceLeDiff, Nat.reduceLT, reduceCtorEq, if_true, eq_self, forall_const, implies_true])) <;> (try simp only [Sz.Le, Sz.LeL, List.getElem?_cons_zero, List.getElem?_cons_succ]) <;> (try simp), keep0 hJ⟩ ?_ ?_)
    · intro x hx hI2
      obtain ⟨a, ha⟩ : ∃ a, ps[x]? = some a := ⟨_, List.getElem?_eq_getElem hx⟩
      obtain ⟨b, hb⟩ : ∃ b, qs[x]? = some b := ⟨_, List.getElem?_eq_getElem (by omega)⟩
      have f : inpL (plusA p (x * 3)) 3 = some [.bool a.torn, .string a.beside, .string a.data] := hitem x a ha
      have f' : inpL (plusA p' (x * 3)) 3 = some [.bool b.torn, .string b.beside, .string b.data] := hitem' x b hb
      have hp : p.isSome = true := inpL_isSome hin (by omega)
      have hp' : p'.isSome = true := inpL_isSome hin' (by omega)
      have i0 : (0 : Int) ≤ (x : Int) := by omega
      have i1 : (x : Int) < (ps.length : Int) := by omega
      have i2 : (x : Int) < (qs.length : Int) := by omega
      have w1 : IntKind.i64.wrap ((x : Int) + 1) = (x : Int) + 1 := Sz.w_64 (by omega) (by omega)
      have hz := zip_at ha hb
      have he : eqP a b = (a.torn == b.torn && (a.beside.toList == b.beside.toList && a.data.toList == b.data.toList)) := by simp [eqP]
      have next : eqP a b = true → ((ps.zip qs).take (x + 1)).all (fun z => eqP z.1 z.2) = true := fun h => by rw [all_snoc _ hz, hI2]; simpa using h
      have bad : eqP a b = false → k (.v (.bool false)) m := fun h => by
        have : (ps.zip qs).all (fun z => eqP z.1 z.2) = false := all_bad hz h
        rw [this] at hk; exact hk
      simp (maxSteps := 2000000) -implicitDefEqProofs only [f, f', hp, hp', i0, i1, i2, w1, Sz.s_alt, Sz.s_alt20, Sz.s_alt2t, Sz.s_alt2f, ↓Sz.s_loopi, ↓Sz.v_pq, ↓Sz.PRE, Sz.POST, Sz.CORE, Nat.reduceDiv, Nat.reduceMod, Int.reduceLT, Int.reduceLE, Int.reduceToNat, Int.reduceAdd, ↓reduceIte, Nat.reduceEqDiff, Nat.reduceAdd, Nat.reduceMul, Nat.reduceSub, Nat.reduceLeDiff, Nat.reduceLT, reduceCtorEq, if_true, eq_self, forall_const, implies_true]
      rw [← he]
      split
      · rename_i h
        exact bad (by simpa using h)
      · rename_i h
        exact ⟨next (by simpa using h), ⟨[], by simp [Sz.NdL, Sz.NdA, Sz.oO_cells, Sz.oO_own, Sz.iL_nil], by simp only [FitM, ObLe, LeL, Le, List.cons_append, List.nil_append] <;> (try (simp (maxSteps := 2000000) -implicitDefEqProofs only [Sz.s_alt, Sz.s_alt20, Sz.s_alt2t, Sz.s_alt2f, ↓Sz.s_loopi, ↓Sz.v_pq, ↓Sz.PRE, Sz.POST, Sz.CORE, Nat.reduceDiv, Nat.reduceMod, Int.reduceLT, Int.reduceLE, Int.reduceToNat, Int.reduceAdd, ↓reduceIte, Nat.reduceEqDiff, Nat.reduceAdd, Nat.reduceMul, Nat.reduceSub, Nat.reduceLeDiff, Nat.reduceLT, reduceCtorEq, if_true, eq_self, forall_const, implies_true])) <;> (try simp), by simp only [FitE, Le, LeL, List.cons_append, List.nil_append] <;> (try (simp (maxSteps := 2000000) -implicitDefEqProofs only [Sz.s_alt, Sz.s_alt20, Sz.s_alt2t, Sz.s_alt2f, ↓Sz.s_loopi, ↓Sz.v_pq, ↓Sz.PRE, Sz.POST, Sz.CORE, Nat.reduceDiv, Nat.reduceMod, Int.reduceLT, Int.reduceLE, Int.reduceToNat, Int.reduceAdd, ↓reduceIte, Nat.reduceEqDiff, Nat.reduceAdd, Nat.reduceMul, Nat.reduceSub, Nat.reduceLeDiff, Nat.reduceLT, reduceCtorEq, if_true, eq_self, forall_const, implies_true])) <;> (try simp only [Sz.Le, Sz.LeL, List.getElem?_cons_zero, List.getElem?_cons_succ]) <;> (try simp), keep0 hJ⟩⟩
    · intro hI2
      have i1 : ¬ (ps.length : Int) < (ps.length : Int) := by omega
      have hzl : (ps.zip qs).length = ps.length := by simp [hl]
      rw [← hzl, List.take_length] at hI2
      rw [hI2] at hk
      simp (maxSteps := 2000000) -implicitDefEqProofs only [i1, Sz.s_alt, Sz.s_alt20, Sz.s_alt2t, Sz.s_alt2f, ↓Sz.s_loopi, ↓Sz.v_pq, ↓Sz.PRE, Sz.POST, Sz.CORE, Nat.reduceDiv, Nat.reduceMod, Int.reduceLT, Int.reduceLE, Int.reduceToNat, Int.reduceAdd, ↓reduceIte, Nat.reduceEqDiff, Nat.reduceAdd, Nat.reduceMul, Nat.reduceSub, Nat.reduceLeDiff, Nat.reduceLT, reduceCtorEq, if_true, eq_self, forall_const, implies_true]
      exact hk
  · have hl1 : ((ps.length : Int) != (qs.length : Int)) = true := by simp; omega
    have hl2 : (ps.length == qs.length) = false := by simp [hl]
    rw [hl2, Bool.false_and] at hk
    simp (maxSteps := 2000000) -implicitDefEqProofs only [↓x104, ↓r104, hl1, Sz.s_alt, Sz.s_alt20, Sz.s_alt2t, Sz.s_alt2f, ↓Sz.s_loopi, ↓Sz.v_pq, ↓Sz.PRE, Sz.POST, Sz.CORE, Nat.reduceDiv, Nat.reduceMod, Int.reduceLT, Int.reduceLE, Int.reduceToNat, Int.reduceAdd, ↓reduceIte, Nat.reduceEqDiff, Nat.reduceAdd, Nat.reduceMul, Nat.reduceSub, Nat.reduceLeDiff, Nat.reduceLT, reduceCtorEq, if_true, eq_self, forall_const, implies_true]
    exact hk
def c62 [Inp] : Trans := fun args m k => ∃ x y : Bi, args = [.agg (x.cs.map .v), .agg (y.cs.map .v)] ∧ x.In ∧ y.In ∧ x.b.pages.length ≤ 9223372036854775807 ∧ k (.v (.bool (eqB x.b y.b))) m
theorem g104 [Inp] : GOk Try.prog [⟨104, true, c104⟩] := GOk.cons c104_ok (g0 _)
theorem c62_ok [I : Inp] : Contract Try.prog 62 true c62 := by
  refine .readN fn62 (G := fun J => [⟨104, true, @c104 J⟩]) (fun J => @g104 J) _ fun args m k h => ?_
  obtain ⟨x, y, rfl, hx, hy, hn, hk⟩ := h
  refine ⟨by simp, fun J hJ us hus hI => ?_⟩
  obtain ⟨u, t1, rfl, hk1, u2, t2, rfl, hk2, rfl⟩ := hus
  have hx' := hI _ _ _ hx
  have hy' := hI _ _ _ hy
  obtain rfl := hk1.2.1 _ rfl
  obtain rfl := hk2.2.1 _ rfl
  have e : ∀ z : Bi, SV.of (.agg z.cs.toArray) = .agg [.v (.bool z.b.bad), .v (.int .i64 z.b.er), .v (.slice z.a z.b.pages.length z.c)] := fun z => by rw [of_agg]; rfl
  rw [List.map_cons, List.map_cons, e, e, List.map_nil]
  unfold eqB at hk
  simp (maxSteps := 2000000) -implicitDefEqProofs only [↓x62, ↓r62, ↓c104, Sz.s_alt, Sz.s_alt20, Sz.s_alt2t, Sz.s_alt2f, ↓Sz.s_loopi, ↓Sz.v_pq, ↓Sz.PRE, Sz.POST, Sz.CORE, Nat.reduceDiv, Nat.reduceMod, Int.reduceLT, Int.reduceLE, Int.reduceToNat, Int.reduceAdd, ↓reduceIte, Nat.reduceEqDiff, Nat.reduceAdd, Nat.reduceMul, Nat.reduceSub, Nat.reduceLeDiff, Nat.reduceLT, reduceCtorEq, if_true, eq_self, forall_const, implies_true]
  cases h1 : (x.b.bad == y.b.bad) with
  | false =>
    rw [h1, Bool.false_and] at hk
    simp (maxSteps := 2000000) -implicitDefEqProofs only [Sz.s_alt, Sz.s_alt20, Sz.s_alt2t, Sz.s_alt2f, ↓Sz.s_loopi, ↓Sz.v_pq, ↓Sz.PRE, Sz.POST, Sz.CORE, Nat.reduceDiv, Nat.reduceMod, Int.reduceLT, Int.reduceLE, Int.reduceToNat, Int.reduceAdd, ↓reduceIte, Nat.reduceEqDiff, Nat.reduceAdd, Nat.reduceMul, Nat.reduceSub, Nat.reduceLeDiff, Nat.reduceLT, reduceCtorEq, if_true, eq_self, forall_const, implies_true]
    exact hk
  | true =>
    rw [h1, Bool.true_and] at hk
    cases h2 : (x.b.er == y.b.er) with
    | false =>
      rw [h2, Bool.false_and] at hk
      simp (maxSteps := 2000000) -implicitDefEqProofs only [h2, Sz.s_alt, Sz.s_alt20, Sz.s_alt2t, Sz.s_alt2f, ↓Sz.s_loopi, ↓Sz.v_pq, ↓Sz.PRE, Sz.POST, Sz.CORE, Nat.reduceDiv, Nat.reduceMod, Int.reduceLT, Int.reduceLE, Int.reduceToNat, Int.reduceAdd, ↓reduceIte, Nat.reduceEqDiff, Nat.reduceAdd, Nat.reduceMul, Nat.reduceSub, Nat.reduceLeDiff, Nat.reduceLT, reduceCtorEq, if_true, eq_self, forall_const, implies_true]
      exact hk
    | true =>
      rw [h2, Bool.true_and] at hk
      simp (maxSteps := 2000000) -implicitDefEqProofs only [h2, ↓c104, Sz.s_alt, Sz.s_alt20, Sz.s_alt2t, Sz.s_alt2f, ↓Sz.s_loopi, ↓Sz.v_pq, ↓Sz.PRE, Sz.POST, Sz.CORE, Nat.reduceDiv, Nat.reduceMod, Int.reduceLT, Int.reduceLE, Int.reduceToNat, Int.reduceAdd, ↓reduceIte, Nat.reduceEqDiff, Nat.reduceAdd, Nat.reduceMul, Nat.reduceSub, Nat.reduceLeDiff, Nat.reduceLT, reduceCtorEq, if_true, eq_self, forall_const, implies_true]
      exact ⟨_, _, hx', rfl, hy', rfl, hn, hk⟩
def c61 [Inp] : Trans := fun args m k => match args with
  | [.v (.slice p n c), .v (.slice p' n' c'), .fn 62 []] => ∃ xs ys : List Bi, inpL p (n * 3) = some (rowV Bi.cs xs) ∧ xs.length = n ∧ inpL p' (n' * 3) = some (rowV Bi.cs ys) ∧ ys.length = n' ∧ (∀ x ∈ xs, x.In) ∧ (∀ y ∈ ys, y.In) ∧ n ≤ 9223372036854775807 ∧ (∀ x ∈ xs, x.b.pages.length ≤ 9223372036854775807) ∧ k (.v (.bool (eqBs (xs.map Bi.b) (ys.map Bi.b)))) m
  | _ => False
theorem g62 [Inp] : GOk Try.prog [⟨62, true, c62⟩] := GOk.cons c62_ok (g0 _)
theorem In_J {I J : Inp} {m : Mem} {K : SV → Value → Prop} (hK : Kn I J m K) {x : Bi} (h : @Bi.In I x) : @Bi.In J x := hK.inp _ _ _ h
theorem c61_ok [I : Inp] : Contract Try.prog 61 true c61 := by
  refine .readGf fn61 (G := fun J => [⟨62, true, @c62 J⟩]) (fun J => @g62 J) _ fun args m k h => ?_
  unfold c61 at h
  split at h
  case h_2 => exact h.elim
  rename_i p n c p' n' c'
  obtain ⟨xs, ys, hin0, rfl, hin0', rfl, hx0, hy0, hn, hpn, hk⟩ := h
  refine ⟨by simp, fun J hJ K hK us hus => ?_⟩
  obtain ⟨u, t1, rfl, hk1, u2, t2, rfl, hk2, u3, t3, rfl, hk3, rfl⟩ := hus
  have hin := hK.inp _ _ _ hin0
  have hin' := hK.inp _ _ _ hin0'
  obtain rfl := hK.v _ _ hk1
  obtain rfl := hK.v _ _ hk2
  show @evX J _ _ _ _ _ (slots (argSlots 0 [.v (.slice p xs.length c), .v (.slice p' ys.length c'), .fn 62 []])) [] _
  unfold eqBs at hk
  rw [List.length_map, List.length_map] at hk
  by_cases hl : xs.length = ys.length
  · have hl1 : ((xs.length : Int) != (ys.length : Int)) = false := by simp [hl]
    have hl2 : (xs.length == ys.length) = true := by simp [hl]
    rw [hl2, Bool.true_and] at hk
    have hitem : ∀ (i : Nat) (x : Bi), xs[i]? = some x → inpL (plusA p (i * 3)) 3 = some x.cs := fun i x hx => inp_item Bi.len hin rfl hx
    have hitem' : ∀ (i : Nat) (x : Bi), ys[i]? = some x → inpL (plusA p' (i * 3)) 3 = some x.cs := fun i x hx => inp_item Bi.len hin' rfl hx
    simp (maxSteps := 2000000) -implicitDefEqProofs only [↓x61, ↓r61, hl1, Sz.s_alt, Sz.s_alt20, Sz.s_alt2t, Sz.s_alt2f, ↓Sz.s_loopi, ↓Sz.v_pq, ↓Sz.PRE, Sz.POST, Sz.CORE, Nat.reduceDiv, Nat.reduceMod, Int.reduceLT, Int.reduceLE, Int.reduceToNat, Int.reduceAdd, ↓reduceIte, Nat.reduceEqDiff, Nat.reduceAdd, Nat.reduceMul, Nat.reduceSub, Nat.reduceLeDiff, Nat.reduceLT, reduceCtorEq, if_true, eq_self, forall_const, implies_true]
    refine TXi_of (TX_count (@g62 J) xs.length (fun x => [(0, .v (.slice p xs.length c)), (1, .v (.slice p' ys.length c')), (2, .fn 62 []), (15, .v (.slice p xs.length c)), (16, .v (.int .i64 xs.length)), (17, .v (.int .i64 (x : Int)))]) (fun _ => []) (fun x => (((xs.map Bi.b).zip (ys.map Bi.b)).take x).all (fun z => eqB z.1 z.2) = true) rfl ⟨[], by simp [Sz.NdL, Sz.NdA, Sz.oO_cells, Sz.oO_own, Sz.iL_nil], by simp only [FitM, ObLe, LeL, Le, List.cons_append, List.nil_append] <;> (try (simp (maxSteps := 2000000) -implicitDefEqProofs only [LeL, Sz.s_alt, Sz.s_alt20, Sz.s_alt2t, Sz.s_alt2f, ↓Sz.s_loopi, ↓Sz.v_pq, ↓Sz.PRE, Sz.POST, Sz.CORE, Nat.reduceDiv, Nat.reduceMod, Int.reduceLT, Int.reduceLE, Int.reduceToNat, Int.reduceAdd, ↓reduceIte, Nat.reduceEqDiff, Nat.reduceAdd, Nat.reduceMul, Nat.reduceSub, Nat.reduceLeDiff, Nat.reduceLT, reduceCtorEq, if_true, eq_self, forall_const, implies_true])) <;> (try simp), by simp only [FitE, Le, LeL, List.cons_append, List.nil_append] <;> (try (simp (maxSteps := 2000000) -implicitDefEqProofs only [LeL, Sz.s_alt, Sz.s_alt20, Sz.s_alt2t, Sz.s_alt2f, ↓Sz.s_loopi, ↓Sz.v_pq, ↓Sz.PRE, Sz.POST, Sz.CORE, Nat.reduceDiv, Nat.reduceMod, Int.reduceLT, Int.reduceLE, Int.reduceToNat, Int.reduceAdd, ↓reduceIte, Nat.reduceEqDiff, Nat.reduceAdd, Nat.reduceMul, Nat.reduceSub, Nat.reduceLeDiff, Nat.reduceLT, reduceCtorEq, if_true, eq_self, forall_const, implies_true])) <;> (try simp only [Sz.Le, Sz.LeL, List.getElem?_cons_zero, List.getElem?_cons_succ]) <;> (try simp), keep0 hJ⟩ ?_ ?_)
    · intro x hx hI2
      obtain ⟨a, ha⟩ : ∃ a, xs[x]? = some a := ⟨_, List.getElem?_eq_getElem hx⟩
      obtain ⟨b, hb⟩ : ∃ b, ys[x]? = some b := ⟨_, List.getElem?_eq_getElem (by omega)⟩
      have f : inpL (plusA p (x * 3)) 3 = some [.bool a.b.bad, .int .i64 a.b.er, .slice a.a a.b.pages.length a.c] := hitem x a ha
      have f' : inpL (plusA p' (x * 3)) 3 = some [.bool b.b.bad, .int .i64 b.b.er, .slice b.a b.b.pages.length b.c] := hitem' x b hb
      have hp : p.isSome = true := inpL_isSome hin (by omega)
      have hp' : p'.isSome = true := inpL_isSome hin' (by omega)
      have i0 : (0 : Int) ≤ (x : Int) := by omega
      have i1 : (x : Int) < (xs.length : Int) := by omega
      have i2 : (x : Int) < (ys.length : Int) := by omega
      have w1 : IntKind.i64.wrap ((x : Int) + 1) = (x : Int) + 1 := Sz.w_64 (by omega) (by omega)
      have hz := zip_at (us := xs.map Bi.b) (bs := ys.map Bi.b) (x := x) (a := a.b) (b := b.b) (by rw [List.getElem?_map, ha]; rfl) (by rw [List.getElem?_map, hb]; rfl)
      simp (maxSteps := 2000000) -implicitDefEqProofs only [f, f', hp, hp', i0, i1, i2, w1, ↓c62, Sz.s_alt, Sz.s_alt20, Sz.s_alt2t, Sz.s_alt2f, ↓Sz.s_loopi, ↓Sz.v_pq, ↓Sz.PRE, Sz.POST, Sz.CORE, Nat.reduceDiv, Nat.reduceMod, Int.reduceLT, Int.reduceLE, Int.reduceToNat, Int.reduceAdd, ↓reduceIte, Nat.reduceEqDiff, Nat.reduceAdd, Nat.reduceMul, Nat.reduceSub, Nat.reduceLeDiff, Nat.reduceLT, reduceCtorEq, if_true, eq_self, forall_const, implies_true]
      refine ⟨a, b, rfl, In_J hK (hx0 a (List.mem_of_getElem? ha)), In_J hK (hy0 b (List.mem_of_getElem? hb)), hpn a (List.mem_of_getElem? ha), ?_⟩
      cases he : eqB a.b b.b with
      | false =>
        have : (((xs.map Bi.b).zip (ys.map Bi.b))).all (fun z => eqB z.1 z.2) = false := all_bad hz he
        rw [this] at hk
        simp (maxSteps := 2000000) -implicitDefEqProofs only [Sz.s_alt, Sz.s_alt20, Sz.s_alt2t, Sz.s_alt2f, ↓Sz.s_loopi, ↓Sz.v_pq, ↓Sz.PRE, Sz.POST, Sz.CORE, Nat.reduceDiv, Nat.reduceMod, Int.reduceLT, Int.reduceLE, Int.reduceToNat, Int.reduceAdd, ↓reduceIte, Nat.reduceEqDiff, Nat.reduceAdd, Nat.reduceMul, Nat.reduceSub, Nat.reduceLeDiff, Nat.reduceLT, reduceCtorEq, if_true, eq_self, forall_const, implies_true]
        exact hk
      | true =>
        simp (maxSteps := 2000000) -implicitDefEqProofs only [w1, Sz.s_alt, Sz.s_alt20, Sz.s_alt2t, Sz.s_alt2f, ↓Sz.s_loopi, ↓Sz.v_pq, ↓Sz.PRE, Sz.POST, Sz.CORE, Nat.reduceDiv, Nat.reduceMod, Int.reduceLT, Int.reduceLE, Int.reduceToNat, Int.reduceAdd, ↓reduceIte, Nat.reduceEqDiff, Nat.reduceAdd, Nat.reduceMul, Nat.reduceSub, Nat.reduceLeDiff, Nat.reduceLT, reduceCtorEq, if_true, eq_self, forall_const, implies_true]
        exact ⟨by rw [all_snoc _ hz, hI2]; simpa using he, ⟨[], by simp [Sz.NdL, Sz.NdA, Sz.oO_cells, Sz.oO_own, Sz.iL_nil], by simp only [FitM, ObLe, LeL, Le, List.cons_append, List.nil_append] <;> (try (simp (maxSteps := 2000000) -implicitDefEqProofs only [LeL, Sz.s_alt, Sz.s_alt20, Sz.s_alt2t, Sz.s_alt2f, ↓Sz.s_loopi, ↓Sz.v_pq, ↓Sz.PRE, Sz.POST, Sz.CORE, Nat.reduceDiv, Nat.reduceMod, Int.reduceLT, Int.reduceLE, Int.reduceToNat, Int.reduceAdd, ↓reduceIte, Nat.reduceEqDiff, Nat.reduceAdd, Nat.reduceMul, Nat.reduceSub, Nat.reduceLeDiff, Nat.reduceLT, reduceCtorEq, if_true, eq_self, forall_const, implies_true])) <;> (try simp), by simp only [FitE, Le, LeL, List.cons_append, List.nil_append] <;> (try (simp (maxSteps := 2000000) -implicitDefEqProofs only [LeL, Sz.s_alt, Sz.s_alt20, Sz.s_alt2t, Sz.s_alt2f, ↓Sz.s_loopi, ↓Sz.v_pq, ↓Sz.PRE, Sz.POST, Sz.CORE, Nat.reduceDiv, Nat.reduceMod, Int.reduceLT, Int.reduceLE, Int.reduceToNat, Int.reduceAdd, ↓reduceIte, Nat.reduceEqDiff, Nat.reduceAdd, Nat.reduceMul, Nat.reduceSub, Nat.reduceLeDiff, Nat.reduceLT, reduceCtorEq, if_true, eq_self, forall_const, implies_true])) <;> (try simp only [Sz.Le, Sz.LeL, List.getElem?_cons_zero, List.getElem?_cons_succ]) <;> (try simp), keep0 hJ⟩⟩
    · intro hI2
      have i1 : ¬ (xs.length : Int) < (xs.length : Int) := by omega
      have hzl : ((xs.map Bi.b).zip (ys.map Bi.b)).length = xs.length := by simp [hl]
      rw [← hzl, List.take_length] at hI2
      rw [hI2] at hk
      simp (maxSteps := 2000000) -implicitDefEqProofs only [i1, Sz.s_alt, Sz.s_alt20, Sz.s_alt2t, Sz.s_alt2f, ↓Sz.s_loopi, ↓Sz.v_pq, ↓Sz.PRE, Sz.POST, Sz.CORE, Nat.reduceDiv, Nat.reduceMod, Int.reduceLT, Int.reduceLE, Int.reduceToNat, Int.reduceAdd, ↓reduceIte, Nat.reduceEqDiff, Nat.reduceAdd, Nat.reduceMul, Nat.reduceSub, Nat.reduceLeDiff, Nat.reduceLT, reduceCtorEq, if_true, eq_self, forall_const, implies_true]
      exact hk
  · have hl1 : ((xs.length : Int) != (ys.length : Int)) = true := by simp; omega
    have hl2 : (xs.length == ys.length) = false := by simp [hl]
    rw [hl2, Bool.false_and] at hk
    simp (maxSteps := 2000000) -implicitDefEqProofs only [↓x61, ↓r61, hl1, Sz.s_alt, Sz.s_alt20, Sz.s_alt2t, Sz.s_alt2f, ↓Sz.s_loopi, ↓Sz.v_pq, ↓Sz.PRE, Sz.POST, Sz.CORE, Nat.reduceDiv, Nat.reduceMod, Int.reduceLT, Int.reduceLE, Int.reduceToNat, Int.reduceAdd, ↓reduceIte, Nat.reduceEqDiff, Nat.reduceAdd, Nat.reduceMul, Nat.reduceSub, Nat.reduceLeDiff, Nat.reduceLT, reduceCtorEq, if_true, eq_self, forall_const, implies_true]
    exact hk
end Go.Proofs.Ytibefgdjijmncaa
