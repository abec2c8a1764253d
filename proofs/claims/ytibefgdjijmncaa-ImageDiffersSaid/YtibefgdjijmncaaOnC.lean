/- Layer 2 (sum): the table that is made. -/
import Derived.Test.YtibefgdjijmncaaOnB
namespace Go.Proofs.Ytibefgdjijmncaa
open Go.RowKit Sz
set_option linter.unusedVariables false
set_option linter.unusedSimpArgs false
set_option maxHeartbeats 4000000
set_option maxRecDepth 20000
-- (*almshouse/sum.table).make (1 parameters)
def x172 : XC := (.seq (.tree (.seq ⟨some 5, none, (.ofA (.mv (.cst (.v (.int .i64 0)))))⟩
  .done))
 (.block 0 (.loop (.seq (.tree (.seq ⟨some 6, none, (.ofA (.bin .lss (.tmp 5) (.cst (.v (.int .i64 256)))))⟩
  .done))
 (.seq (.cond (.tmp 6)
 .skip
 (.exit 0))
 (.seq (.block 1 (.seq (.tree (.seq ⟨some 7, none, (.ofA (.mv (.tmp 5)))⟩
  (.seq ⟨some 2, none, (.ofA (.mv (.tmp 7)))⟩
  .done)))
 (.seq (.tree (.seq ⟨some 8, none, (.ofA (.mv (.tmp 2)))⟩
  (.seq ⟨some 9, none, (.ofA (.conv .u32 (.tmp 8)))⟩
  (.seq ⟨some 3, none, (.ofA (.mv (.tmp 9)))⟩
  .done))))
 (.seq (.seq (.tree (.seq ⟨some 10, none, (.ofA (.mv (.cst (.v (.int .i64 0)))))⟩
  .done))
 (.block 2 (.loop (.seq (.tree (.seq ⟨some 11, none, (.ofA (.bin .lss (.tmp 10) (.cst (.v (.int .i64 8)))))⟩
  .done))
 (.seq (.cond (.tmp 11)
 .skip
 (.exit 2))
 (.seq (.block 3 (.seq (.tree (.seq ⟨some 12, none, (.ofA (.mv (.tmp 3)))⟩
  (.seq ⟨some 13, none, (.ofA (.bin .and (.tmp 12) (.cst (.v (.int .u32 1)))))⟩
  (.seq ⟨some 4, none, (.ofA (.mv (.tmp 13)))⟩
  .done))))
 (.seq (.tree (.seq ⟨some 14, none, (.ofA (.mv (.tmp 3)))⟩
  (.seq ⟨some 15, none, (.ofA (.bin .shr (.tmp 14) (.cst (.v (.int .u64 1)))))⟩
  (.seq ⟨some 3, none, (.ofA (.mv (.tmp 15)))⟩
  .done))))
 (.seq (.tree (.seq ⟨some 16, none, (.ofA (.mv (.tmp 4)))⟩
  (.seq ⟨some 17, none, (.ofA (.bin .eql (.tmp 16) (.cst (.v (.int .u32 1)))))⟩
  .done)))
 (.cond (.tmp 17)
 (.tree (.seq ⟨some 18, none, (.ofA (.mv (.tmp 3)))⟩
  (.seq ⟨some 19, none, (.ofA (.bin .xor (.tmp 18) (.cst (.v (.int .u32 2197175160)))))⟩
  (.seq ⟨some 3, none, (.ofA (.mv (.tmp 19)))⟩
  .done))))
 .skip)))))
 (.tree (.seq ⟨some 20, none, (.ofA (.bin .add (.tmp 10) (.cst (.v (.int .i64 1)))))⟩
  (.seq ⟨some 10, none, (.ofA (.mv (.tmp 20)))⟩
  .done)))))))))
 (.tree (.seq ⟨some 21, none, (.ofA (.mv (.tmp 0)))⟩
  (.seq ⟨some 22, none, (.ofA (.mv (.tmp 2)))⟩
  (.seq ⟨some 23, none, (.ofA (.mv (.tmp 3)))⟩
  (.seq ⟨some 24, none, (.ofA (.nilc (.tmp 21)))⟩
  (.seq ⟨some 25, none, (.ofA (.faddr 3 (.tmp 24)))⟩
  (.seq ⟨some 26, none, (.ofA (.iarr 256 1 (.tmp 25) (.tmp 22)))⟩
  (.seq ⟨none, none, (.store 1 (.tmp 26) (.tmp 23))⟩
  .done))))))))))))
 (.tree (.seq ⟨some 27, none, (.ofA (.bin .add (.tmp 5) (.cst (.v (.int .i64 1)))))⟩
  (.seq ⟨some 5, none, (.ofA (.mv (.tmp 27)))⟩
  .done)))))))))
def r172 : List XR := []
theorem fn172 : FnX Try.prog 172 [] 28 x172 r172 := ⟨_, Try.func172, by kernel_rfl, by kernel_rfl, by kernel_rfl, by kernel_rfl⟩

def lowI (v : Int) : Int := IntKind.u32.wrap (BitVec.ofInt IntKind.u32.bits v &&& BitVec.ofInt IntKind.u32.bits 1).toNat
def shI (v : Int) : Int := v.fdiv (2 ^ (min (1 : Int).toNat IntKind.u32.bits))
def xoI (v w : Int) : Int := IntKind.u32.wrap (BitVec.ofInt IntKind.u32.bits v ^^^ BitVec.ofInt IntKind.u32.bits w).toNat
def stepI (v : Int) : Int := if lowI v = 1 then xoI (shI v) 2197175160 else shI v
def stepN : Nat → Int → Int
  | 0, v => v
  | n + 1, v => stepI (stepN n v)
def crc8 (i : Nat) : Int := stepN 8 i
def tabN (i : Nat) : List SV := (List.range 256).map fun j => .v (.int .u32 (if j < i then crc8 j else 0))
def tabM (h : List SV) (i : Nat) : List SV := h ++ tabN i
theorem tabM_len {h : List SV} (h3 : h.length = 3) (i : Nat) : (tabM h i).length = 259 := by simp [tabM, tabN, h3]
theorem tabM_step {h : List SV} (h3 : h.length = 3) {i : Nat} (hi : i < 256) : over (tabM h i) (3 + i) [.v (.int .u32 (crc8 i))] = tabM h (i + 1) := by
  unfold over tabM
  apply List.ext_getElem?
  intro j
  by_cases h1 : j < 3
  · rw [List.getElem?_append_left (by simp [tabN, h3]; omega), List.getElem?_append_left (by simp [tabN, h3]; omega), List.getElem?_take, if_pos (by omega), List.getElem?_append_left (by omega), List.getElem?_append_left (by omega)]
  · rw [List.getElem?_append_right (l₁ := h) (by omega), h3]
    by_cases h2 : j < 3 + i
    · rw [List.getElem?_append_left (by simp [tabN, h3]; omega), List.getElem?_append_left (by simp [tabN, h3]; omega), List.getElem?_take, if_pos (by omega), List.getElem?_append_right (by omega), h3]
      unfold tabN
      simp only [List.getElem?_map, List.getElem?_range (show j - 3 < 256 by omega), Option.map_some]
      rw [if_pos (by omega), if_pos (by omega)]
    · by_cases h4 : j = 3 + i
      · subst h4
        rw [List.getElem?_append_left (by simp [tabN, h3]; omega), List.getElem?_append_right (by simp [tabN, h3]; omega)]
        have e : (3 + i - (List.take (3 + i) (h ++ tabN i)).length) = 0 := by simp [tabN, h3]; omega
        rw [e]
        unfold tabN
        rw [show 3 + i - 3 = i by omega]
        simp only [List.getElem?_map, List.getElem?_range hi, Option.map_some]
        rw [if_pos (by omega)]
        rfl
      · by_cases h5 : j < 259
        · rw [List.getElem?_append_right (by simp [tabN, h3]; omega), List.getElem?_drop]
          have e : 3 + i + [SV.v (.int .u32 (crc8 i))].length + (j - (List.take (3 + i) (h ++ tabN i) ++ [SV.v (.int .u32 (crc8 i))]).length) = j := by simp [tabN, h3]; omega
          rw [e, List.getElem?_append_right (by omega), h3]
          unfold tabN
          simp only [List.getElem?_map, List.getElem?_range (show j - 3 < 256 by omega), Option.map_some]
          rw [if_neg (by omega), if_neg (by omega)]
        · rw [List.getElem?_eq_none (by simp [tabN, h3]; omega), List.getElem?_eq_none (by simp [tabN]; omega)]
theorem w_u32 {x : Int} (h1 : 0 ≤ x) (h2 : x < 4294967296) : IntKind.u32.wrap x = x := by
  rw [IntKind.wrap_u32]; omega
def c172 [Inp] : Trans := fun args m k => match args with
  | [.ptr j 0] => ∃ h : List SV, h.length = 3 ∧ plainL h = true ∧ m[j]? = some ⟨true, tabM h 0⟩ ∧ k (.tup []) (m.set j ⟨true, tabM h 256⟩)
  | _ => False
theorem tabM_plain {h : List SV} (hp : plainL h = true) (i : Nat) : plainL (tabM h i) = true := by
  have : ∀ (a b : List SV), plainL a = true → plainL b = true → plainL (a ++ b) = true := by
    intro a b ha hb
    induction a with
    | nil => exact hb
    | cons x a ih => simp only [List.cons_append, plainL, Bool.and_eq_true] at ha ⊢; exact ⟨ha.1, ih ha.2⟩
  refine this _ _ hp ?_
  unfold tabN
  generalize List.range 256 = l
  induction l with
  | nil => rfl
  | cons x l ih => simp only [List.map_cons, plainL, SV.plain, Bool.true_and]; exact ih
theorem c172_ok [Inp] : Contract Try.prog 172 false c172 := by
  refine .meth fn172 (G := fun _ => []) (fun J => @g0 J _) _ fun args m k h => ?_
  unfold c172 at h
  split at h
  case h_2 => exact h.elim
  rename_i j
  obtain ⟨hd, h3, hp, hob, hk⟩ := h
  refine ⟨j, 0, [], _, rfl, hob, tabM_plain hp 0, by decide, fun J hJ vs hvs => ?_⟩
  obtain rfl : vs = [] := by simpa only [KnowsL] using hvs
  have hl := tabM_len h3
  have hL : ∀ i, LeL [0] (tabM hd i) (tabM hd i) := fun i => LeL_plain _ (tabM_plain hp i)
  simp (maxSteps := 2000000) -implicitDefEqProofs only [↓x172, ↓r172, Sz.s_alt, Sz.s_alt20, Sz.s_alt2t, Sz.s_alt2f, ↓Sz.s_loopi, ↓Sz.v_pq, ↓Sz.PRE, Sz.POST, Sz.CORE, Nat.reduceDiv, Nat.reduceMod, Int.reduceLT, Int.reduceLE, Int.reduceToNat, Int.reduceAdd, ↓reduceIte, Nat.reduceEqDiff, Nat.reduceAdd, Nat.reduceMul, Nat.reduceSub, Nat.reduceLeDiff, Nat.reduceLT, reduceCtorEq, if_true, eq_self, forall_const, implies_true]
  refine TXi_of (TX_count (g0 _) 256 (fun x => [(0, .ptr 0 0), (5, .v (.int .i64 (x : Int)))]) (fun x => [⟨true, tabM hd x⟩]) (fun x => True) trivial ?_ ?_ ?_)
  · exact ⟨[0], by simp [Sz.NdL, Sz.NdA, Sz.oO_cells, Sz.oO_own, Sz.iL_nil], by simp only [FitM, ObLe, LeL, Le, List.cons_append, List.nil_append] <;> (try (simp (maxSteps := 2000000) -implicitDefEqProofs only [hL, Sz.s_alt, Sz.s_alt20, Sz.s_alt2t, Sz.s_alt2f, ↓Sz.s_loopi, ↓Sz.v_pq, ↓Sz.PRE, Sz.POST, Sz.CORE, Nat.reduceDiv, Nat.reduceMod, Int.reduceLT, Int.reduceLE, Int.reduceToNat, Int.reduceAdd, ↓reduceIte, Nat.reduceEqDiff, Nat.reduceAdd, Nat.reduceMul, Nat.reduceSub, Nat.reduceLeDiff, Nat.reduceLT, reduceCtorEq, if_true, eq_self, forall_const, implies_true])) <;> (try simp), by simp only [FitE, Le, LeL, List.cons_append, List.nil_append] <;> (try (simp (maxSteps := 2000000) -implicitDefEqProofs only [hL, Sz.s_alt, Sz.s_alt20, Sz.s_alt2t, Sz.s_alt2f, ↓Sz.s_loopi, ↓Sz.v_pq, ↓Sz.PRE, Sz.POST, Sz.CORE, Nat.reduceDiv, Nat.reduceMod, Int.reduceLT, Int.reduceLE, Int.reduceToNat, Int.reduceAdd, ↓reduceIte, Nat.reduceEqDiff, Nat.reduceAdd, Nat.reduceMul, Nat.reduceSub, Nat.reduceLeDiff, Nat.reduceLT, reduceCtorEq, if_true, eq_self, forall_const, implies_true])) <;> (try simp only [Sz.Le, Sz.LeL, List.getElem?_cons_zero, List.getElem?_cons_succ]) <;> (try simp), keep1 hJ rfl⟩
  · intro x hx _
    have i0 : (0 : Int) ≤ (x : Int) := by omega
    have i1 : (x : Int) < 256 := by omega
    have w1 : IntKind.i64.wrap ((x : Int) + 1) = (x : Int) + 1 := Sz.w_64 (by omega) (by omega)
    have w2 : IntKind.u32.wrap (x : Int) = (x : Int) := w_u32 (by omega) (by omega)
    simp (maxSteps := 2000000) -implicitDefEqProofs only [i0, i1, w1, w2, Sz.s_alt, Sz.s_alt20, Sz.s_alt2t, Sz.s_alt2f, ↓Sz.s_loopi, ↓Sz.v_pq, ↓Sz.PRE, Sz.POST, Sz.CORE, Nat.reduceDiv, Nat.reduceMod, Int.reduceLT, Int.reduceLE, Int.reduceToNat, Int.reduceAdd, ↓reduceIte, Nat.reduceEqDiff, Nat.reduceAdd, Nat.reduceMul, Nat.reduceSub, Nat.reduceLeDiff, Nat.reduceLT, reduceCtorEq, if_true, eq_self, forall_const, implies_true]
    refine TXi_of (TX_count (g0 _) 8 (fun y => [(0, .ptr 0 0), (2, .v (.int .i64 (x : Int))), (3, .v (.int .u32 (stepN y x))), (5, .v (.int .i64 (x : Int))), (10, .v (.int .i64 (y : Int)))]) (fun y => [⟨true, tabM hd x⟩]) (fun x => True) trivial ?_ ?_ ?_)
    · exact ⟨[0], by simp [Sz.NdL, Sz.NdA, Sz.oO_cells, Sz.oO_own, Sz.iL_nil], by simp only [FitM, ObLe, LeL, Le, List.cons_append, List.nil_append] <;> (try (simp (maxSteps := 2000000) -implicitDefEqProofs only [hL, stepN, Sz.s_alt, Sz.s_alt20, Sz.s_alt2t, Sz.s_alt2f, ↓Sz.s_loopi, ↓Sz.v_pq, ↓Sz.PRE, Sz.POST, Sz.CORE, Nat.reduceDiv, Nat.reduceMod, Int.reduceLT, Int.reduceLE, Int.reduceToNat, Int.reduceAdd, ↓reduceIte, Nat.reduceEqDiff, Nat.reduceAdd, Nat.reduceMul, Nat.reduceSub, Nat.reduceLeDiff, Nat.reduceLT, reduceCtorEq, if_true, eq_self, forall_const, implies_true])) <;> (try simp), by simp only [FitE, Le, LeL, List.cons_append, List.nil_append] <;> (try (simp (maxSteps := 2000000) -implicitDefEqProofs only [hL, stepN, Sz.s_alt, Sz.s_alt20, Sz.s_alt2t, Sz.s_alt2f, ↓Sz.s_loopi, ↓Sz.v_pq, ↓Sz.PRE, Sz.POST, Sz.CORE, Nat.reduceDiv, Nat.reduceMod, Int.reduceLT, Int.reduceLE, Int.reduceToNat, Int.reduceAdd, ↓reduceIte, Nat.reduceEqDiff, Nat.reduceAdd, Nat.reduceMul, Nat.reduceSub, Nat.reduceLeDiff, Nat.reduceLT, reduceCtorEq, if_true, eq_self, forall_const, implies_true])) <;> (try simp only [Sz.Le, Sz.LeL, List.getElem?_cons_zero, List.getElem?_cons_succ]) <;> (try simp), keep1 hJ rfl⟩
    · intro y hy _
      have i2 : (0 : Int) ≤ (y : Int) := by omega
      have i3 : (y : Int) < 8 := by omega
      have w3 : IntKind.i64.wrap ((y : Int) + 1) = (y : Int) + 1 := Sz.w_64 (by omega) (by omega)
      simp (maxSteps := 2000000) -implicitDefEqProofs only [i2, i3, w3, Sz.s_alt, Sz.s_alt20, Sz.s_alt2t, Sz.s_alt2f, ↓Sz.s_loopi, ↓Sz.v_pq, ↓Sz.PRE, Sz.POST, Sz.CORE, Nat.reduceDiv, Nat.reduceMod, Int.reduceLT, Int.reduceLE, Int.reduceToNat, Int.reduceAdd, ↓reduceIte, Nat.reduceEqDiff, Nat.reduceAdd, Nat.reduceMul, Nat.reduceSub, Nat.reduceLeDiff, Nat.reduceLT, reduceCtorEq, if_true, eq_self, forall_const, implies_true]
      split
      · rename_i hc
        have e : stepN (y + 1) x = xoI (shI (stepN y x)) 2197175160 := if_pos (by simpa [lowI] using hc)
        rw [e]
        exact ⟨[0], by simp [Sz.NdL, Sz.NdA, Sz.oO_cells, Sz.oO_own, Sz.iL_nil], by simp only [FitM, ObLe, LeL, Le, List.cons_append, List.nil_append] <;> (try (simp (maxSteps := 2000000) -implicitDefEqProofs only [hL, shI, xoI, Sz.s_alt, Sz.s_alt20, Sz.s_alt2t, Sz.s_alt2f, ↓Sz.s_loopi, ↓Sz.v_pq, ↓Sz.PRE, Sz.POST, Sz.CORE, Nat.reduceDiv, Nat.reduceMod, Int.reduceLT, Int.reduceLE, Int.reduceToNat, Int.reduceAdd, ↓reduceIte, Nat.reduceEqDiff, Nat.reduceAdd, Nat.reduceMul, Nat.reduceSub, Nat.reduceLeDiff, Nat.reduceLT, reduceCtorEq, if_true, eq_self, forall_const, implies_true])) <;> (try simp), by simp only [FitE, Le, LeL, List.cons_append, List.nil_append] <;> (try (simp (maxSteps := 2000000) -implicitDefEqProofs only [hL, shI, xoI, Sz.s_alt, Sz.s_alt20, Sz.s_alt2t, Sz.s_alt2f, ↓Sz.s_loopi, ↓Sz.v_pq, ↓Sz.PRE, Sz.POST, Sz.CORE, Nat.reduceDiv, Nat.reduceMod, Int.reduceLT, Int.reduceLE, Int.reduceToNat, Int.reduceAdd, ↓reduceIte, Nat.reduceEqDiff, Nat.reduceAdd, Nat.reduceMul, Nat.reduceSub, Nat.reduceLeDiff, Nat.reduceLT, reduceCtorEq, if_true, eq_self, forall_const, implies_true])) <;> (try simp only [Sz.Le, Sz.LeL, List.getElem?_cons_zero, List.getElem?_cons_succ]) <;> (try simp), keep1 hJ rfl⟩
      · rename_i hc
        have e : stepN (y + 1) x = shI (stepN y x) := if_neg (by simpa [lowI] using hc)
        rw [e]
        exact ⟨[0], by simp [Sz.NdL, Sz.NdA, Sz.oO_cells, Sz.oO_own, Sz.iL_nil], by simp only [FitM, ObLe, LeL, Le, List.cons_append, List.nil_append] <;> (try (simp (maxSteps := 2000000) -implicitDefEqProofs only [hL, shI, xoI, Sz.s_alt, Sz.s_alt20, Sz.s_alt2t, Sz.s_alt2f, ↓Sz.s_loopi, ↓Sz.v_pq, ↓Sz.PRE, Sz.POST, Sz.CORE, Nat.reduceDiv, Nat.reduceMod, Int.reduceLT, Int.reduceLE, Int.reduceToNat, Int.reduceAdd, ↓reduceIte, Nat.reduceEqDiff, Nat.reduceAdd, Nat.reduceMul, Nat.reduceSub, Nat.reduceLeDiff, Nat.reduceLT, reduceCtorEq, if_true, eq_self, forall_const, implies_true])) <;> (try simp), by simp only [FitE, Le, LeL, List.cons_append, List.nil_append] <;> (try (simp (maxSteps := 2000000) -implicitDefEqProofs only [hL, shI, xoI, Sz.s_alt, Sz.s_alt20, Sz.s_alt2t, Sz.s_alt2f, ↓Sz.s_loopi, ↓Sz.v_pq, ↓Sz.PRE, Sz.POST, Sz.CORE, Nat.reduceDiv, Nat.reduceMod, Int.reduceLT, Int.reduceLE, Int.reduceToNat, Int.reduceAdd, ↓reduceIte, Nat.reduceEqDiff, Nat.reduceAdd, Nat.reduceMul, Nat.reduceSub, Nat.reduceLeDiff, Nat.reduceLT, reduceCtorEq, if_true, eq_self, forall_const, implies_true])) <;> (try simp only [Sz.Le, Sz.LeL, List.getElem?_cons_zero, List.getElem?_cons_succ]) <;> (try simp), keep1 hJ rfl⟩
    · intro _
      simp (maxSteps := 2000000) -implicitDefEqProofs only [i0, i1, w1, hl, Sz.s_alt, Sz.s_alt20, Sz.s_alt2t, Sz.s_alt2f, ↓Sz.s_loopi, ↓Sz.v_pq, ↓Sz.PRE, Sz.POST, Sz.CORE, Nat.reduceDiv, Nat.reduceMod, Int.reduceLT, Int.reduceLE, Int.reduceToNat, Int.reduceAdd, ↓reduceIte, Nat.reduceEqDiff, Nat.reduceAdd, Nat.reduceMul, Nat.reduceSub, Nat.reduceLeDiff, Nat.reduceLT, reduceCtorEq, if_true, eq_self, forall_const, implies_true]
      refine ⟨by omega, ?_⟩
      rw [show stepN 8 (x : Int) = crc8 x from rfl, tabM_step h3 hx]
      exact ⟨[0], by simp [Sz.NdL, Sz.NdA, Sz.oO_cells, Sz.oO_own, Sz.iL_nil], by simp only [FitM, ObLe, LeL, Le, List.cons_append, List.nil_append] <;> (try (simp (maxSteps := 2000000) -implicitDefEqProofs only [hL, Sz.s_alt, Sz.s_alt20, Sz.s_alt2t, Sz.s_alt2f, ↓Sz.s_loopi, ↓Sz.v_pq, ↓Sz.PRE, Sz.POST, Sz.CORE, Nat.reduceDiv, Nat.reduceMod, Int.reduceLT, Int.reduceLE, Int.reduceToNat, Int.reduceAdd, ↓reduceIte, Nat.reduceEqDiff, Nat.reduceAdd, Nat.reduceMul, Nat.reduceSub, Nat.reduceLeDiff, Nat.reduceLT, reduceCtorEq, if_true, eq_self, forall_const, implies_true])) <;> (try simp), by simp only [FitE, Le, LeL, List.cons_append, List.nil_append] <;> (try (simp (maxSteps := 2000000) -implicitDefEqProofs only [hL, Sz.s_alt, Sz.s_alt20, Sz.s_alt2t, Sz.s_alt2f, ↓Sz.s_loopi, ↓Sz.v_pq, ↓Sz.PRE, Sz.POST, Sz.CORE, Nat.reduceDiv, Nat.reduceMod, Int.reduceLT, Int.reduceLE, Int.reduceToNat, Int.reduceAdd, ↓reduceIte, Nat.reduceEqDiff, Nat.reduceAdd, Nat.reduceMul, Nat.reduceSub, Nat.reduceLeDiff, Nat.reduceLT, reduceCtorEq, if_true, eq_self, forall_const, implies_true])) <;> (try simp only [Sz.Le, Sz.LeL, List.getElem?_cons_zero, List.getElem?_cons_succ]) <;> (try simp), keep1 hJ rfl⟩
  · intro _
    simp (maxSteps := 2000000) -implicitDefEqProofs only [hl, Sz.s_alt, Sz.s_alt20, Sz.s_alt2t, Sz.s_alt2f, ↓Sz.s_loopi, ↓Sz.v_pq, ↓Sz.PRE, Sz.POST, Sz.CORE, Nat.reduceDiv, Nat.reduceMod, Int.reduceLT, Int.reduceLE, Int.reduceToNat, Int.reduceAdd, ↓reduceIte, Nat.reduceEqDiff, Nat.reduceAdd, Nat.reduceMul, Nat.reduceSub, Nat.reduceLeDiff, Nat.reduceLT, reduceCtorEq, if_true, eq_self, forall_const, implies_true]
    exact ⟨_, rfl, tabM_plain hp 256, hk⟩
/-! ### sync.Once's Do, as the walks want it -/
def hd0 : List SV := [.v (.int .u32 0), .v (.int .i32 0), .v (.int .u32 0)]
def hdm : List SV := [.v (.int .u32 0), .v (.int .i32 1), .v (.int .u32 0)]
def hd1 : List SV := [.v (.int .u32 1), .v (.int .i32 0), .v (.int .u32 0)]
def c171 [Inp] : Trans := fun args m k => match args with
  | [.ptr j 0, .bnd f [.ptr j' 0]] => (f = 172 ∧ j' = j ∧ m[j]? = some ⟨true, tabM hd0 0⟩) ∧ k (.tup []) (m.set j ⟨true, tabM hd1 256⟩)
  | _ => False
theorem c171_ok [Inp] : Contract Try.prog 171 false c171 := by
  refine ⟨⟨_, Try.func171, by kernel_rfl, by kernel_rfl⟩, fun args m k base w0 W r vs ht hst ha => ?_⟩
  unfold c171 at ht
  split at ht
  case h_2 => exact ht.elim
  rename_i j f j'
  obtain ⟨⟨rfl, rfl, hob⟩, hk⟩ := ht
  obtain ⟨l, t1, hl, rfl, ha1⟩ := ptr_inv ha
  simp only [SV.IsL, SV.Is] at ha1
  obtain ⟨u2, t2, rfl, ⟨us2, rfl, u3, t3, rfl, ⟨l3, hl3, rfl⟩, rfl⟩, rfl⟩ := ha1
  rw [hl] at hl3; injection hl3 with hl3; subst hl3
  have hj : j' < m.length := (List.getElem?_eq_some_iff.1 hob).1
  have len0 : ∀ h : List SV, h.length = 3 → ∀ i o, o ≤ 2 → o < (tabM h i).length := fun h h3 i o ho => by rw [tabM_len h3]; omega
  obtain ⟨l4, x0, hl4, h0, i0⟩ := hst.cellAt (o := 0) (s := .v (.int .u32 0)) hob rfl
  rw [hl] at hl4; injection hl4 with hl4; subst hl4
  obtain ⟨l5, x1, hl5, h1, i1⟩ := hst.cellAt (o := 1) (s := .v (.int .i32 0)) hob rfl
  rw [hl] at hl5; injection hl5 with hl5; subst hl5
  simp only [SV.Is] at i0 i1
  subst i0 i1
  obtain ⟨f1, hst1⟩ := hst.setAt (o := 1) (s' := .v (.int .i32 1)) (u := .int .i32 1) hl hob rfl (len0 hd0 rfl 0 1 (by omega)) (by simp only [SV.Is])
  have hob1 : (m.set j' ⟨true, (tabM hd0 0).set 1 (.v (.int .i32 1))⟩)[j']? = some ⟨true, tabM hdm 0⟩ := by
    rw [List.getElem?_set_self hj]
    rfl
  have hcall := c172_ok.calls [.ptr j' 0] _ (fun _ m' => m' = (m.set j' ⟨true, (tabM hd0 0).set 1 (.v (.int .i32 1))⟩).set j' ⟨true, tabM hdm 256⟩) base w0 _ r [.pointer (some ⟨l.blk, l.off + 0, none⟩)] ⟨hdm, rfl, rfl, hob1, rfl⟩ hst1 (by
    simp only [SV.IsL, SV.Is]
    exact ⟨_, _, rfl, ⟨l, hl, rfl⟩, rfl⟩)
  rw [List.set_set] at hcall
  have hobE : (m.set j' ⟨true, tabM hdm 256⟩)[j']? = some ⟨true, tabM hdm 256⟩ := List.getElem?_set_self hj
  have app : ∀ t, (r ++ t)[j']? = some l := fun t => by rw [List.getElem?_append_left (List.getElem?_eq_some_iff.1 hl).1]; exact hl
  refine (n_do l.blk l.off W (fun w2 => ∃ t, St base w0 (r ++ t) (m.set j' ⟨true, tabM hdm 256⟩) w2) h0 h1 f1 (hcall.mono ?_) ?_).mono ?_
  · rintro e W1 ⟨s, m', t, u, rfl, rfl, hst2, _, _⟩
    exact ⟨⟨u, rfl⟩, t, hst2⟩
  · rintro w2 ⟨t, hst2⟩
    obtain ⟨l6, y0, hl6, g0, _⟩ := hst2.cellAt (o := 0) (s := .v (.int .u32 0)) hobE rfl
    rw [app] at hl6; injection hl6 with hl6; subst hl6
    obtain ⟨l7, y1, hl7, g1, e1⟩ := hst2.cellAt (o := 1) (s := .v (.int .i32 1)) hobE rfl
    rw [app] at hl7; injection hl7 with hl7; subst hl7
    simp only [SV.Is] at e1
    subst e1
    exact ⟨⟨_, g0⟩, g1, (hst2.setAt (o := 0) (s' := .v (.int .i32 1)) (u := .int .i32 1) (app t) hobE rfl (len0 hdm rfl 256 0 (by omega)) (by simp only [SV.Is])).1, (hst2.setAt (o := 1) (s' := .v (.int .i32 1)) (u := .int .i32 1) (app t) hobE rfl (len0 hdm rfl 256 1 (by omega)) (by simp only [SV.Is])).1⟩
  · rintro e W1 ⟨rfl, w2, ⟨t, hst2⟩, rfl⟩
    have a1 := (hst2.drew.setAt (o := 0) (s' := .v (.int .u32 1)) (u := .int .u32 1) (app t) hobE rfl (len0 hdm rfl 256 0 (by omega)) (by simp only [SV.Is])).2
    rw [List.set_set] at a1
    have hobF : (m.set j' ⟨true, (tabM hdm 256).set 0 (.v (.int .u32 1))⟩)[j']? = some ⟨true, (tabM hdm 256).set 0 (.v (.int .u32 1))⟩ := List.getElem?_set_self hj
    have a2 := (a1.setAt (o := 1) (s' := .v (.int .i32 0)) (u := .int .i32 0) (app t) hobF rfl (by show 1 < ((tabM hdm 256).set 0 (.v (.int .u32 1))).length; rw [List.length_set]; exact len0 hdm rfl 256 1 (by omega)) (by simp only [SV.Is])).2
    rw [List.set_set] at a2
    exact ⟨.tup [], _, t, _, hk, rfl, a2, by simp only [SV.Is]; exact ⟨[], rfl, by simp only [SV.IsL]⟩, fun h => by cases h⟩
end Go.Proofs.Ytibefgdjijmncaa
