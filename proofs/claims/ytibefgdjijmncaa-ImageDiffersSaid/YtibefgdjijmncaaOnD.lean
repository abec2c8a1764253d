/- Layer 2 (sum): a sum of bytes. -/
import Derived.Test.YtibefgdjijmncaaOnC
namespace Go.Proofs.Ytibefgdjijmncaa
open Go.RowKit Sz
set_option linter.unusedVariables false
set_option linter.unusedSimpArgs false
set_option maxHeartbeats 4000000
set_option maxRecDepth 20000
-- (*almshouse/sum.table).on (3 parameters)
def x165 : XC := (.seq (.tree (.seq ⟨some 6, none, (.ofA (.mv (.cst (.v (.int .u32 0)))))⟩
  .done))
 (.seq (.tree (.seq ⟨some 9, none, (.ofA (.mv (.tmp 0)))⟩
  (.seq ⟨some 10, none, (.ofA (.nilc (.tmp 9)))⟩
  (.seq ⟨some 11, none, (.ofA (.faddr 0 (.tmp 10)))⟩
  (.seq ⟨some 12, none, (.ofA (.mv (.tmp 0)))⟩
  (.seq ⟨some 13, none, (.ofA (.mkbnd 172 [(.tmp 12)]))⟩
  (.seq ⟨some 14, none, (.call (.cst (.fn 171 [])) [(.tmp 11), (.tmp 13)])⟩
  .done)))))))
 (.seq (.seq (.tree (.seq ⟨some 15, none, (.ofA (.mv (.tmp 2)))⟩
  (.seq ⟨some 16, none, (.ofA (.len (.tmp 15)))⟩
  (.seq ⟨some 17, none, (.ofA (.mv (.cst (.v (.int .i64 0)))))⟩
  .done))))
 (.block 0 (.loop (.seq (.tree (.seq ⟨some 18, none, (.ofA (.bin .lss (.tmp 17) (.tmp 16)))⟩
  .done))
 (.seq (.cond (.tmp 18)
 .skip
 (.exit 0))
 (.seq (.block 1 (.seq (.tree (.seq ⟨some 19, none, (.ofA (.isl 1 (.tmp 15) (.tmp 17)))⟩
  (.seq ⟨some 20, none, (.ofA (.load none (.tmp 19)))⟩
  (.seq ⟨some 8, none, (.ofA (.mv (.tmp 20)))⟩
  .done))))
 (.tree (.seq ⟨some 21, none, (.ofA (.mv (.tmp 1)))⟩
  (.seq ⟨some 22, none, (.ofA (.bin .shr (.tmp 21) (.cst (.v (.int .u64 8)))))⟩
  (.seq ⟨some 23, none, (.ofA (.mv (.tmp 0)))⟩
  (.seq ⟨some 24, none, (.ofA (.mv (.tmp 1)))⟩
  (.seq ⟨some 25, none, (.ofA (.conv .u8 (.tmp 24)))⟩
  (.seq ⟨some 26, none, (.ofA (.mv (.tmp 8)))⟩
  (.seq ⟨some 27, none, (.ofA (.bin .xor (.tmp 25) (.tmp 26)))⟩
  (.seq ⟨some 28, none, (.ofA (.nilc (.tmp 23)))⟩
  (.seq ⟨some 29, none, (.ofA (.faddr 3 (.tmp 28)))⟩
  (.seq ⟨some 30, none, (.ofA (.iarr 256 1 (.tmp 29) (.tmp 27)))⟩
  (.seq ⟨some 31, none, (.ofA (.load none (.tmp 30)))⟩
  (.seq ⟨some 32, none, (.ofA (.bin .xor (.tmp 22) (.tmp 31)))⟩
  (.seq ⟨some 1, none, (.ofA (.mv (.tmp 32)))⟩
  .done))))))))))))))))
 (.tree (.seq ⟨some 33, none, (.ofA (.bin .add (.tmp 17) (.cst (.v (.int .i64 1)))))⟩
  (.seq ⟨some 17, none, (.ofA (.mv (.tmp 33)))⟩
  .done)))))))))
 (.seq (.tree (.seq ⟨some 34, none, (.ofA (.mv (.tmp 1)))⟩
  (.seq ⟨some 6, none, (.ofA (.mv (.tmp 34)))⟩
  .done)))
 .ret))))
def r165 : List XR := [.tmp 6]
theorem fn165 : FnX Try.prog 165 [] 35 x165 r165 := ⟨_, Try.func165, by kernel_rfl, by kernel_rfl, by kernel_rfl, by kernel_rfl⟩
-- almshouse/sum.On (2 parameters)
def x147 : XC := (.seq (.tree (.seq ⟨some 4, none, (.ofA (.mv (.cst (.v (.int .u32 0)))))⟩
  .done))
 (.seq (.tree (.seq ⟨some 5, none, (.alloc (tabM hd0 0))⟩
  .done))
 (.seq (.tree (.seq ⟨some 6, none, (.ofA (.mv (.tmp 0)))⟩
  (.seq ⟨some 7, none, (.ofA (.un .xor (.tmp 6)))⟩
  (.seq ⟨some 8, none, (.ofA (.mv (.tmp 1)))⟩
  (.seq ⟨some 9, none, (.call (.cst (.fn 165 [])) [(.tmp 5), (.tmp 7), (.tmp 8)])⟩
  (.seq ⟨some 10, none, (.ofA (.un .xor (.tmp 9)))⟩
  (.seq ⟨some 4, none, (.ofA (.mv (.tmp 10)))⟩
  .done)))))))
 .ret)))
def r147 : List XR := [.tmp 4]
theorem fn147 : FnX Try.prog 147 [] 11 x147 r147 := ⟨_, Try.func147, by kernel_rfl, by kernel_rfl, by kernel_rfl, by kernel_rfl⟩
-- almshouse/sum.Of (1 parameters)
def x123 : XC := (.seq (.tree (.seq ⟨some 2, none, (.ofA (.mv (.cst (.v (.int .u32 0)))))⟩
  .done))
 (.seq (.tree (.seq ⟨some 3, none, (.ofA (.mv (.tmp 0)))⟩
  (.seq ⟨some 4, none, (.call (.cst (.fn 147 [])) [(.cst (.v (.int .u32 0))), (.tmp 3)])⟩
  (.seq ⟨some 2, none, (.ofA (.mv (.tmp 4)))⟩
  .done))))
 .ret))
def r123 : List XR := [.tmp 2]
theorem fn123 : FnX Try.prog 123 [] 5 x123 r123 := ⟨_, Try.func123, by kernel_rfl, by kernel_rfl, by kernel_rfl, by kernel_rfl⟩

/-! ### Bytes that are read -/
def bL (xs : List Int) : List SV := xs.map fun x => .v (.int .u8 x)
theorem bL_eq (xs : List Int) : bL xs = (xs.map (Value.int .u8)).map SV.v := by simp [bL, List.map_map, Function.comp_def]
def decB : List SV → Option (List Int)
  | [] => some []
  | .v (.int .u8 x) :: l => (decB l).map (x :: ·)
  | _ :: _ => none
theorem decB_inv : ∀ {l : List SV} {xs : List Int}, decB l = some xs → l = bL xs
  | [], xs, h => by simp only [decB] at h; injection h with h; subst h; rfl
  | a :: l, xs, h => by
    unfold decB at h
    split at h
    · rename_i heq; cases heq
    · rename_i heq
      cases heq
      obtain ⟨ys, h1, rfl⟩ := Option.map_eq_some_iff.1 h
      rw [decB_inv h1]
      rfl
    · cases h
theorem decB_bL {xs : List Int} : decB (bL xs) = some xs := by
  induction xs with
  | nil => rfl
  | cons x xs ih =>
    show (decB (bL xs)).map (x :: ·) = _
    rw [ih]
    rfl
def rdB [Inp] (m : Mem) (s : SV) : Option (List Int) := (slOf m 1 s).bind fun p => decB p.2
theorem rdB_knows {I J : Inp} {m : Mem} {s : SV} {u : Value} {xs : List Int} (h : @rdB I m s = some xs) (hk : Knows I J m s u) :
    ∃ p c, u = .slice p xs.length c ∧ @inpL J p xs.length = some (xs.map (Value.int .u8)) := by
  unfold rdB at h
  obtain ⟨⟨n, ys⟩, h1, h2⟩ := Option.bind_eq_some_iff.1 h
  have h3 := decB_inv h2
  simp only at h3
  subst h3
  have hl := @slOf_len I _ _ _ _ _ h1
  have hn : n = xs.length := by simpa [bL] using hl.symm
  subst hn
  rw [bL_eq] at h1
  obtain ⟨p, c, rfl, h5⟩ := hk.2.2 1 _ _ h1
  rw [Nat.mul_one] at h5
  exact ⟨p, c, rfl, h5⟩
theorem rdB_v [Inp] {m : Mem} {p : Option Addr} {n c : Nat} {xs : List Int} (h : inpL p n = some (xs.map (Value.int .u8))) : rdB m (.v (.slice p n c)) = some xs := by
  unfold rdB
  simp only [slOf, Nat.mul_one, h, Option.map_some, Option.bind_some]
  rw [← bL_eq, decB_bL]
theorem inpB_at [Inp] {p : Option Addr} {xs : List Int} (h : inpL p xs.length = some (xs.map (Value.int .u8))) {i : Nat} {x : Int} (hx : xs[i]? = some x) : inpL (plusA p i) 1 = some [.int .u8 x] := by
  have hlt := (List.getElem?_eq_some_iff.1 hx).1
  rw [inpL_part h (by omega)]
  congr 1
  have := (List.getElem?_eq_some_iff.1 hx).2
  rw [← List.map_drop, ← List.map_take, List.drop_eq_getElem_cons hlt, this]
  rfl
/-! ### The sum -/
def ixI (v c : Int) : Int := IntKind.u8.wrap (BitVec.ofInt IntKind.u8.bits (IntKind.u8.wrap v) ^^^ BitVec.ofInt IntKind.u8.bits c).toNat
theorem ixI_lo (v c : Int) : 0 ≤ ixI v c := by unfold ixI; rw [IntKind.wrap_u8]; omega
theorem ixI_hi (v c : Int) : ixI v c < 256 := by unfold ixI; rw [IntKind.wrap_u8]; omega
def sh8 (v : Int) : Int := v.fdiv (2 ^ (min (8 : Int).toNat IntKind.u32.bits))
def onS (v c : Int) : Int := xoI (sh8 v) (crc8 (ixI v c).toNat)
def onF (v : Int) (bs : List Int) : Int := bs.foldl onS v
theorem onF_snoc {v : Int} {bs : List Int} {x : Nat} {c : Int} (h : bs[x]? = some c) : onF v (bs.take (x + 1)) = onS (onF v (bs.take x)) c := by
  unfold onF
  rw [List.take_add_one, h]
  simp
theorem tabM_get {h : List SV} (h3 : h.length = 3) {i : Nat} (hi : i < 256) : (tabM h 256)[3 + i]? = some (.v (.int .u32 (crc8 i))) := by
  unfold tabM tabN
  rw [List.getElem?_append_right (by omega), h3, show 3 + i - 3 = i by omega]
  simp only [List.getElem?_map, List.getElem?_range hi, Option.map_some]
  rw [if_pos hi]
def c165 [Inp] : Trans := fun args m k => match args with
  | [.ptr j 0, .v (.int .u32 v), b] => (m[j]? = some ⟨true, tabM hd0 0⟩) ∧ ∃ bs : List Int, rdB (m.set j ⟨false, []⟩) b = some bs ∧ bs.length ≤ 9223372036854775807 ∧ k (.v (.int .u32 (onF v bs))) (m.set j ⟨true, tabM hd1 256⟩)
  | _ => False
theorem g171 [Inp] : GOk Try.prog [⟨171, false, c171⟩] := GOk.cons c171_ok (g0 _)
theorem c165_ok [Inp] : Contract Try.prog 165 false c165 := by
  refine .meth fn165 (G := fun J => [⟨171, false, @c171 J⟩]) (fun J => @g171 J) _ fun args m k h => ?_
  unfold c165 at h
  split at h
  case h_2 => exact h.elim
  rename_i j v b
  obtain ⟨hob, bs, hb, hmax, hk⟩ := h
  refine ⟨j, 0, [.v (.int .u32 v), b], _, rfl, hob, tabM_plain rfl 0, by simp, fun J hJ vs hvs => ?_⟩
  obtain ⟨u1, t1, rfl, hk1, u2, t2, rfl, hk2, rfl⟩ := hvs
  obtain rfl := hk1.1 _ rfl
  obtain ⟨p, c, rfl, hin⟩ := rdB_knows hb hk2
  have hl := tabM_len (h := hd1) rfl
  have hL : ∀ i, LeL [0] (tabM hd1 i) (tabM hd1 i) := fun i => LeL_plain _ (tabM_plain rfl i)
  simp (maxSteps := 2000000) -implicitDefEqProofs only [↓x165, ↓r165, c171, Sz.s_alt, Sz.s_alt20, Sz.s_alt2t, Sz.s_alt2f, ↓Sz.s_loopi, ↓Sz.v_pq, ↓Sz.PRE, Sz.POST, Sz.CORE, Nat.reduceDiv, Nat.reduceMod, Int.reduceLT, Int.reduceLE, Int.reduceToNat, Int.reduceAdd, ↓reduceIte, Nat.reduceEqDiff, Nat.reduceAdd, Nat.reduceMul, Nat.reduceSub, Nat.reduceLeDiff, Nat.reduceLT, reduceCtorEq, if_true, eq_self, forall_const, implies_true]
  refine TXi_of (TX_count (g171) bs.length (fun x => [(0, .ptr 0 0), (1, .v (.int .u32 (onF v (bs.take x)))), (15, .v (.slice p bs.length c)), (16, .v (.int .i64 (bs.length : Int))), (17, .v (.int .i64 (x : Int)))]) (fun x => [⟨true, tabM hd1 256⟩]) (fun x => True) trivial ?_ ?_ ?_)
  · exact ⟨[0], by simp [Sz.NdL, Sz.NdA, Sz.oO_cells, Sz.oO_own, Sz.iL_nil], by simp only [FitM, ObLe, LeL, Le, List.cons_append, List.nil_append] <;> (try (simp (maxSteps := 2000000) -implicitDefEqProofs only [hL, List.take_zero, onF, List.foldl_nil, Sz.s_alt, Sz.s_alt20, Sz.s_alt2t, Sz.s_alt2f, ↓Sz.s_loopi, ↓Sz.v_pq, ↓Sz.PRE, Sz.POST, Sz.CORE, Nat.reduceDiv, Nat.reduceMod, Int.reduceLT, Int.reduceLE, Int.reduceToNat, Int.reduceAdd, ↓reduceIte, Nat.reduceEqDiff, Nat.reduceAdd, Nat.reduceMul, Nat.reduceSub, Nat.reduceLeDiff, Nat.reduceLT, reduceCtorEq, if_true, eq_self, forall_const, implies_true])) <;> (try simp), by simp only [FitE, Le, LeL, List.cons_append, List.nil_append] <;> (try (simp (maxSteps := 2000000) -implicitDefEqProofs only [hL, List.take_zero, onF, List.foldl_nil, Sz.s_alt, Sz.s_alt20, Sz.s_alt2t, Sz.s_alt2f, ↓Sz.s_loopi, ↓Sz.v_pq, ↓Sz.PRE, Sz.POST, Sz.CORE, Nat.reduceDiv, Nat.reduceMod, Int.reduceLT, Int.reduceLE, Int.reduceToNat, Int.reduceAdd, ↓reduceIte, Nat.reduceEqDiff, Nat.reduceAdd, Nat.reduceMul, Nat.reduceSub, Nat.reduceLeDiff, Nat.reduceLT, reduceCtorEq, if_true, eq_self, forall_const, implies_true])) <;> (try simp only [Sz.Le, Sz.LeL, List.getElem?_cons_zero, List.getElem?_cons_succ]) <;> (try simp), keep1 hJ rfl⟩
  · intro x hx _
    obtain ⟨b0, hb0⟩ : ∃ b0, bs[x]? = some b0 := ⟨_, List.getElem?_eq_getElem hx⟩
    have f := inpB_at hin hb0
    have hp : p.isSome = true := inpL_isSome hin (by omega)
    have i0 : (0 : Int) ≤ (x : Int) := by omega
    have i1 : (x : Int) < (bs.length : Int) := by omega
    have w1 : IntKind.i64.wrap ((x : Int) + 1) = (x : Int) + 1 := Sz.w_64 (by omega) (by omega)
    have e := onF_snoc (v := v) hb0
    generalize onF v (bs.take x) = y at e ⊢
    have j0 : 0 ≤ ixI y b0 := ixI_lo y b0
    have j1 : ixI y b0 < 256 := ixI_hi y b0
    have j2 := tabM_get (h := hd1) rfl (i := (ixI y b0).toNat) (by omega)
    simp only [onS, ixI, sh8, xoI] at e j0 j1 j2
    simp (maxSteps := 2000000) -implicitDefEqProofs only [f, hp, i0, i1, w1, j0, j1, j2, Sz.s_alt, Sz.s_alt20, Sz.s_alt2t, Sz.s_alt2f, ↓Sz.s_loopi, ↓Sz.v_pq, ↓Sz.PRE, Sz.POST, Sz.CORE, Nat.reduceDiv, Nat.reduceMod, Int.reduceLT, Int.reduceLE, Int.reduceToNat, Int.reduceAdd, ↓reduceIte, Nat.reduceEqDiff, Nat.reduceAdd, Nat.reduceMul, Nat.reduceSub, Nat.reduceLeDiff, Nat.reduceLT, reduceCtorEq, if_true, eq_self, forall_const, implies_true]
    rw [e]
    exact ⟨[0], by simp [Sz.NdL, Sz.NdA, Sz.oO_cells, Sz.oO_own, Sz.iL_nil], by simp only [FitM, ObLe, LeL, Le, List.cons_append, List.nil_append] <;> (try (simp (maxSteps := 2000000) -implicitDefEqProofs only [hL, Sz.s_alt, Sz.s_alt20, Sz.s_alt2t, Sz.s_alt2f, ↓Sz.s_loopi, ↓Sz.v_pq, ↓Sz.PRE, Sz.POST, Sz.CORE, Nat.reduceDiv, Nat.reduceMod, Int.reduceLT, Int.reduceLE, Int.reduceToNat, Int.reduceAdd, ↓reduceIte, Nat.reduceEqDiff, Nat.reduceAdd, Nat.reduceMul, Nat.reduceSub, Nat.reduceLeDiff, Nat.reduceLT, reduceCtorEq, if_true, eq_self, forall_const, implies_true])) <;> (try simp), by simp only [FitE, Le, LeL, List.cons_append, List.nil_append] <;> (try (simp (maxSteps := 2000000) -implicitDefEqProofs only [hL, Sz.s_alt, Sz.s_alt20, Sz.s_alt2t, Sz.s_alt2f, ↓Sz.s_loopi, ↓Sz.v_pq, ↓Sz.PRE, Sz.POST, Sz.CORE, Nat.reduceDiv, Nat.reduceMod, Int.reduceLT, Int.reduceLE, Int.reduceToNat, Int.reduceAdd, ↓reduceIte, Nat.reduceEqDiff, Nat.reduceAdd, Nat.reduceMul, Nat.reduceSub, Nat.reduceLeDiff, Nat.reduceLT, reduceCtorEq, if_true, eq_self, forall_const, implies_true])) <;> (try simp only [Sz.Le, Sz.LeL, List.getElem?_cons_zero, List.getElem?_cons_succ]) <;> (try simp), keep1 hJ rfl⟩
  · intro _
    have i1 : ¬ (bs.length : Int) < (bs.length : Int) := by omega
    simp (maxSteps := 2000000) -implicitDefEqProofs only [i1, List.take_length, Sz.s_alt, Sz.s_alt20, Sz.s_alt2t, Sz.s_alt2f, ↓Sz.s_loopi, ↓Sz.v_pq, ↓Sz.PRE, Sz.POST, Sz.CORE, Nat.reduceDiv, Nat.reduceMod, Int.reduceLT, Int.reduceLE, Int.reduceToNat, Int.reduceAdd, ↓reduceIte, Nat.reduceEqDiff, Nat.reduceAdd, Nat.reduceMul, Nat.reduceSub, Nat.reduceLeDiff, Nat.reduceLT, reduceCtorEq, if_true, eq_self, forall_const, implies_true]
    exact ⟨_, rfl, tabM_plain rfl 256, hk⟩
/-! ### Of a register -/
def noI (v : Int) : Int := IntKind.u32.wrap (BitVec.ofInt IntKind.u32.bits (if IntKind.u32.signed then -1 else IntKind.u32.max) ^^^ BitVec.ofInt IntKind.u32.bits v).toNat
def sumF (s : Int) (bs : List Int) : Int := noI (onF (noI s) bs)
def c147 [Inp] : Trans := fun args m k => match args with
  | [.v (.int .u32 s), b] => ∃ bs : List Int, rdB m b = some bs ∧ bs.length ≤ 9223372036854775807 ∧ k (.v (.int .u32 (sumF s bs))) m
  | _ => False
theorem g165 [Inp] : GOk Try.prog [⟨165, false, c165⟩] := GOk.cons c165_ok (g0 _)
theorem c147_ok [Inp] : Contract Try.prog 147 true c147 := by
  refine .read fn147 (G := fun J => [⟨165, false, @c165 J⟩]) (fun J => @g165 J) _ fun args m k h => ?_
  unfold c147 at h
  split at h
  case h_2 => exact h.elim
  rename_i v b
  obtain ⟨bs, hb, hmax, hk⟩ := h
  refine ⟨by simp, fun J hJ vs hvs => ?_⟩
  obtain ⟨u1, t1, rfl, hk1, u2, t2, rfl, hk2, rfl⟩ := hvs
  obtain rfl := hk1.1 _ rfl
  obtain ⟨p, c, rfl, hin⟩ := rdB_knows hb hk2
  have hr : ∀ m, rdB m (.v (.slice p bs.length c)) = some bs := fun m => rdB_v hin
  simp (maxSteps := 2000000) -implicitDefEqProofs only [↓x147, ↓r147, c165, hr, Sz.s_alt, Sz.s_alt20, Sz.s_alt2t, Sz.s_alt2f, ↓Sz.s_loopi, ↓Sz.v_pq, ↓Sz.PRE, Sz.POST, Sz.CORE, Nat.reduceDiv, Nat.reduceMod, Int.reduceLT, Int.reduceLE, Int.reduceToNat, Int.reduceAdd, ↓reduceIte, Nat.reduceEqDiff, Nat.reduceAdd, Nat.reduceMul, Nat.reduceSub, Nat.reduceLeDiff, Nat.reduceLT, reduceCtorEq, if_true, eq_self, forall_const, implies_true]
  exact ⟨bs, rfl, hmax, hk⟩
theorem g147 [Inp] : GOk Try.prog [⟨147, true, c147⟩] := GOk.cons c147_ok (g0 _)
def c123 [Inp] : Trans := fun args m k => match args with
  | [b] => ∃ bs : List Int, rdB m b = some bs ∧ bs.length ≤ 9223372036854775807 ∧ k (.v (.int .u32 (sumF 0 bs))) m
  | _ => False
theorem c123_ok [Inp] : Contract Try.prog 123 true c123 := by
  refine .read fn123 (G := fun J => [⟨147, true, @c147 J⟩]) (fun J => @g147 J) _ fun args m k h => ?_
  unfold c123 at h
  split at h
  case h_2 => exact h.elim
  rename_i b
  obtain ⟨bs, hb, hmax, hk⟩ := h
  refine ⟨by simp, fun J hJ vs hvs => ?_⟩
  obtain ⟨u2, t2, rfl, hk2, rfl⟩ := hvs
  obtain ⟨p, c, rfl, hin⟩ := rdB_knows hb hk2
  have hr : ∀ m, rdB m (.v (.slice p bs.length c)) = some bs := fun m => rdB_v hin
  simp (maxSteps := 2000000) -implicitDefEqProofs only [↓x123, ↓r123, c147, hr, Sz.s_alt, Sz.s_alt20, Sz.s_alt2t, Sz.s_alt2f, ↓Sz.s_loopi, ↓Sz.v_pq, ↓Sz.PRE, Sz.POST, Sz.CORE, Nat.reduceDiv, Nat.reduceMod, Int.reduceLT, Int.reduceLE, Int.reduceToNat, Int.reduceAdd, ↓reduceIte, Nat.reduceEqDiff, Nat.reduceAdd, Nat.reduceMul, Nat.reduceSub, Nat.reduceLeDiff, Nat.reduceLT, reduceCtorEq, if_true, eq_self, forall_const, implies_true]
  exact ⟨bs, rfl, hmax, hk⟩
end Go.Proofs.Ytibefgdjijmncaa
