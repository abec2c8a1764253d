/- Walks and plain facts for the law ImageBytes, part MIBH. No condition. -/
import Derived.Test.YtibefgdjijmncaaMIBG
import Derived.Test.YtibefgdjijmncaaMIBF
set_option linter.unusedVariables false
set_option linter.unusedSimpArgs false
section
namespace Go.Proofs.Ytibefgdjijmncaa
open Go.RowKit Sz
set_option maxHeartbeats 4000000
set_option maxRecDepth 20000
-- almshouse/almshouseref01.Put (3 parameters)
def x58 : XC := (.seq (.tree (.seq ⟨some 6, none, (.ofA (.mv (.cst (.v (.slice none 0 0)))))⟩
  .done))
 (.seq (.tree (.seq ⟨some 9, none, (.buildSl 1 0 [] [])⟩
  (.seq ⟨some 10, none, (.ofA (.mv (.tmp 0)))⟩
  (.seq ⟨some 11, none, (.app 1 1 (.tmp 9) (.tmp 10))⟩
  (.seq ⟨some 7, none, (.ofA (.mv (.tmp 11)))⟩
  .done)))))
 (.seq (.seq (.tree (.seq ⟨some 12, none, (.ofA (.mv (.tmp 1)))⟩
  (.seq ⟨some 13, none, (.ofA (.mv (.tmp 2)))⟩
  (.seq ⟨some 14, none, (.call (.cst (.fn 103 [])) [(.tmp 12), (.tmp 13)])⟩
  (.seq ⟨some 15, none, (.ofA (.un .not (.tmp 14)))⟩
  .done)))))
 (.cond (.tmp 15)
 (.seq (.tree (.seq ⟨some 16, none, (.ofA (.mv (.tmp 7)))⟩
  (.seq ⟨some 6, none, (.ofA (.mv (.tmp 16)))⟩
  .done)))
 .ret)
 .skip))
 (.seq (.seq (.tree (.seq ⟨some 8, none, (.ofA (.mv (.cst (.v (.int .i64 0)))))⟩
  .done))
 (.block 0 (.loop (.seq (.seq (.tree (.seq ⟨some 17, none, (.ofA (.mv (.tmp 8)))⟩
  (.seq ⟨some 18, none, (.ofA (.mv (.tmp 2)))⟩
  (.seq ⟨some 19, none, (.ofA (.bin .lss (.tmp 17) (.tmp 18)))⟩
  .done))))
 (.cond (.tmp 19)
 .skip
 (.exit 0)))
 (.seq (.block 1 (.seq (.tree (.seq ⟨some 22, none, (.ofA (.mv (.tmp 7)))⟩
  (.seq ⟨some 23, none, (.ofA (.mv (.tmp 1)))⟩
  (.seq ⟨some 24, none, (.ofA (.bin .rem (.tmp 23) (.cst (.v (.int .i64 256)))))⟩
  (.seq ⟨some 25, none, (.ofA (.conv .u8 (.tmp 24)))⟩
  (.seq ⟨some 26, none, (.buildSl 1 1 [(.v (.int .u8 0))] [(0, 1, (.tmp 25))])⟩
  (.seq ⟨some 27, none, (.app 1 1 (.tmp 22) (.tmp 26))⟩
  (.seq ⟨some 7, none, (.ofA (.mv (.tmp 27)))⟩
  .done))))))))
 (.tree (.seq ⟨some 28, none, (.ofA (.mv (.tmp 1)))⟩
  (.seq ⟨some 29, none, (.ofA (.bin .quo (.tmp 28) (.cst (.v (.int .i64 256)))))⟩
  (.seq ⟨some 1, none, (.ofA (.mv (.tmp 29)))⟩
  .done))))))
 (.tree (.seq ⟨some 20, none, (.ofA (.mv (.tmp 8)))⟩
  (.seq ⟨some 21, none, (.ofA (.bin .add (.tmp 20) (.cst (.v (.int .i64 1)))))⟩
  (.seq ⟨some 8, none, (.ofA (.mv (.tmp 21)))⟩
  .done)))))))))
 (.seq (.tree (.seq ⟨some 30, none, (.ofA (.mv (.tmp 7)))⟩
  (.seq ⟨some 6, none, (.ofA (.mv (.tmp 30)))⟩
  .done)))
 .ret)))))
def r58 : List XR := [.tmp 6]
theorem fn58 : FnX Try.prog 58 [] 31 x58 r58 := ⟨_, Try.func58, by kernel_rfl, by kernel_rfl, by kernel_rfl, by kernel_rfl⟩
theorem sh_div (y : Int) : y.fdiv (2 ^ (min (8 : Int).toNat IntKind.i64.bits)) = y.fdiv 256 := rfl
theorem shN_ok {v : Int} (h0 : 0 ≤ v) (h1 : v ≤ 9223372036854775807) : ∀ x, 0 ≤ shN x v ∧ shN x v ≤ 9223372036854775807
  | 0 => ⟨h0, h1⟩
  | x + 1 => by
    obtain ⟨a, b⟩ := shN_ok h0 h1 x
    show 0 ≤ (shN x v).fdiv (2 ^ (min (8 : Int).toNat IntKind.i64.bits)) ∧ (shN x v).fdiv (2 ^ (min (8 : Int).toNat IntKind.i64.bits)) ≤ 9223372036854775807
    rw [sh_div, Int.fdiv_eq_ediv_of_nonneg _ (by omega)]
    omega
theorem tm_u8 {y : Int} (h : 0 ≤ y) : IntKind.u8.wrap (y.tmod 256) = IntKind.u8.wrap y := by
  rw [Int.tmod_eq_emod_of_nonneg h, IntKind.wrap_u8, IntKind.wrap_u8]; omega
theorem td_sh {y : Int} (h : 0 ≤ y) (h1 : y ≤ 9223372036854775807) : IntKind.i64.wrap (y.tdiv 256) = y.fdiv (2 ^ (min (8 : Int).toNat IntKind.i64.bits)) := by
  rw [sh_div, Int.fdiv_eq_ediv_of_nonneg _ (by omega), Int.tdiv_eq_ediv_of_nonneg h, Sz.w_64 (by omega) (by omega)]
def c58 [Inp] : Trans := fun args m k => match args with
  | [s, .v (.int .i64 v), .v (.int .i64 n)] => ∃ bs : List Int, rdB m s = some bs ∧ bs.length ≤ 900000 ∧ v ≤ 9223372036854775807 ∧ k (.row m.length 0 (putF bs v n).length 1) (m ++ [⟨true, bL (putF bs v n)⟩])
  | _ => False
theorem g103 [Inp] : GOk Try.prog [⟨103, true, c103⟩] := GOk.cons c103_ok (g0 _)
theorem c58_ok [Inp] : Contract Try.prog 58 true c58 := by
  refine .readF fn58 (G := fun J => [⟨103, true, @c103 J⟩]) (fun J => @g103 J) _ fun args m k h => ?_
  unfold c58 at h
  split at h
  case h_2 => exact h.elim
  rename_i b v n
  obtain ⟨bs, hb, hmax, hv, hk⟩ := h
  refine ⟨by simp, fun J hJ us hus => ?_⟩
  obtain ⟨u, t1, rfl, hk1, u2, t2, rfl, hk2, u3, t3, rfl, hk3, rfl⟩ := hus
  obtain rfl := hk2.1 _ rfl
  obtain rfl := hk3.1 _ rfl
  obtain ⟨p, c, rfl, hin⟩ := rdB_knows hb hk1
  have fin : ∀ (L : List Int) (m' : Mem) (j : Nat), m'[j]? = some ⟨true, bL L⟩ → k (.row m.length 0 L.length 1) (m ++ [⟨true, bL L⟩]) →
      ∃ (g2 : List Nat) (s2 : SV) (m2 : Mem), g2.Nodup ∧ FitM g2 m' g2 m2 ∧ (∀ o ∈ m2, o.own = true) ∧ Le g2 s2 (.row j 0 L.length 1) ∧ k (s2.up m.length) (m ++ m2.map (SObj.up m.length)) := by
    intro L m' j hm h3
    refine ⟨[j], .row 0 0 L.length 1, [⟨true, bL L⟩], by simp, ?_, by simp, by simp only [Le]; rfl, ?_⟩
    · simp [FitM, ObLe, bL_le, hm]
    · simpa [SV.up, SObj.up, bL_up] using h3
  have c1 := bL_len bs
  have c2 := bL_one bs
  have start : ∀ (m0 : Mem) (j : Nat), m0[j]? = some ⟨true, bL bs⟩ → True := fun _ _ _ => trivial
  by_cases h0 : bs.length = 0
  · have hbs : bs = [] := List.length_eq_zero_iff.1 h0
    subst hbs
    have n0 : ∀ p, @inpL J p 0 = some [] := fun p => rfl
    simp (maxSteps := 2000000) -implicitDefEqProofs only [↓x58, ↓r58, ↓c103, n0, s_alt, s_alt20, s_alt2t, s_alt2f, ↓s_loopi, ↓v_pq, ↓PRE, POST, CORE, Nat.reduceDiv, Nat.reduceMod, Int.reduceLT, Int.reduceLE, Int.reduceToNat, Int.reduceAdd, ↓reduceIte, Nat.reduceEqDiff, Nat.reduceAdd, Nat.reduceMul, Nat.reduceSub, Nat.reduceLeDiff, Nat.reduceLT, reduceCtorEq, if_true, eq_self, forall_const, implies_true]
    split
    · rename_i hf
      have hf : fitsF v n = false := by simpa using hf
      have e : putF ([] : List Int) v n = ([] : List Int) := by unfold putF; rw [hf]; simp
      rw [e] at hk
      exact fin ([] : List Int) _ 0 rfl hk
    · rename_i hf
      have hf : fitsF v n = true := by simpa using hf
      have e : putF ([] : List Int) v n = ([] : List Int) ++ leF n.toNat v := by unfold putF; rw [hf]; simp
      rw [e] at hk
      have hn : n = 1 ∨ n = 2 ∨ n = 4 := by
        have := hf
        unfold fitsF sizedF at this
        simp only [Bool.and_eq_true, Bool.or_eq_true, beq_iff_eq] at this
        omega
      have hv0 : 0 ≤ v := by
        have := hf
        rw [← fitsR_eq] at this
        unfold fitsR at this
        rcases hn with rfl | rfl | rfl <;> simp at this <;> omega
      have e0 : ([] : List Int) ++ leF 0 v = ([] : List Int) := by simp [leF]
      refine TXi_of (TX_count (g103) n.toNat (fun x => [(1, .v (.int .i64 (shN x v))), (2, .v (.int .i64 n)), (7, .row 0 0 (([] : List Int) ++ leF x v).length 1), (8, .v (.int .i64 (x : Int)))]) (fun x => [⟨true, bL (([] : List Int) ++ leF x v)⟩]) (fun x => True) trivial ?_ ?_ ?_)
      · simp only [e0, shN]
        exact (by refine ⟨[0], by simp [NdL, NdA, oO_cells, oO_own, iL_nil], ?_, ?_, keep0 hJ⟩ <;> simp only [FitM, FitE, ObLe, LeL, Le, List.cons_append, List.nil_append] <;> (try (simp (maxSteps := 2000000) -implicitDefEqProofs only [bL_le, bL, List.map_nil, Sz.LeL, s_alt, s_alt20, s_alt2t, s_alt2f, ↓s_loopi, ↓v_pq, ↓PRE, POST, CORE, Nat.reduceDiv, Nat.reduceMod, Int.reduceLT, Int.reduceLE, Int.reduceToNat, Int.reduceAdd, ↓reduceIte, Nat.reduceEqDiff, Nat.reduceAdd, Nat.reduceMul, Nat.reduceSub, Nat.reduceLeDiff, Nat.reduceLT, reduceCtorEq, if_true, eq_self, forall_const, implies_true])) <;> (try simp only [Sz.Le, Sz.LeL, List.getElem?_cons_zero, List.getElem?_cons_succ]) <;> (try simp))
      · intro x hx _
        have i0 : (0 : Int) ≤ (x : Int) := by omega
        have i1 : (x : Int) < n := by omega
        have w1 : IntKind.i64.wrap ((x : Int) + 1) = (x : Int) + 1 := Sz.w_64 (by omega) (by omega)
        have hlen : (([] : List Int) ++ leF x v).length ≤ 900004 := by rw [List.length_append, leF_len]; first | omega | (simp only [List.length_nil, Nat.zero_add]; omega)
        have h3 : ([] : List Int) ++ leF (x + 1) v = (([] : List Int) ++ leF x v) ++ [IntKind.u8.wrap (shN x v)] := by rw [leF_succ, List.append_assoc]
        have h4 : shN (x + 1) v = (shN x v).fdiv (2 ^ (min (8 : Int).toNat IntKind.i64.bits)) := rfl
        have w2 := tm_u8 (shN_ok hv0 hv x).1
        have w3 := td_sh (shN_ok hv0 hv x).1 (shN_ok hv0 hv x).2
        rw [h3, h4]
        generalize ([] : List Int) ++ leF x v = L at hlen ⊢
        generalize shN x v = y at w2 w3 ⊢
        have hb2 : bL (L ++ [IntKind.u8.wrap y]) = bL L ++ [.v (.int .u8 (IntKind.u8.wrap y))] := by simp [bL]
        have hl2 : (L ++ [IntKind.u8.wrap y]).length = L.length + 1 := by simp
        have b1 := bL_len L
        have b3 : List.take L.length (bL L) = bL L := List.take_of_length_le (by rw [b1]; exact Nat.le_refl _)
        have hle : ∀ g, LeL g (bL L ++ [SV.v (.int .u8 (IntKind.u8.wrap y))]) (bL L ++ [SV.v (.int .u8 (IntKind.u8.wrap y))]) := fun g => by rw [← hb2]; exact bL_le g _
        rw [hb2, hl2]
        simp (maxSteps := 2000000) -implicitDefEqProofs only [i0, i1, w1, w2, w3, b1, b3, s_alt, s_alt20, s_alt2t, s_alt2f, ↓s_loopi, ↓v_pq, ↓PRE, POST, CORE, Nat.reduceDiv, Nat.reduceMod, Int.reduceLT, Int.reduceLE, Int.reduceToNat, Int.reduceAdd, ↓reduceIte, Nat.reduceEqDiff, Nat.reduceAdd, Nat.reduceMul, Nat.reduceSub, Nat.reduceLeDiff, Nat.reduceLT, reduceCtorEq, if_true, eq_self, forall_const, implies_true]
        refine ⟨by omega, ⟨by unfold maxLen; omega, by omega⟩, ?_⟩
        first
          | exact (by refine ⟨[2], by simp [NdL, NdA, oO_cells, oO_own, iL_nil], ?_, ?_, keep0 hJ⟩ <;> simp only [FitM, FitE, ObLe, LeL, Le, List.cons_append, List.nil_append] <;> (try (simp (maxSteps := 2000000) -implicitDefEqProofs only [hle, s_alt, s_alt20, s_alt2t, s_alt2f, ↓s_loopi, ↓v_pq, ↓PRE, POST, CORE, Nat.reduceDiv, Nat.reduceMod, Int.reduceLT, Int.reduceLE, Int.reduceToNat, Int.reduceAdd, ↓reduceIte, Nat.reduceEqDiff, Nat.reduceAdd, Nat.reduceMul, Nat.reduceSub, Nat.reduceLeDiff, Nat.reduceLT, reduceCtorEq, if_true, eq_self, forall_const, implies_true])) <;> (try simp only [Sz.Le, Sz.LeL, List.getElem?_cons_zero, List.getElem?_cons_succ]) <;> (try simp))
          | exact ⟨by omega, (by refine ⟨[2], by simp [NdL, NdA, oO_cells, oO_own, iL_nil], ?_, ?_, keep0 hJ⟩ <;> simp only [FitM, FitE, ObLe, LeL, Le, List.cons_append, List.nil_append] <;> (try (simp (maxSteps := 2000000) -implicitDefEqProofs only [hle, s_alt, s_alt20, s_alt2t, s_alt2f, ↓s_loopi, ↓v_pq, ↓PRE, POST, CORE, Nat.reduceDiv, Nat.reduceMod, Int.reduceLT, Int.reduceLE, Int.reduceToNat, Int.reduceAdd, ↓reduceIte, Nat.reduceEqDiff, Nat.reduceAdd, Nat.reduceMul, Nat.reduceSub, Nat.reduceLeDiff, Nat.reduceLT, reduceCtorEq, if_true, eq_self, forall_const, implies_true])) <;> (try simp only [Sz.Le, Sz.LeL, List.getElem?_cons_zero, List.getElem?_cons_succ]) <;> (try simp))⟩
      · intro _
        have i1 : ¬ ((n.toNat : Int) < n) := by omega
        simp (maxSteps := 2000000) -implicitDefEqProofs only [i1, s_alt, s_alt20, s_alt2t, s_alt2f, ↓s_loopi, ↓v_pq, ↓PRE, POST, CORE, Nat.reduceDiv, Nat.reduceMod, Int.reduceLT, Int.reduceLE, Int.reduceToNat, Int.reduceAdd, ↓reduceIte, Nat.reduceEqDiff, Nat.reduceAdd, Nat.reduceMul, Nat.reduceSub, Nat.reduceLeDiff, Nat.reduceLT, reduceCtorEq, if_true, eq_self, forall_const, implies_true]
        exact fin (([] : List Int) ++ leF n.toNat v) _ 0 rfl hk
  · have h2 : 0 < bs.length := by omega
    simp (maxSteps := 2000000) -implicitDefEqProofs only [↓x58, ↓r58, ↓c103, hin, bL_fold, c1, c2, h0, h2, s_alt, s_alt20, s_alt2t, s_alt2f, ↓s_loopi, ↓v_pq, ↓PRE, POST, CORE, Nat.reduceDiv, Nat.reduceMod, Int.reduceLT, Int.reduceLE, Int.reduceToNat, Int.reduceAdd, ↓reduceIte, Nat.reduceEqDiff, Nat.reduceAdd, Nat.reduceMul, Nat.reduceSub, Nat.reduceLeDiff, Nat.reduceLT, reduceCtorEq, if_true, eq_self, forall_const, implies_true]
    refine ⟨⟨by unfold maxLen; omega, by omega⟩, ?_⟩
    split
    · rename_i hf
      have hf : fitsF v n = false := by simpa using hf
      have e : putF bs v n = bs := by unfold putF; rw [hf]; simp
      rw [e] at hk
      exact fin bs _ 1 rfl hk
    · rename_i hf
      have hf : fitsF v n = true := by simpa using hf
      have e : putF bs v n = bs ++ leF n.toNat v := by unfold putF; rw [hf]; simp
      rw [e] at hk
      have hn : n = 1 ∨ n = 2 ∨ n = 4 := by
        have := hf
        unfold fitsF sizedF at this
        simp only [Bool.and_eq_true, Bool.or_eq_true, beq_iff_eq] at this
        omega
      have hv0 : 0 ≤ v := by
        have := hf
        rw [← fitsR_eq] at this
        unfold fitsR at this
        rcases hn with rfl | rfl | rfl <;> simp at this <;> omega
      have e0 : bs ++ leF 0 v = bs := by simp [leF]
      refine TXi_of (TX_count (g103) n.toNat (fun x => [(1, .v (.int .i64 (shN x v))), (2, .v (.int .i64 n)), (7, .row 0 0 (bs ++ leF x v).length 1), (8, .v (.int .i64 (x : Int)))]) (fun x => [⟨true, bL (bs ++ leF x v)⟩]) (fun x => True) trivial ?_ ?_ ?_)
      · simp only [e0, shN]
        exact (by refine ⟨[1], by simp [NdL, NdA, oO_cells, oO_own, iL_nil], ?_, ?_, keep0 hJ⟩ <;> simp only [FitM, FitE, ObLe, LeL, Le, List.cons_append, List.nil_append] <;> (try (simp (maxSteps := 2000000) -implicitDefEqProofs only [bL_le, s_alt, s_alt20, s_alt2t, s_alt2f, ↓s_loopi, ↓v_pq, ↓PRE, POST, CORE, Nat.reduceDiv, Nat.reduceMod, Int.reduceLT, Int.reduceLE, Int.reduceToNat, Int.reduceAdd, ↓reduceIte, Nat.reduceEqDiff, Nat.reduceAdd, Nat.reduceMul, Nat.reduceSub, Nat.reduceLeDiff, Nat.reduceLT, reduceCtorEq, if_true, eq_self, forall_const, implies_true])) <;> (try simp only [Sz.Le, Sz.LeL, List.getElem?_cons_zero, List.getElem?_cons_succ]) <;> (try simp))
      · intro x hx _
        have i0 : (0 : Int) ≤ (x : Int) := by omega
        have i1 : (x : Int) < n := by omega
        have w1 : IntKind.i64.wrap ((x : Int) + 1) = (x : Int) + 1 := Sz.w_64 (by omega) (by omega)
        have hlen : (bs ++ leF x v).length ≤ 900004 := by rw [List.length_append, leF_len]; first | omega | (simp only [List.length_nil, Nat.zero_add]; omega)
        have h3 : bs ++ leF (x + 1) v = (bs ++ leF x v) ++ [IntKind.u8.wrap (shN x v)] := by rw [leF_succ, List.append_assoc]
        have h4 : shN (x + 1) v = (shN x v).fdiv (2 ^ (min (8 : Int).toNat IntKind.i64.bits)) := rfl
        have w2 := tm_u8 (shN_ok hv0 hv x).1
        have w3 := td_sh (shN_ok hv0 hv x).1 (shN_ok hv0 hv x).2
        rw [h3, h4]
        generalize bs ++ leF x v = L at hlen ⊢
        generalize shN x v = y at w2 w3 ⊢
        have hb2 : bL (L ++ [IntKind.u8.wrap y]) = bL L ++ [.v (.int .u8 (IntKind.u8.wrap y))] := by simp [bL]
        have hl2 : (L ++ [IntKind.u8.wrap y]).length = L.length + 1 := by simp
        have b1 := bL_len L
        have b3 : List.take L.length (bL L) = bL L := List.take_of_length_le (by rw [b1]; exact Nat.le_refl _)
        have hle : ∀ g, LeL g (bL L ++ [SV.v (.int .u8 (IntKind.u8.wrap y))]) (bL L ++ [SV.v (.int .u8 (IntKind.u8.wrap y))]) := fun g => by rw [← hb2]; exact bL_le g _
        rw [hb2, hl2]
        simp (maxSteps := 2000000) -implicitDefEqProofs only [i0, i1, w1, w2, w3, b1, b3, s_alt, s_alt20, s_alt2t, s_alt2f, ↓s_loopi, ↓v_pq, ↓PRE, POST, CORE, Nat.reduceDiv, Nat.reduceMod, Int.reduceLT, Int.reduceLE, Int.reduceToNat, Int.reduceAdd, ↓reduceIte, Nat.reduceEqDiff, Nat.reduceAdd, Nat.reduceMul, Nat.reduceSub, Nat.reduceLeDiff, Nat.reduceLT, reduceCtorEq, if_true, eq_self, forall_const, implies_true]
        refine ⟨by omega, ⟨by unfold maxLen; omega, by omega⟩, ?_⟩
        first
          | exact (by refine ⟨[2], by simp [NdL, NdA, oO_cells, oO_own, iL_nil], ?_, ?_, keep0 hJ⟩ <;> simp only [FitM, FitE, ObLe, LeL, Le, List.cons_append, List.nil_append] <;> (try (simp (maxSteps := 2000000) -implicitDefEqProofs only [hle, s_alt, s_alt20, s_alt2t, s_alt2f, ↓s_loopi, ↓v_pq, ↓PRE, POST, CORE, Nat.reduceDiv, Nat.reduceMod, Int.reduceLT, Int.reduceLE, Int.reduceToNat, Int.reduceAdd, ↓reduceIte, Nat.reduceEqDiff, Nat.reduceAdd, Nat.reduceMul, Nat.reduceSub, Nat.reduceLeDiff, Nat.reduceLT, reduceCtorEq, if_true, eq_self, forall_const, implies_true])) <;> (try simp only [Sz.Le, Sz.LeL, List.getElem?_cons_zero, List.getElem?_cons_succ]) <;> (try simp))
          | exact ⟨by omega, (by refine ⟨[2], by simp [NdL, NdA, oO_cells, oO_own, iL_nil], ?_, ?_, keep0 hJ⟩ <;> simp only [FitM, FitE, ObLe, LeL, Le, List.cons_append, List.nil_append] <;> (try (simp (maxSteps := 2000000) -implicitDefEqProofs only [hle, s_alt, s_alt20, s_alt2t, s_alt2f, ↓s_loopi, ↓v_pq, ↓PRE, POST, CORE, Nat.reduceDiv, Nat.reduceMod, Int.reduceLT, Int.reduceLE, Int.reduceToNat, Int.reduceAdd, ↓reduceIte, Nat.reduceEqDiff, Nat.reduceAdd, Nat.reduceMul, Nat.reduceSub, Nat.reduceLeDiff, Nat.reduceLT, reduceCtorEq, if_true, eq_self, forall_const, implies_true])) <;> (try simp only [Sz.Le, Sz.LeL, List.getElem?_cons_zero, List.getElem?_cons_succ]) <;> (try simp))⟩
      · intro _
        have i1 : ¬ ((n.toNat : Int) < n) := by omega
        simp (maxSteps := 2000000) -implicitDefEqProofs only [i1, s_alt, s_alt20, s_alt2t, s_alt2f, ↓s_loopi, ↓v_pq, ↓PRE, POST, CORE, Nat.reduceDiv, Nat.reduceMod, Int.reduceLT, Int.reduceLE, Int.reduceToNat, Int.reduceAdd, ↓reduceIte, Nat.reduceEqDiff, Nat.reduceAdd, Nat.reduceMul, Nat.reduceSub, Nat.reduceLeDiff, Nat.reduceLT, reduceCtorEq, if_true, eq_self, forall_const, implies_true]
        exact fin (bs ++ leF n.toNat v) _ 0 rfl hk
end Go.Proofs.Ytibefgdjijmncaa
end
section
namespace Go.Proofs.Ytibefgdjijmncaa
open Go.RowKit Sz
set_option maxHeartbeats 4000000
set_option maxRecDepth 20000
-- almshouse/almshouseref01.Text (2 parameters)
def x60 : XC := (.seq (.tree (.seq ⟨some 4, none, (.ofA (.mv (.cst (.v (.slice none 0 0)))))⟩
  .done))
 (.seq (.seq (.tree (.seq ⟨some 5, none, (.ofA (.mv (.tmp 1)))⟩
  (.seq ⟨some 6, none, (.ofA (.lens (.tmp 5)))⟩
  (.seq ⟨some 7, none, (.ofA (.bin .gtr (.tmp 6) (.cst (.v (.int .i64 65535)))))⟩
  .done))))
 (.cond (.tmp 7)
 (.seq (.tree (.seq ⟨some 8, none, (.buildSl 1 0 [] [])⟩
  (.seq ⟨some 9, none, (.ofA (.mv (.tmp 0)))⟩
  (.seq ⟨some 10, none, (.app 1 1 (.tmp 8) (.tmp 9))⟩
  (.seq ⟨some 4, none, (.ofA (.mv (.tmp 10)))⟩
  .done)))))
 .ret)
 .skip))
 (.seq (.tree (.seq ⟨some 11, none, (.ofA (.mv (.tmp 0)))⟩
  (.seq ⟨some 12, none, (.ofA (.mv (.tmp 1)))⟩
  (.seq ⟨some 13, none, (.ofA (.lens (.tmp 12)))⟩
  (.seq ⟨some 14, none, (.call (.cst (.fn 58 [])) [(.tmp 11), (.tmp 13), (.cst (.v (.int .i64 2)))])⟩
  (.seq ⟨some 15, none, (.ofA (.mv (.tmp 1)))⟩
  (.seq ⟨some 16, none, (.s2b (.tmp 15))⟩
  (.seq ⟨some 17, none, (.app 1 1 (.tmp 14) (.tmp 16))⟩
  (.seq ⟨some 4, none, (.ofA (.mv (.tmp 17)))⟩
  .done)))))))))
 .ret)))
def r60 : List XR := [.tmp 4]
theorem fn60 : FnX Try.prog 60 [] 18 x60 r60 := ⟨_, Try.func60, by kernel_rfl, by kernel_rfl, by kernel_rfl, by kernel_rfl⟩
def c60 [Inp] : Trans := fun args m k => match args with
  | [s, .v (.string t)] => ∃ bs : List Int, rdB m s = some bs ∧ bs.length ≤ 800000 ∧ (t.size : Int) ≤ 65535 ∧ k (.row m.length 0 (textF bs t).length 1) (m ++ [⟨true, bL (textF bs t)⟩])
  | _ => False
theorem g58 [Inp] : GOk Try.prog [⟨58, true, c58⟩] := GOk.cons c58_ok (g0 _)
theorem fin_own {k : SV → Mem → Prop} {m : Mem} (L : List Int) (m' : Mem) (j : Nat) (hm : m'[j]? = some ⟨true, bL L⟩) (h3 : k (.row m.length 0 L.length 1) (m ++ [⟨true, bL L⟩])) :
    ∃ (g2 : List Nat) (s2 : SV) (m2 : Mem), g2.Nodup ∧ FitM g2 m' g2 m2 ∧ (∀ o ∈ m2, o.own = true) ∧ Le g2 s2 (.row j 0 L.length 1) ∧ k (s2.up m.length) (m ++ m2.map (SObj.up m.length)) := by
  refine ⟨[j], .row 0 0 L.length 1, [⟨true, bL L⟩], by simp, ?_, by simp, by simp only [Le]; rfl, ?_⟩
  · simp [FitM, ObLe, bL_le, hm]
  · simpa [SV.up, SObj.up, bL_up] using h3
theorem c60_ok [Inp] : Contract Try.prog 60 true c60 := by
  refine .readF fn60 (G := fun J => [⟨58, true, @c58 J⟩]) (fun J => @g58 J) _ fun args m k h => ?_
  unfold c60 at h
  split at h
  case h_2 => exact h.elim
  rename_i b t
  obtain ⟨bs, hb, hmax, ht, hk⟩ := h
  refine ⟨by simp, fun J hJ us hus => ?_⟩
  obtain ⟨u, t1, rfl, hk1, u2, t2, rfl, hk2, rfl⟩ := hus
  obtain rfl := hk2.1 _ rfl
  obtain ⟨p, c, rfl, hin⟩ := rdB_knows hb hk1
  have hr : ∀ m, rdB m (.v (.slice p bs.length c)) = some bs := fun m => rdB_v hin
  have ht2 : ¬ 65535 < (t.size : Int) := by omega
  have e : textF bs t = putF bs t.size 2 ++ strL t := if_neg ht2
  rw [e] at hk
  have hpl : (putF bs (t.size : Int) 2).length = bs.length + 2 := by unfold putF; rw [fits2 (by omega) (by omega)]; simp [leF_len]
  simp (maxSteps := 2000000) -implicitDefEqProofs only [↓x60, ↓r60, ↓c58, ht2, s_alt, s_alt20, s_alt2t, s_alt2f, ↓s_loopi, ↓v_pq, ↓PRE, POST, CORE, Nat.reduceDiv, Nat.reduceMod, Int.reduceLT, Int.reduceLE, Int.reduceToNat, Int.reduceAdd, ↓reduceIte, Nat.reduceEqDiff, Nat.reduceAdd, Nat.reduceMul, Nat.reduceSub, Nat.reduceLeDiff, Nat.reduceLT, reduceCtorEq, if_true, eq_self, forall_const, implies_true]
  refine ⟨bs, hr _, by omega, by omega, ?_⟩
  generalize putF bs (t.size : Int) 2 = L at hk hpl ⊢
  have b1 := bL_len L
  have b3 : List.take L.length (bL L) = bL L := List.take_of_length_le (by rw [b1]; exact Nat.le_refl _)
  have hs0 := strL_len t
  have d1 := bL_len (strL t)
  have d2 := bL_one (strL t)
  have d3 : List.take t.size (bL (strL t)) = bL (strL t) := List.take_of_length_le (by rw [d1, hs0]; exact Nat.le_refl _)
  simp (maxSteps := 2000000) -implicitDefEqProofs only [b1, b3, bytesC_bL, d1, d2, d3, hs0, s_alt, s_alt20, s_alt2t, s_alt2f, ↓s_loopi, ↓v_pq, ↓PRE, POST, CORE, Nat.reduceDiv, Nat.reduceMod, Int.reduceLT, Int.reduceLE, Int.reduceToNat, Int.reduceAdd, ↓reduceIte, Nat.reduceEqDiff, Nat.reduceAdd, Nat.reduceMul, Nat.reduceSub, Nat.reduceLeDiff, Nat.reduceLT, reduceCtorEq, if_true, eq_self, forall_const, implies_true]
  split
  · rename_i h0
    have : strL t = [] := List.length_eq_zero_iff.1 (by omega)
    rw [this, List.append_nil] at hk
    exact fin_own L _ 0 rfl hk
  · refine ⟨⟨by omega, by unfold maxLen; omega, by omega⟩, ?_⟩
    have e3 : bL L ++ bL (strL t) = bL (L ++ strL t) := by simp [bL]
    have e4 : L.length + t.size = (L ++ strL t).length := by simp [hs0]
    rw [e3, e4]
    exact fin_own (L ++ strL t) _ 2 rfl hk
end Go.Proofs.Ytibefgdjijmncaa
end
section
namespace Go.Proofs.Ytibefgdjijmncaa
open Go.RowKit Sz
set_option maxHeartbeats 4000000
set_option maxRecDepth 20000
-- almshouse/almshouseref02.Of (1 parameters)
def x102 : XC := (.seq (.tree (.seq ⟨some 2, none, (.ofA (.mv (.cst (.v (.int .u32 0)))))⟩
  .done))
 (.seq (.tree (.seq ⟨some 3, none, (.ofA (.mv (.cst (.v (.int .u32 4294967295)))))⟩
  .done))
 (.seq (.seq (.tree (.seq ⟨some 9, none, (.ofA (.mv (.tmp 0)))⟩
  (.seq ⟨some 10, none, (.ofA (.len (.tmp 9)))⟩
  (.seq ⟨some 11, none, (.ofA (.mv (.cst (.v (.int .i64 0)))))⟩
  .done))))
 (.block 0 (.loop (.seq (.tree (.seq ⟨some 12, none, (.ofA (.bin .lss (.tmp 11) (.tmp 10)))⟩
  .done))
 (.seq (.cond (.tmp 12)
 .skip
 (.exit 0))
 (.seq (.block 1 (.seq (.tree (.seq ⟨some 13, none, (.ofA (.isl 1 (.tmp 9) (.tmp 11)))⟩
  (.seq ⟨some 14, none, (.ofA (.load none (.tmp 13)))⟩
  (.seq ⟨some 5, none, (.ofA (.mv (.tmp 14)))⟩
  .done))))
 (.seq (.tree (.seq ⟨some 6, none, (.ofA (.mv (.cst (.v (.int .i64 0)))))⟩
  .done))
 (.block 2 (.loop (.seq (.seq (.tree (.seq ⟨some 15, none, (.ofA (.mv (.tmp 6)))⟩
  (.seq ⟨some 16, none, (.ofA (.bin .lss (.tmp 15) (.cst (.v (.int .i64 8)))))⟩
  .done)))
 (.cond (.tmp 16)
 .skip
 (.exit 2)))
 (.seq (.block 3 (.seq (.tree (.seq ⟨some 19, none, (.ofA (.mv (.tmp 5)))⟩
  (.seq ⟨some 20, none, (.ofA (.conv .u32 (.tmp 19)))⟩
  (.seq ⟨some 21, none, (.ofA (.bin .rem (.tmp 20) (.cst (.v (.int .u32 2)))))⟩
  (.seq ⟨some 7, none, (.ofA (.mv (.tmp 21)))⟩
  .done)))))
 (.seq (.tree (.seq ⟨some 22, none, (.ofA (.mv (.tmp 5)))⟩
  (.seq ⟨some 23, none, (.ofA (.bin .quo (.tmp 22) (.cst (.v (.int .u8 2)))))⟩
  (.seq ⟨some 5, none, (.ofA (.mv (.tmp 23)))⟩
  .done))))
 (.seq (.tree (.seq ⟨some 24, none, (.ofA (.mv (.tmp 3)))⟩
  (.seq ⟨some 25, none, (.ofA (.bin .rem (.tmp 24) (.cst (.v (.int .u32 2)))))⟩
  (.seq ⟨some 26, none, (.ofA (.mv (.tmp 7)))⟩
  (.seq ⟨some 27, none, (.ofA (.bin .neq (.tmp 25) (.tmp 26)))⟩
  (.seq ⟨some 8, none, (.ofA (.mv (.tmp 27)))⟩
  .done))))))
 (.seq (.tree (.seq ⟨some 28, none, (.ofA (.mv (.tmp 3)))⟩
  (.seq ⟨some 29, none, (.ofA (.bin .quo (.tmp 28) (.cst (.v (.int .u32 2)))))⟩
  (.seq ⟨some 3, none, (.ofA (.mv (.tmp 29)))⟩
  .done))))
 (.seq (.tree (.seq ⟨some 30, none, (.ofA (.mv (.tmp 8)))⟩
  .done))
 (.cond (.tmp 30)
 (.tree (.seq ⟨some 31, none, (.ofA (.mv (.tmp 3)))⟩
  (.seq ⟨some 32, none, (.ofA (.bin .xor (.tmp 31) (.cst (.v (.int .u32 2197175160)))))⟩
  (.seq ⟨some 3, none, (.ofA (.mv (.tmp 32)))⟩
  .done))))
 .skip)))))))
 (.tree (.seq ⟨some 17, none, (.ofA (.mv (.tmp 6)))⟩
  (.seq ⟨some 18, none, (.ofA (.bin .add (.tmp 17) (.cst (.v (.int .i64 1)))))⟩
  (.seq ⟨some 6, none, (.ofA (.mv (.tmp 18)))⟩
  .done)))))))))))
 (.tree (.seq ⟨some 33, none, (.ofA (.bin .add (.tmp 11) (.cst (.v (.int .i64 1)))))⟩
  (.seq ⟨some 11, none, (.ofA (.mv (.tmp 33)))⟩
  .done)))))))))
 (.seq (.tree (.seq ⟨some 34, none, (.ofA (.mv (.tmp 3)))⟩
  (.seq ⟨some 35, none, (.ofA (.un .xor (.tmp 34)))⟩
  (.seq ⟨some 2, none, (.ofA (.mv (.tmp 35)))⟩
  .done))))
 .ret))))
def r102 : List XR := [.tmp 2]
theorem fn102 : FnX Try.prog 102 [] 36 x102 r102 := ⟨_, Try.func102, by kernel_rfl, by kernel_rfl, by kernel_rfl, by kernel_rfl⟩
def rbV (v c : Int) : Int := if (v.tmod 2 != (IntKind.u32.wrap c).tmod 2) = true then xoI (IntKind.u32.wrap (v.tdiv 2)) 2197175160 else IntKind.u32.wrap (v.tdiv 2)
def rbC (c : Int) : Int := IntKind.u8.wrap (c.tdiv 2)
def rcN : Nat → Int → Int
  | 0, c => c
  | i + 1, c => rbC (rcN i c)
def rvN : Nat → Int → Int → Int
  | 0, v, c => v
  | i + 1, v, c => rbV (rvN i v c) (rcN i c)
def rsF (v : Int) (bs : List Int) : Int := bs.foldl (fun v c => rvN 8 v c) v
theorem rsF_snoc {v : Int} {bs : List Int} {x : Nat} {c : Int} (h : bs[x]? = some c) : rsF v (bs.take (x + 1)) = rvN 8 (rsF v (bs.take x)) c := by
  unfold rsF
  rw [List.take_add_one, h]
  simp
def c102 [Inp] : Trans := fun args m k => match args with
  | [s] => ∃ bs : List Int, rdB m s = some bs ∧ bs.length ≤ 9223372036854775807 ∧ k (.v (.int .u32 (noI (rsF 4294967295 bs)))) m
  | _ => False
theorem c102_ok [Inp] : Contract Try.prog 102 true c102 := by
  refine .read fn102 (G := fun J => []) (fun J => @g0 J _) _ fun args m k h => ?_
  unfold c102 at h
  split at h
  case h_2 => exact h.elim
  rename_i b
  obtain ⟨bs, hb, hmax, hk⟩ := h
  refine ⟨by simp, fun J hJ vs hvs => ?_⟩
  obtain ⟨u2, t2, rfl, hk2, rfl⟩ := hvs
  obtain ⟨p, c, rfl, hin⟩ := rdB_knows hb hk2
  simp (maxSteps := 2000000) -implicitDefEqProofs only [↓x102, ↓r102, s_alt, s_alt20, s_alt2t, s_alt2f, ↓s_loopi, ↓v_pq, ↓PRE, POST, CORE, Nat.reduceDiv, Nat.reduceMod, Int.reduceLT, Int.reduceLE, Int.reduceToNat, Int.reduceAdd, ↓reduceIte, Nat.reduceEqDiff, Nat.reduceAdd, Nat.reduceMul, Nat.reduceSub, Nat.reduceLeDiff, Nat.reduceLT, reduceCtorEq, if_true, eq_self, forall_const, implies_true]
  refine TXi_of (TX_count (g0 _) bs.length (fun x => [(3, .v (.int .u32 (rsF 4294967295 (bs.take x)))), (9, .v (.slice p bs.length c)), (10, .v (.int .i64 (bs.length : Int))), (11, .v (.int .i64 (x : Int)))]) (fun x => []) (fun x => True) trivial ?_ ?_ ?_)
  · exact (by refine ⟨[], by simp [NdL, NdA, oO_cells, oO_own, iL_nil], ?_, ?_, keep0 hJ⟩ <;> simp only [FitM, FitE, ObLe, LeL, Le, List.cons_append, List.nil_append] <;> (try (simp (maxSteps := 2000000) -implicitDefEqProofs only [List.take_zero, rsF, List.foldl_nil, s_alt, s_alt20, s_alt2t, s_alt2f, ↓s_loopi, ↓v_pq, ↓PRE, POST, CORE, Nat.reduceDiv, Nat.reduceMod, Int.reduceLT, Int.reduceLE, Int.reduceToNat, Int.reduceAdd, ↓reduceIte, Nat.reduceEqDiff, Nat.reduceAdd, Nat.reduceMul, Nat.reduceSub, Nat.reduceLeDiff, Nat.reduceLT, reduceCtorEq, if_true, eq_self, forall_const, implies_true])) <;> (try simp only [Sz.Le, Sz.LeL, List.getElem?_cons_zero, List.getElem?_cons_succ]) <;> (try simp))
  · intro x hx _
    obtain ⟨b0, hb0⟩ : ∃ b0, bs[x]? = some b0 := ⟨_, List.getElem?_eq_getElem hx⟩
    have f := inpB_at hin hb0
    have hp : p.isSome = true := inpL_isSome hin (by omega)
    have i0 : (0 : Int) ≤ (x : Int) := by omega
    have i1 : (x : Int) < (bs.length : Int) := by omega
    have w1 : IntKind.i64.wrap ((x : Int) + 1) = (x : Int) + 1 := Sz.w_64 (by omega) (by omega)
    have e := rsF_snoc (v := 4294967295) hb0
    generalize rsF 4294967295 (bs.take x) = y at e ⊢
    simp (maxSteps := 2000000) -implicitDefEqProofs only [f, hp, i0, i1, w1, s_alt, s_alt20, s_alt2t, s_alt2f, ↓s_loopi, ↓v_pq, ↓PRE, POST, CORE, Nat.reduceDiv, Nat.reduceMod, Int.reduceLT, Int.reduceLE, Int.reduceToNat, Int.reduceAdd, ↓reduceIte, Nat.reduceEqDiff, Nat.reduceAdd, Nat.reduceMul, Nat.reduceSub, Nat.reduceLeDiff, Nat.reduceLT, reduceCtorEq, if_true, eq_self, forall_const, implies_true]
    refine TXi_of (TX_count (g0 _) 8 (fun i => [(3, .v (.int .u32 (rvN i y b0))), (5, .v (.int .u8 (rcN i b0))), (6, .v (.int .i64 (i : Int))), (9, .v (.slice p bs.length c)), (10, .v (.int .i64 (bs.length : Int))), (11, .v (.int .i64 (x : Int)))]) (fun i => []) (fun x => True) trivial ?_ ?_ ?_)
    · exact (by refine ⟨[], by simp [NdL, NdA, oO_cells, oO_own, iL_nil], ?_, ?_, keep0 hJ⟩ <;> simp only [FitM, FitE, ObLe, LeL, Le, List.cons_append, List.nil_append] <;> (try (simp (maxSteps := 2000000) -implicitDefEqProofs only [rvN, rcN, s_alt, s_alt20, s_alt2t, s_alt2f, ↓s_loopi, ↓v_pq, ↓PRE, POST, CORE, Nat.reduceDiv, Nat.reduceMod, Int.reduceLT, Int.reduceLE, Int.reduceToNat, Int.reduceAdd, ↓reduceIte, Nat.reduceEqDiff, Nat.reduceAdd, Nat.reduceMul, Nat.reduceSub, Nat.reduceLeDiff, Nat.reduceLT, reduceCtorEq, if_true, eq_self, forall_const, implies_true])) <;> (try simp only [Sz.Le, Sz.LeL, List.getElem?_cons_zero, List.getElem?_cons_succ]) <;> (try simp))
    · intro i hi _
      have j1 : (i : Int) < 8 := by omega
      have w2 : IntKind.i64.wrap ((i : Int) + 1) = (i : Int) + 1 := Sz.w_64 (by omega) (by omega)
      have ec : rcN (i + 1) b0 = IntKind.u8.wrap ((rcN i b0).tdiv 2) := rfl
      have ev : rvN (i + 1) y b0 = rbV (rvN i y b0) (rcN i b0) := rfl
      rw [ec, ev]
      generalize rcN i b0 = cc
      generalize rvN i y b0 = vv
      have q2 : ((2 : Int) = 0) = False := by simp
      simp (maxSteps := 2000000) -implicitDefEqProofs only [j1, w2, q2, ne_eq, not_false_eq_true, false_implies, s_alt, s_alt20, s_alt2t, s_alt2f, ↓s_loopi, ↓v_pq, ↓PRE, POST, CORE, Nat.reduceDiv, Nat.reduceMod, Int.reduceLT, Int.reduceLE, Int.reduceToNat, Int.reduceAdd, ↓reduceIte, Nat.reduceEqDiff, Nat.reduceAdd, Nat.reduceMul, Nat.reduceSub, Nat.reduceLeDiff, Nat.reduceLT, reduceCtorEq, if_true, eq_self, forall_const, implies_true]
      split
      · rename_i hc
        have er : rbV vv cc = xoI (IntKind.u32.wrap (vv.tdiv 2)) 2197175160 := if_pos hc
        rw [er]
        exact (by refine ⟨[], by simp [NdL, NdA, oO_cells, oO_own, iL_nil], ?_, ?_, keep0 hJ⟩ <;> simp only [FitM, FitE, ObLe, LeL, Le, List.cons_append, List.nil_append] <;> (try (simp (maxSteps := 2000000) -implicitDefEqProofs only [xoI, s_alt, s_alt20, s_alt2t, s_alt2f, ↓s_loopi, ↓v_pq, ↓PRE, POST, CORE, Nat.reduceDiv, Nat.reduceMod, Int.reduceLT, Int.reduceLE, Int.reduceToNat, Int.reduceAdd, ↓reduceIte, Nat.reduceEqDiff, Nat.reduceAdd, Nat.reduceMul, Nat.reduceSub, Nat.reduceLeDiff, Nat.reduceLT, reduceCtorEq, if_true, eq_self, forall_const, implies_true])) <;> (try simp only [Sz.Le, Sz.LeL, List.getElem?_cons_zero, List.getElem?_cons_succ]) <;> (try simp))
      · rename_i hc
        have er : rbV vv cc = IntKind.u32.wrap (vv.tdiv 2) := if_neg hc
        rw [er]
        exact (by refine ⟨[], by simp [NdL, NdA, oO_cells, oO_own, iL_nil], ?_, ?_, keep0 hJ⟩ <;> simp only [FitM, FitE, ObLe, LeL, Le, List.cons_append, List.nil_append] <;> (try (simp (maxSteps := 2000000) -implicitDefEqProofs only [xoI, s_alt, s_alt20, s_alt2t, s_alt2f, ↓s_loopi, ↓v_pq, ↓PRE, POST, CORE, Nat.reduceDiv, Nat.reduceMod, Int.reduceLT, Int.reduceLE, Int.reduceToNat, Int.reduceAdd, ↓reduceIte, Nat.reduceEqDiff, Nat.reduceAdd, Nat.reduceMul, Nat.reduceSub, Nat.reduceLeDiff, Nat.reduceLT, reduceCtorEq, if_true, eq_self, forall_const, implies_true])) <;> (try simp only [Sz.Le, Sz.LeL, List.getElem?_cons_zero, List.getElem?_cons_succ]) <;> (try simp))
    · intro _
      simp (maxSteps := 2000000) -implicitDefEqProofs only [w1, s_alt, s_alt20, s_alt2t, s_alt2f, ↓s_loopi, ↓v_pq, ↓PRE, POST, CORE, Nat.reduceDiv, Nat.reduceMod, Int.reduceLT, Int.reduceLE, Int.reduceToNat, Int.reduceAdd, ↓reduceIte, Nat.reduceEqDiff, Nat.reduceAdd, Nat.reduceMul, Nat.reduceSub, Nat.reduceLeDiff, Nat.reduceLT, reduceCtorEq, if_true, eq_self, forall_const, implies_true]
      rw [e]
      exact (by refine ⟨[], by simp [NdL, NdA, oO_cells, oO_own, iL_nil], ?_, ?_, keep0 hJ⟩ <;> simp only [FitM, FitE, ObLe, LeL, Le, List.cons_append, List.nil_append] <;> (try (simp (maxSteps := 2000000) -implicitDefEqProofs only [s_alt, s_alt20, s_alt2t, s_alt2f, ↓s_loopi, ↓v_pq, ↓PRE, POST, CORE, Nat.reduceDiv, Nat.reduceMod, Int.reduceLT, Int.reduceLE, Int.reduceToNat, Int.reduceAdd, ↓reduceIte, Nat.reduceEqDiff, Nat.reduceAdd, Nat.reduceMul, Nat.reduceSub, Nat.reduceLeDiff, Nat.reduceLT, reduceCtorEq, if_true, eq_self, forall_const, implies_true])) <;> (try simp only [Sz.Le, Sz.LeL, List.getElem?_cons_zero, List.getElem?_cons_succ]) <;> (try simp))
  · intro _
    have i1 : ¬ (bs.length : Int) < (bs.length : Int) := by omega
    simp (maxSteps := 2000000) -implicitDefEqProofs only [i1, List.take_length, s_alt, s_alt20, s_alt2t, s_alt2f, ↓s_loopi, ↓v_pq, ↓PRE, POST, CORE, Nat.reduceDiv, Nat.reduceMod, Int.reduceLT, Int.reduceLE, Int.reduceToNat, Int.reduceAdd, ↓reduceIte, Nat.reduceEqDiff, Nat.reduceAdd, Nat.reduceMul, Nat.reduceSub, Nat.reduceLeDiff, Nat.reduceLT, reduceCtorEq, if_true, eq_self, forall_const, implies_true]
    exact hk
end Go.Proofs.Ytibefgdjijmncaa
end
section
namespace Go.Proofs.Ytibefgdjijmncaa
open Go.RowKit Sz
theorem xor_half (a b : Nat) : (a ^^^ b) / 2 = a / 2 ^^^ b / 2 := by
  apply Nat.eq_of_testBit_eq
  intro i
  simp only [Nat.testBit_xor, Nat.testBit_div_two]
theorem xor_odd (a b : Nat) : (a ^^^ b) % 2 = (a % 2 + b % 2) % 2 := by
  have h := Nat.testBit_xor a b 0
  simp only [Nat.testBit_zero] at h
  rcases Nat.mod_two_eq_zero_or_one a with h1 | h1 <;> rcases Nat.mod_two_eq_zero_or_one b with h2 | h2 <;> rcases Nat.mod_two_eq_zero_or_one (a ^^^ b) with h3 | h3 <;> rw [h1, h2, h3] at h <;> simp [h1, h2, h3] at h ⊢
theorem stN_eq (v : Nat) : stN v = if v % 2 = 1 then v / 2 ^^^ 2197175160 else v / 2 := by
  show (bif Nat.beq (v % 2) 1 then Nat.xor (v / 2) 2197175160 else v / 2) = _
  cases h : Nat.beq (v % 2) 1 with
  | true => rw [nbeq] at h; rw [if_pos h]; rfl
  | false => rw [nbeqf] at h; rw [if_neg h]; rfl
theorem xor4 (a b c : Nat) : (a ^^^ c) ^^^ (b ^^^ c) = a ^^^ b := by
  apply Nat.eq_of_testBit_eq
  intro i
  simp only [Nat.testBit_xor]
  cases a.testBit i <;> cases b.testBit i <;> cases c.testBit i <;> rfl
theorem xor_r (a b c : Nat) : (a ^^^ c) ^^^ b = (a ^^^ b) ^^^ c := by
  apply Nat.eq_of_testBit_eq
  intro i
  simp only [Nat.testBit_xor]
  cases a.testBit i <;> cases b.testBit i <;> cases c.testBit i <;> rfl
theorem stN_xor (a b : Nat) : stN (a ^^^ b) = stN a ^^^ stN b := by
  rw [stN_eq, stN_eq, stN_eq, xor_half, xor_odd]
  rcases Nat.mod_two_eq_zero_or_one a with h1 | h1 <;> rcases Nat.mod_two_eq_zero_or_one b with h2 | h2 <;> rw [h1, h2] <;> simp only [Nat.reduceAdd, Nat.reduceMod, reduceCtorEq, if_true, if_false, Nat.zero_ne_one]
  · exact (Nat.xor_assoc _ _ _)
  · rw [xor_r]
  · rw [xor4]
theorem crN_xor (a b : Nat) : crN (a ^^^ b) = crN a ^^^ crN b := by
  unfold crN
  simp only [stN_xor]
theorem stN_two (y : Nat) : stN (2 * y) = y := by
  rw [stN_eq, if_neg (by omega)]
  omega
theorem crN_hi (q : Nat) : crN (256 * q) = q := by
  have : 256 * q = 2 * (2 * (2 * (2 * (2 * (2 * (2 * (2 * q))))))) := by omega
  rw [this]
  unfold crN
  simp only [stN_two]
theorem hi_lo (a b : Nat) : a ^^^ b = 256 * (a / 256) ^^^ (a % 256 ^^^ b) := by
  apply Nat.eq_of_testBit_eq
  intro i
  have h1 := Nat.testBit_two_pow_mul (i := 8) (a := a / 2 ^ 8) (j := i)
  have h2 := Nat.testBit_mod_two_pow a 8 i
  have h3 : (a / 2 ^ 8).testBit (i - 8) = a.testBit (i - 8 + 8) := Nat.testBit_div_two_pow a (i - 8)
  simp only [Nat.testBit_xor]
  rw [show (256 : Nat) = 2 ^ 8 from rfl, h1, h2]
  by_cases h : 8 ≤ i
  · have e : i - 8 + 8 = i := by omega
    rw [e] at h3
    rw [h3]
    have h4 : ¬ i < 8 := by omega
    simp [h, h4]
  · have h4 : i < 8 := by omega
    simp [h, h4]
theorem onN_eq {a b : Nat} : onN a b = crN (a ^^^ b) := by
  rw [hi_lo a b, crN_xor, crN_hi]
  rfl
def bvN : Nat → Nat → Nat → Nat
  | 0, a, b => a
  | i + 1, a, b => if (bvN i a b ^^^ b / 2 ^ i) % 2 = 1 then bvN i a b / 2 ^^^ 2197175160 else bvN i a b / 2
def stK : Nat → Nat → Nat
  | 0, x => x
  | i + 1, x => stN (stK i x)
theorem bvN_ok (a b : Nat) : ∀ i, bvN i a b ^^^ b / 2 ^ i = stK i (a ^^^ b)
  | 0 => by simp [bvN, stK]
  | i + 1 => by
    have ih := bvN_ok a b i
    have e : b / 2 ^ (i + 1) = (b / 2 ^ i) / 2 := by rw [Nat.div_div_eq_div_mul, Nat.pow_succ]
    simp only [bvN, stK]
    rw [← ih, stN_eq, e, xor_half]
    by_cases h : (bvN i a b ^^^ b / 2 ^ i) % 2 = 1
    · rw [if_pos h, if_pos h, xor_r]
    · rw [if_neg h, if_neg h]
theorem bvN_lt {a b : Nat} (ha : a < 4294967296) : ∀ i, bvN i a b < 4294967296
  | 0 => ha
  | i + 1 => by
    have ih := bvN_lt (b := b) ha i
    simp only [bvN]
    split
    · exact xor_lt (by omega) (by decide)
    · omega
theorem rcN_ok {b : Nat} (hb : b < 256) : ∀ i, rcN i (Int.ofNat b) = Int.ofNat (b / 2 ^ i)
  | 0 => by simp [rcN]
  | i + 1 => by
    have e : b / 2 ^ (i + 1) = (b / 2 ^ i) / 2 := by rw [Nat.div_div_eq_div_mul, Nat.pow_succ]
    have l : b / 2 ^ i ≤ b := Nat.div_le_self _ _
    show rbC (rcN i (Int.ofNat b)) = _
    rw [rcN_ok hb i, e]
    unfold rbC
    rw [show (Int.ofNat (b / 2 ^ i)).tdiv 2 = Int.ofNat (b / 2 ^ i / 2) from rfl]
    exact fitsK_ok (k := .u8) (by simp only [fitsK, nblt, decide_eq_true_eq]; omega)
theorem rvN_ok {a b : Nat} (ha : a < 4294967296) (hb : b < 256) : ∀ i, rvN i (Int.ofNat a) (Int.ofNat b) = Int.ofNat (bvN i a b)
  | 0 => rfl
  | i + 1 => by
    show rbV (rvN i (Int.ofNat a) (Int.ofNat b)) (rcN i (Int.ofNat b)) = _
    rw [rvN_ok ha hb i, rcN_ok hb i]
    have hl := bvN_lt (b := b) ha i
    have l : b / 2 ^ i ≤ b := Nat.div_le_self _ _
    simp only [bvN]
    generalize bvN i a b = v at hl ⊢
    generalize b / 2 ^ i = c at l ⊢
    unfold rbV
    have e1 : IntKind.u32.wrap (Int.ofNat c) = Int.ofNat c := fitsK_ok (by simp only [fitsK, nblt, decide_eq_true_eq]; omega)
    have e2 : IntKind.u32.wrap ((Int.ofNat v).tdiv 2) = Int.ofNat (v / 2) := fitsK_ok (k := .u32) (n := Int.ofNat (v / 2)) (by simp only [fitsK, nblt, decide_eq_true_eq]; omega)
    rw [e1, e2]
    have hx := xor_odd v c
    have hc : (((Int.ofNat v).tmod 2 != (Int.ofNat c).tmod 2) = true) ↔ (v ^^^ c) % 2 = 1 := by
      rw [show (Int.ofNat v).tmod 2 = Int.ofNat (v % 2) from rfl, show (Int.ofNat c).tmod 2 = Int.ofNat (c % 2) from rfl, hx, bne_iff_ne]
      rcases Nat.mod_two_eq_zero_or_one v with h1 | h1 <;> rcases Nat.mod_two_eq_zero_or_one c with h2 | h2 <;> rw [h1, h2] <;> decide
    by_cases h : (v ^^^ c) % 2 = 1
    · rw [if_pos (hc.2 h), if_pos h]
      exact u32_xor (by omega) (by decide)
    · rw [if_neg (fun q => h (hc.1 q)), if_neg h]
theorem rv8_ok {a b : Nat} (ha : a < 4294967296) (hb : b < 256) : rvN 8 (Int.ofNat a) (Int.ofNat b) = onS (Int.ofNat a) (Int.ofNat b) := by
  rw [rvN_ok ha hb, onN_ok ha hb, onN_eq]
  have h := bvN_ok a b 8
  rw [Nat.div_eq_of_lt (by omega : b < 2 ^ 8), Nat.xor_zero] at h
  rw [h]
  rfl
theorem onN_lt {a b : Nat} (ha : a < 4294967296) (hb : b < 256) : onN a b < 4294967296 := by
  rw [onN_eq]
  exact crN_lt (xor_lt ha (by omega))
/-- The document's sum is the program's. -/
theorem rsF_on : ∀ {bs : List Int}, (∀ c ∈ bs, 0 ≤ c ∧ c < 256) → ∀ {v : Nat}, v < 4294967296 → rsF (Int.ofNat v) bs = onF (Int.ofNat v) bs
  | [], _, v, hv => rfl
  | c :: bs, h, v, hv => by
    obtain ⟨c0, c1⟩ := h c (by simp)
    obtain ⟨n, rfl⟩ := Int.eq_ofNat_of_zero_le c0
    have hn : n < 256 := by omega
    show rsF (rvN 8 (Int.ofNat v) (Int.ofNat n)) bs = onF (onS (Int.ofNat v) (Int.ofNat n)) bs
    rw [rv8_ok hv hn, onN_ok hv hn]
    exact rsF_on (fun c hc => h c (by simp [hc])) (onN_lt hv hn)
theorem sum_ok {bs : List Int} (h : ∀ c ∈ bs, 0 ≤ c ∧ c < 256) : noI (rsF 4294967295 bs) = sumF 0 bs := by
  unfold sumF
  have e : noI 0 = Int.ofNat 4294967295 := by
    have := noI_ok (v := 0) (by decide)
    exact this
  rw [e, ← rsF_on h (by decide)]
  rfl
end Go.Proofs.Ytibefgdjijmncaa
end
section
namespace Go.Proofs.Ytibefgdjijmncaa
open Go.RowKit Sz
set_option maxHeartbeats 4000000
set_option maxRecDepth 20000
-- almshouse/almshouseref04.Check (1 parameters)
def x21 : XC := (.seq (.tree (.seq ⟨some 1, none, (.box (.tmp 0))⟩
  (.seq ⟨some 2, none, (.ofA (.mv (.cst (.v (.int .i64 0)))))⟩
  .done)))
 (.seq (.seq (.tree (.seq ⟨some 4, none, (.ofA (.faddr 0 (.tmp 1)))⟩
  (.seq ⟨some 5, none, (.ofA (.load none (.tmp 4)))⟩
  (.seq ⟨some 6, none, (.ofA (.bin .lss (.tmp 5) (.cst (.v (.int .i64 1)))))⟩
  (.seq ⟨some 7, none, (.ofA (.mv (.tmp 6)))⟩
  (.seq ⟨some 8, some (7, false), (.ofA (.faddr 1 (.tmp 1)))⟩
  (.seq ⟨some 9, some (7, false), (.ofA (.load none (.tmp 8)))⟩
  (.seq ⟨some 10, some (7, false), (.ofA (.bin .lss (.tmp 9) (.cst (.v (.int .i64 1)))))⟩
  (.seq ⟨some 11, none, (.ofA (.pick (.tmp 7) (.cst (.v (.bool true))) (.tmp 10)))⟩
  (.seq ⟨some 12, none, (.ofA (.mv (.tmp 11)))⟩
  (.seq ⟨some 13, some (12, false), (.ofA (.faddr 2 (.tmp 1)))⟩
  (.seq ⟨some 14, some (12, false), (.ofA (.load none (.tmp 13)))⟩
  (.seq ⟨some 15, some (12, false), (.ofA (.bin .lss (.tmp 14) (.cst (.v (.int .i64 1)))))⟩
  (.seq ⟨some 16, none, (.ofA (.pick (.tmp 12) (.cst (.v (.bool true))) (.tmp 15)))⟩
  (.seq ⟨some 17, none, (.ofA (.mv (.tmp 16)))⟩
  (.seq ⟨some 18, some (17, false), (.ofA (.faddr 3 (.tmp 1)))⟩
  (.seq ⟨some 19, some (17, false), (.ofA (.load none (.tmp 18)))⟩
  (.seq ⟨some 20, some (17, false), (.ofA (.bin .lss (.tmp 19) (.cst (.v (.int .i64 2)))))⟩
  (.seq ⟨some 21, none, (.ofA (.pick (.tmp 17) (.cst (.v (.bool true))) (.tmp 20)))⟩
  .done)))))))))))))))))))
 (.cond (.tmp 21)
 (.seq (.tree (.seq ⟨some 2, none, (.ofA (.mv (.cst (.v (.int .i64 1)))))⟩
  .done))
 .ret)
 .skip))
 (.seq (.seq (.tree (.seq ⟨some 22, none, (.ofA (.faddr 0 (.tmp 1)))⟩
  (.seq ⟨some 23, none, (.ofA (.load none (.tmp 22)))⟩
  (.seq ⟨some 24, none, (.ofA (.bin .gtr (.tmp 23) (.cst (.v (.int .i64 64)))))⟩
  (.seq ⟨some 25, none, (.ofA (.mv (.tmp 24)))⟩
  (.seq ⟨some 26, some (25, false), (.ofA (.faddr 1 (.tmp 1)))⟩
  (.seq ⟨some 27, some (25, false), (.ofA (.load none (.tmp 26)))⟩
  (.seq ⟨some 28, some (25, false), (.ofA (.bin .gtr (.tmp 27) (.cst (.v (.int .i64 64)))))⟩
  (.seq ⟨some 29, none, (.ofA (.pick (.tmp 25) (.cst (.v (.bool true))) (.tmp 28)))⟩
  (.seq ⟨some 30, none, (.ofA (.mv (.tmp 29)))⟩
  (.seq ⟨some 31, some (30, false), (.ofA (.faddr 2 (.tmp 1)))⟩
  (.seq ⟨some 32, some (30, false), (.ofA (.load none (.tmp 31)))⟩
  (.seq ⟨some 33, some (30, false), (.ofA (.bin .gtr (.tmp 32) (.cst (.v (.int .i64 64)))))⟩
  (.seq ⟨some 34, none, (.ofA (.pick (.tmp 30) (.cst (.v (.bool true))) (.tmp 33)))⟩
  (.seq ⟨some 35, none, (.ofA (.mv (.tmp 34)))⟩
  (.seq ⟨some 36, some (35, false), (.ofA (.faddr 3 (.tmp 1)))⟩
  (.seq ⟨some 37, some (35, false), (.ofA (.load none (.tmp 36)))⟩
  (.seq ⟨some 38, some (35, false), (.ofA (.bin .gtr (.tmp 37) (.cst (.v (.int .i64 16)))))⟩
  (.seq ⟨some 39, none, (.ofA (.pick (.tmp 35) (.cst (.v (.bool true))) (.tmp 38)))⟩
  .done)))))))))))))))))))
 (.cond (.tmp 39)
 (.seq (.tree (.seq ⟨some 2, none, (.ofA (.mv (.cst (.v (.int .i64 4)))))⟩
  .done))
 .ret)
 .skip))
 (.seq (.tree (.seq ⟨some 40, none, (.ofA (.faddr 0 (.tmp 1)))⟩
  (.seq ⟨some 41, none, (.ofA (.load none (.tmp 40)))⟩
  (.seq ⟨some 42, none, (.ofA (.faddr 1 (.tmp 1)))⟩
  (.seq ⟨some 43, none, (.ofA (.load none (.tmp 42)))⟩
  (.seq ⟨some 44, none, (.ofA (.bin .mul (.tmp 41) (.tmp 43)))⟩
  (.seq ⟨some 45, none, (.ofA (.faddr 2 (.tmp 1)))⟩
  (.seq ⟨some 46, none, (.ofA (.load none (.tmp 45)))⟩
  (.seq ⟨some 47, none, (.ofA (.bin .mul (.tmp 44) (.tmp 46)))⟩
  (.seq ⟨some 3, none, (.ofA (.mv (.tmp 47)))⟩
  .done))))))))))
 (.seq (.seq (.tree (.seq ⟨some 48, none, (.ofA (.mv (.tmp 3)))⟩
  (.seq ⟨some 49, none, (.ofA (.bin .lss (.tmp 48) (.cst (.v (.int .i64 3)))))⟩
  .done)))
 (.cond (.tmp 49)
 (.seq (.tree (.seq ⟨some 2, none, (.ofA (.mv (.cst (.v (.int .i64 1)))))⟩
  .done))
 .ret)
 .skip))
 (.seq (.seq (.tree (.seq ⟨some 50, none, (.ofA (.mv (.tmp 3)))⟩
  (.seq ⟨some 51, none, (.ofA (.bin .gtr (.tmp 50) (.cst (.v (.int .i64 64)))))⟩
  .done)))
 (.cond (.tmp 51)
 (.seq (.tree (.seq ⟨some 2, none, (.ofA (.mv (.cst (.v (.int .i64 4)))))⟩
  .done))
 .ret)
 .skip))
 (.seq (.tree (.seq ⟨some 2, none, (.ofA (.mv (.cst (.v (.int .i64 0)))))⟩
  .done))
 .ret)))))))
def r21 : List XR := [.tmp 2]
theorem fn21 : FnX Try.prog 21 [] 52 x21 r21 := ⟨_, Try.func21, by kernel_rfl, by kernel_rfl, by kernel_rfl, by kernel_rfl⟩
-- almshouse/almshouselaw43.may (1 parameters)
def x14 : XC := (.seq (.tree (.seq ⟨some 1, none, (.box (.tmp 0))⟩
  (.seq ⟨some 2, none, (.ofA (.mv (.cst (.v (.bool false)))))⟩
  .done)))
 (.seq (.seq (.tree (.seq ⟨some 7, none, (.ofA (.faddr 0 (.tmp 1)))⟩
  (.seq ⟨some 8, none, (.ofA (.load (some 4) (.tmp 7)))⟩
  (.seq ⟨some 9, none, (.call (.cst (.fn 21 [])) [(.tmp 8)])⟩
  (.seq ⟨some 10, none, (.ofA (.bin .neq (.tmp 9) (.cst (.v (.int .i64 0)))))⟩
  (.seq ⟨some 11, none, (.ofA (.mv (.tmp 10)))⟩
  (.seq ⟨some 12, some (11, false), (.ofA (.faddr 4 (.tmp 1)))⟩
  (.seq ⟨some 13, some (11, false), (.ofA (.load none (.tmp 12)))⟩
  (.seq ⟨some 14, some (11, false), (.ofA (.len (.tmp 13)))⟩
  (.seq ⟨some 15, some (11, false), (.ofA (.faddr 0 (.tmp 1)))⟩
  (.seq ⟨some 16, some (11, false), (.ofA (.faddr 0 (.tmp 15)))⟩
  (.seq ⟨some 17, some (11, false), (.ofA (.load none (.tmp 16)))⟩
  (.seq ⟨some 18, some (11, false), (.ofA (.faddr 0 (.tmp 1)))⟩
  (.seq ⟨some 19, some (11, false), (.ofA (.faddr 1 (.tmp 18)))⟩
  (.seq ⟨some 20, some (11, false), (.ofA (.load none (.tmp 19)))⟩
  (.seq ⟨some 21, some (11, false), (.ofA (.bin .mul (.tmp 17) (.tmp 20)))⟩
  (.seq ⟨some 22, some (11, false), (.ofA (.faddr 0 (.tmp 1)))⟩
  (.seq ⟨some 23, some (11, false), (.ofA (.faddr 2 (.tmp 22)))⟩
  (.seq ⟨some 24, some (11, false), (.ofA (.load none (.tmp 23)))⟩
  (.seq ⟨some 25, some (11, false), (.ofA (.bin .mul (.tmp 21) (.tmp 24)))⟩
  (.seq ⟨some 26, some (11, false), (.ofA (.bin .neq (.tmp 14) (.tmp 25)))⟩
  (.seq ⟨some 27, none, (.ofA (.pick (.tmp 11) (.cst (.v (.bool true))) (.tmp 26)))⟩
  .done))))))))))))))))))))))
 (.cond (.tmp 27)
 (.seq (.tree (.seq ⟨some 2, none, (.ofA (.mv (.cst (.v (.bool false)))))⟩
  .done))
 .ret)
 .skip))
 (.seq (.seq (.tree (.seq ⟨some 28, none, (.ofA (.faddr 4 (.tmp 1)))⟩
  (.seq ⟨some 29, none, (.ofA (.load none (.tmp 28)))⟩
  (.seq ⟨some 30, none, (.ofA (.len (.tmp 29)))⟩
  (.seq ⟨some 31, none, (.ofA (.mv (.cst (.v (.int .i64 0)))))⟩
  .done)))))
 (.block 0 (.loop (.seq (.tree (.seq ⟨some 32, none, (.ofA (.bin .lss (.tmp 31) (.tmp 30)))⟩
  .done))
 (.seq (.cond (.tmp 32)
 .skip
 (.exit 0))
 (.seq (.block 1 (.seq (.tree (.seq ⟨some 33, none, (.ofA (.mv (.tmp 31)))⟩
  (.seq ⟨some 34, none, (.ofA (.isl 3 (.tmp 29) (.tmp 31)))⟩
  (.seq ⟨some 35, none, (.ofA (.load (some 3) (.tmp 34)))⟩
  (.seq ⟨some 4, none, (.alloc [(.v (.bool false)), (.v (.int .i64 0)), (.v (.slice none 0 0))])⟩
  (.seq ⟨some 3, none, (.ofA (.mv (.tmp 33)))⟩
  (.seq ⟨none, none, (.store 3 (.tmp 4) (.tmp 35))⟩
  .done)))))))
 (.seq (.seq (.tree (.seq ⟨some 36, none, (.ofA (.faddr 0 (.tmp 4)))⟩
  (.seq ⟨some 37, none, (.ofA (.load none (.tmp 36)))⟩
  (.seq ⟨some 38, none, (.ofA (.mv (.tmp 37)))⟩
  (.seq ⟨some 39, some (38, true), (.ofA (.mv (.tmp 3)))⟩
  (.seq ⟨some 40, some (38, true), (.ofA (.bin .lss (.tmp 39) (.cst (.v (.int .i64 2)))))⟩
  (.seq ⟨some 41, none, (.ofA (.pick (.tmp 38) (.tmp 40) (.cst (.v (.bool false)))))⟩
  (.seq ⟨some 42, none, (.ofA (.mv (.tmp 41)))⟩
  (.seq ⟨some 43, some (42, false), (.ofA (.faddr 1 (.tmp 4)))⟩
  (.seq ⟨some 44, some (42, false), (.ofA (.load none (.tmp 43)))⟩
  (.seq ⟨some 45, some (42, false), (.ofA (.bin .lss (.tmp 44) (.cst (.v (.int .i64 0)))))⟩
  (.seq ⟨some 46, none, (.ofA (.pick (.tmp 42) (.cst (.v (.bool true))) (.tmp 45)))⟩
  (.seq ⟨some 47, none, (.ofA (.mv (.tmp 46)))⟩
  (.seq ⟨some 48, some (47, false), (.ofA (.faddr 1 (.tmp 4)))⟩
  (.seq ⟨some 49, some (47, false), (.ofA (.load none (.tmp 48)))⟩
  (.seq ⟨some 50, some (47, false), (.ofA (.bin .geq (.tmp 49) (.cst (.v (.int .i64 2147483648)))))⟩
  (.seq ⟨some 51, none, (.ofA (.pick (.tmp 47) (.cst (.v (.bool true))) (.tmp 50)))⟩
  (.seq ⟨some 52, none, (.ofA (.mv (.tmp 51)))⟩
  (.seq ⟨some 53, some (52, false), (.ofA (.faddr 2 (.tmp 4)))⟩
  (.seq ⟨some 54, some (52, false), (.ofA (.load none (.tmp 53)))⟩
  (.seq ⟨some 55, some (52, false), (.ofA (.len (.tmp 54)))⟩
  (.seq ⟨some 56, some (52, false), (.ofA (.faddr 0 (.tmp 1)))⟩
  (.seq ⟨some 57, some (52, false), (.ofA (.faddr 3 (.tmp 56)))⟩
  (.seq ⟨some 58, some (52, false), (.ofA (.load none (.tmp 57)))⟩
  (.seq ⟨some 59, some (52, false), (.ofA (.bin .gtr (.tmp 55) (.tmp 58)))⟩
  (.seq ⟨some 60, none, (.ofA (.pick (.tmp 52) (.cst (.v (.bool true))) (.tmp 59)))⟩
  .done))))))))))))))))))))))))))
 (.cond (.tmp 60)
 (.seq (.tree (.seq ⟨some 2, none, (.ofA (.mv (.cst (.v (.bool false)))))⟩
  .done))
 .ret)
 .skip))
 (.seq (.tree (.seq ⟨some 61, none, (.ofA (.faddr 2 (.tmp 4)))⟩
  (.seq ⟨some 62, none, (.ofA (.load none (.tmp 61)))⟩
  (.seq ⟨some 63, none, (.ofA (.len (.tmp 62)))⟩
  (.seq ⟨some 64, none, (.ofA (.mv (.cst (.v (.int .i64 0)))))⟩
  .done)))))
 (.block 2 (.loop (.seq (.tree (.seq ⟨some 65, none, (.ofA (.bin .lss (.tmp 64) (.tmp 63)))⟩
  .done))
 (.seq (.cond (.tmp 65)
 .skip
 (.exit 2))
 (.seq (.block 3 (.seq (.tree (.seq ⟨some 66, none, (.ofA (.isl 3 (.tmp 62) (.tmp 64)))⟩
  (.seq ⟨some 67, none, (.ofA (.load (some 3) (.tmp 66)))⟩
  (.seq ⟨some 6, none, (.alloc [(.v (.bool false)), (.v (.string ⟨#[]⟩)), (.v (.string ⟨#[]⟩))])⟩
  (.seq ⟨none, none, (.store 3 (.tmp 6) (.tmp 67))⟩
  .done)))))
 (.seq (.tree (.seq ⟨some 68, none, (.ofA (.faddr 0 (.tmp 6)))⟩
  (.seq ⟨some 69, none, (.ofA (.load none (.tmp 68)))⟩
  (.seq ⟨some 70, none, (.ofA (.mv (.tmp 69)))⟩
  (.seq ⟨some 71, some (70, true), (.ofA (.faddr 1 (.tmp 6)))⟩
  (.seq ⟨some 72, some (70, true), (.ofA (.load none (.tmp 71)))⟩
  (.seq ⟨some 73, some (70, true), (.ofA (.bin .neq (.tmp 72) (.cst (.v (.string ⟨#[]⟩)))))⟩
  (.seq ⟨some 74, some (70, true), (.ofA (.mv (.tmp 73)))⟩
  (.seq ⟨some 75, some (74, false), (.ofA (.faddr 2 (.tmp 6)))⟩
  (.seq ⟨some 76, some (74, false), (.ofA (.load none (.tmp 75)))⟩
  (.seq ⟨some 77, some (74, false), (.ofA (.bin .neq (.tmp 76) (.cst (.v (.string ⟨#[]⟩)))))⟩
  (.seq ⟨some 78, some (70, true), (.ofA (.pick (.tmp 74) (.cst (.v (.bool true))) (.tmp 77)))⟩
  (.seq ⟨some 79, none, (.ofA (.pick (.tmp 70) (.tmp 78) (.cst (.v (.bool false)))))⟩
  (.seq ⟨some 80, none, (.ofA (.mv (.tmp 79)))⟩
  (.seq ⟨some 81, some (80, false), (.ofA (.faddr 1 (.tmp 6)))⟩
  (.seq ⟨some 82, some (80, false), (.ofA (.load none (.tmp 81)))⟩
  (.seq ⟨some 83, some (80, false), (.ofA (.lens (.tmp 82)))⟩
  (.seq ⟨some 84, some (80, false), (.ofA (.bin .gtr (.tmp 83) (.cst (.v (.int .i64 32)))))⟩
  (.seq ⟨some 85, none, (.ofA (.pick (.tmp 80) (.cst (.v (.bool true))) (.tmp 84)))⟩
  (.seq ⟨some 86, none, (.ofA (.mv (.tmp 85)))⟩
  (.seq ⟨some 87, some (86, false), (.ofA (.faddr 2 (.tmp 6)))⟩
  (.seq ⟨some 88, some (86, false), (.ofA (.load none (.tmp 87)))⟩
  (.seq ⟨some 89, some (86, false), (.ofA (.lens (.tmp 88)))⟩
  (.seq ⟨some 90, some (86, false), (.ofA (.bin .gtr (.tmp 89) (.cst (.v (.int .i64 160)))))⟩
  (.seq ⟨some 91, none, (.ofA (.pick (.tmp 86) (.cst (.v (.bool true))) (.tmp 90)))⟩
  .done)))))))))))))))))))))))))
 (.cond (.tmp 91)
 (.seq (.tree (.seq ⟨some 2, none, (.ofA (.mv (.cst (.v (.bool false)))))⟩
  .done))
 .ret)
 .skip))))
 (.tree (.seq ⟨some 92, none, (.ofA (.bin .add (.tmp 64) (.cst (.v (.int .i64 1)))))⟩
  (.seq ⟨some 64, none, (.ofA (.mv (.tmp 92)))⟩
  .done))))))))))))
 (.tree (.seq ⟨some 93, none, (.ofA (.bin .add (.tmp 31) (.cst (.v (.int .i64 1)))))⟩
  (.seq ⟨some 31, none, (.ofA (.mv (.tmp 93)))⟩
  .done)))))))))
 (.seq (.tree (.seq ⟨some 2, none, (.ofA (.mv (.cst (.v (.bool true)))))⟩
  .done))
 .ret))))
def r14 : List XR := [.tmp 2]
theorem fn14 : FnX Try.prog 14 [] 94 x14 r14 := ⟨_, Try.func14, by kernel_rfl, by kernel_rfl, by kernel_rfl, by kernel_rfl⟩
-- almshouse/almshouselaw43.bit (1 parameters)
def x59 : XC := (.seq (.tree (.seq ⟨some 2, none, (.ofA (.mv (.cst (.v (.int .i64 0)))))⟩
  .done))
 (.seq (.seq (.tree (.seq ⟨some 3, none, (.ofA (.mv (.tmp 0)))⟩
  .done))
 (.cond (.tmp 3)
 (.seq (.tree (.seq ⟨some 2, none, (.ofA (.mv (.cst (.v (.int .i64 1)))))⟩
  .done))
 .ret)
 .skip))
 (.seq (.tree (.seq ⟨some 2, none, (.ofA (.mv (.cst (.v (.int .i64 0)))))⟩
  .done))
 .ret)))
def r59 : List XR := [.tmp 2]
theorem fn59 : FnX Try.prog 59 [] 4 x59 r59 := ⟨_, Try.func59, by kernel_rfl, by kernel_rfl, by kernel_rfl, by kernel_rfl⟩
-- almshouse/almshouseref03.Make (2 parameters)
def x57 : XC := (.seq (.tree (.seq ⟨some 4, none, (.ofA (.mv (.cst (.v (.slice none 0 0)))))⟩
  (.seq ⟨some 5, none, (.ofA (.mv (.cst (.v (.int .i64 0)))))⟩
  .done)))
 (.seq (.seq (.tree (.seq ⟨some 7, none, (.ofA (.mv (.tmp 0)))⟩
  (.seq ⟨some 8, none, (.ofA (.bin .lss (.tmp 7) (.cst (.v (.int .i64 0)))))⟩
  (.seq ⟨some 9, none, (.ofA (.mv (.tmp 8)))⟩
  (.seq ⟨some 10, some (9, false), (.ofA (.mv (.tmp 0)))⟩
  (.seq ⟨some 11, some (9, false), (.ofA (.bin .gtr (.tmp 10) (.cst (.v (.int .i64 255)))))⟩
  (.seq ⟨some 12, none, (.ofA (.pick (.tmp 9) (.cst (.v (.bool true))) (.tmp 11)))⟩
  .done)))))))
 (.cond (.tmp 12)
 (.seq (.tree (.seq ⟨some 4, none, (.ofA (.mv (.cst (.v (.slice none 0 0)))))⟩
  (.seq ⟨some 5, none, (.ofA (.mv (.cst (.v (.int .i64 1)))))⟩
  .done)))
 .ret)
 .skip))
 (.seq (.seq (.tree (.seq ⟨some 13, none, (.ofA (.mv (.tmp 1)))⟩
  (.seq ⟨some 14, none, (.ofA (.len (.tmp 13)))⟩
  (.seq ⟨some 15, none, (.ofA (.bin .gtr (.tmp 14) (.cst (.v (.int .i64 65535)))))⟩
  .done))))
 (.cond (.tmp 15)
 (.seq (.tree (.seq ⟨some 4, none, (.ofA (.mv (.cst (.v (.slice none 0 0)))))⟩
  (.seq ⟨some 5, none, (.ofA (.mv (.cst (.v (.int .i64 3)))))⟩
  .done)))
 .ret)
 .skip))
 (.seq (.tree (.seq ⟨some 16, none, (.ofA (.mv (.tmp 0)))⟩
  (.seq ⟨some 17, none, (.call (.cst (.fn 58 [])) [(.cst (.v (.slice none 0 0))), (.tmp 16), (.cst (.v (.int .i64 1)))])⟩
  (.seq ⟨some 18, none, (.ofA (.mv (.tmp 1)))⟩
  (.seq ⟨some 19, none, (.ofA (.len (.tmp 18)))⟩
  (.seq ⟨some 20, none, (.call (.cst (.fn 58 [])) [(.tmp 17), (.tmp 19), (.cst (.v (.int .i64 2)))])⟩
  (.seq ⟨some 21, none, (.ofA (.mv (.tmp 1)))⟩
  (.seq ⟨some 22, none, (.app 1 1 (.tmp 20) (.tmp 21))⟩
  (.seq ⟨some 6, none, (.ofA (.mv (.tmp 22)))⟩
  .done)))))))))
 (.seq (.tree (.seq ⟨some 23, none, (.ofA (.mv (.tmp 6)))⟩
  (.seq ⟨some 24, none, (.ofA (.mv (.tmp 6)))⟩
  (.seq ⟨some 25, none, (.call (.cst (.fn 102 [])) [(.tmp 24)])⟩
  (.seq ⟨some 26, none, (.ofA (.conv .i64 (.tmp 25)))⟩
  (.seq ⟨some 27, none, (.call (.cst (.fn 58 [])) [(.tmp 23), (.tmp 26), (.cst (.v (.int .i64 4)))])⟩
  (.seq ⟨some 4, none, (.ofA (.mv (.tmp 27)))⟩
  (.seq ⟨some 5, none, (.ofA (.mv (.cst (.v (.int .i64 0)))))⟩
  .done))))))))
 .ret)))))
def r57 : List XR := [.tmp 4, .tmp 5]
theorem fn57 : FnX Try.prog 57 [] 28 x57 r57 := ⟨_, Try.func57, by kernel_rfl, by kernel_rfl, by kernel_rfl, by kernel_rfl⟩
def c21 [Inp] : Trans := fun args m k => ∃ g : Ge, args = [.agg g.sv] ∧ ∀ e : Int, (e = 0 ↔ chkG g = true) → k (.v (.int .i64 e)) m
theorem c21_ok [I : Inp] : Contract Try.prog 21 true c21 := by
  refine .read fn21 (G := fun _ => []) (fun J => @g0 J _) _ fun args m k h => ?_
  obtain ⟨g, rfl, hk⟩ := h
  refine ⟨by simp, fun J hJ us hus => ?_⟩
  obtain ⟨u, t1, rfl, hk1, rfl⟩ := hus
  obtain rfl := hk1.2.1 g.vs rfl
  rw [List.map_cons, List.map_nil, show SV.of (.agg g.vs.toArray) = _ from ge_of g]
  by_cases hg : inG g
  · obtain ⟨⟨m1, m2⟩, m3, m4⟩ := in_mul hg
    have w1 : IntKind.i64.wrap (g.ch * g.di) = g.ch * g.di := Sz.w_64 (by omega) (by omega)
    have w2 : IntKind.i64.wrap (g.ch * g.di * g.bl) = g.ch * g.di * g.bl := Sz.w_64 (by omega) (by omega)
    have hc := @chk_in g
    unfold inG at hg
    simp (maxSteps := 2000000) -implicitDefEqProofs only [↓x21, ↓r21, w1, w2, gt_iff_lt, s_alt, s_alt20, s_alt2t, s_alt2f, ↓s_loopi, ↓v_pq, ↓PRE, POST, CORE, Nat.reduceDiv, Nat.reduceMod, Int.reduceLT, Int.reduceLE, Int.reduceToNat, Int.reduceAdd, ↓reduceIte, Nat.reduceEqDiff, Nat.reduceAdd, Nat.reduceMul, Nat.reduceSub, Nat.reduceLeDiff, Nat.reduceLT, reduceCtorEq, if_true, eq_self, forall_const, implies_true]
    generalize g.ch * g.di * g.bl = M at w2 m3 m4 hc ⊢
    simp only [decide_eq_true_eq, decide_eq_false_iff_not, Decidable.not_not]
    repeat' split
    all_goals first | (refine hk _ ?_; rw [hc]; unfold inG; omega) | (exfalso; omega)
  · have hc : chkG g = false := by
      cases h : chkG g with
      | false => rfl
      | true => exact (hg (chk_in.1 h).1).elim
    unfold inG at hg
    simp (maxSteps := 2000000) -implicitDefEqProofs only [↓x21, ↓r21, gt_iff_lt, s_alt, s_alt20, s_alt2t, s_alt2f, ↓s_loopi, ↓v_pq, ↓PRE, POST, CORE, Nat.reduceDiv, Nat.reduceMod, Int.reduceLT, Int.reduceLE, Int.reduceToNat, Int.reduceAdd, ↓reduceIte, Nat.reduceEqDiff, Nat.reduceAdd, Nat.reduceMul, Nat.reduceSub, Nat.reduceLeDiff, Nat.reduceLT, reduceCtorEq, if_true, eq_self, forall_const, implies_true]
    simp only [decide_eq_true_eq, decide_eq_false_iff_not, Decidable.not_not]
    repeat' split
    all_goals first | (refine hk _ ?_; rw [hc]; simp; done) | (exfalso; omega)
def c14 [Inp] : Trans := fun args m k => ∃ s g bs, args = [s] ∧ picS m s g bs ∧ bs.length ≤ 140737488355328 ∧ (∀ b ∈ bs, b.pages.length ≤ 140737488355328) ∧ k (.v (.bool (mayF g bs))) m
theorem g21 [Inp] : GOk Try.prog [⟨21, true, c21⟩] := GOk.cons c21_ok (g0 _)
theorem c14_ok [I : Inp] : Contract Try.prog 14 true c14 := by
  refine .readG fn14 (G := fun J => [⟨21, true, @c21 J⟩]) (fun J => @g21 J) _ fun args m k h => ?_
  obtain ⟨s, g, bs, rfl, h1, hn, hpn, hk⟩ := h
  refine ⟨by simp, fun J hJ K hK us hus => ?_⟩
  obtain ⟨u, t1, rfl, hk1, rfl⟩ := hus
  obtain ⟨p, c, xs, e1, rfl, hin, hx0⟩ := pic_kn hK h1 hk1
  rw [List.map_cons, e1, List.map_nil]
  rw [List.length_map] at hn
  have hitem : ∀ (i : Nat) (x : Bi), xs[i]? = some x → inpL (plusA p (i * 3)) 3 = some x.cs := fun i x hx => inp_item Bi.len hin rfl hx
  unfold Ge.sv
  simp (maxSteps := 2000000) -implicitDefEqProofs only [↓x14, ↓r14, ↓c21, s_alt, s_alt20, s_alt2t, s_alt2f, ↓s_loopi, ↓v_pq, ↓PRE, POST, CORE, Nat.reduceDiv, Nat.reduceMod, Int.reduceLT, Int.reduceLE, Int.reduceToNat, Int.reduceAdd, ↓reduceIte, Nat.reduceEqDiff, Nat.reduceAdd, Nat.reduceMul, Nat.reduceSub, Nat.reduceLeDiff, Nat.reduceLT, reduceCtorEq, if_true, eq_self, forall_const, implies_true]
  refine ⟨g, rfl, fun e he => ?_⟩
  unfold mayF at hk
  by_cases h0 : e = 0
  case neg =>
    have hg : chkG g = false := by
      cases h : chkG g with
      | false => rfl
      | true => exact (h0 (he.2 h)).elim
    have hb : (e != 0) = true := by simpa using h0
    rw [hg, Bool.false_and] at hk
    simp (maxSteps := 2000000) -implicitDefEqProofs only [hb, s_alt, s_alt20, s_alt2t, s_alt2f, ↓s_loopi, ↓v_pq, ↓PRE, POST, CORE, Nat.reduceDiv, Nat.reduceMod, Int.reduceLT, Int.reduceLE, Int.reduceToNat, Int.reduceAdd, ↓reduceIte, Nat.reduceEqDiff, Nat.reduceAdd, Nat.reduceMul, Nat.reduceSub, Nat.reduceLeDiff, Nat.reduceLT, reduceCtorEq, if_true, eq_self, forall_const, implies_true]
    exact hk
  subst h0
  have hg := he.1 rfl
  obtain ⟨⟨m1, m2⟩, m3, m4⟩ := in_mul (chk_in.1 hg).1
  have w1 : IntKind.i64.wrap (g.ch * g.di) = g.ch * g.di := Sz.w_64 (by omega) (by omega)
  have w2 : IntKind.i64.wrap (g.ch * g.di * g.bl) = g.ch * g.di * g.bl := Sz.w_64 (by omega) (by omega)
  have hnB : nB g = g.ch * g.di * g.bl := if_pos hg
  rw [hg, Bool.true_and, List.length_map] at hk
  rw [hnB] at hk
  cases hl : ((xs.length : Int) == g.ch * g.di * g.bl) with
  | false =>
    have hl2 : ((xs.length : Int) != g.ch * g.di * g.bl) = true := by simp only [bne, hl, Bool.not_false]
    rw [hl, Bool.false_and] at hk
    simp (maxSteps := 2000000) -implicitDefEqProofs only [bne_self_eq_false, Bool.false_eq_true, w1, w2, hl2, s_alt, s_alt20, s_alt2t, s_alt2f, ↓s_loopi, ↓v_pq, ↓PRE, POST, CORE, Nat.reduceDiv, Nat.reduceMod, Int.reduceLT, Int.reduceLE, Int.reduceToNat, Int.reduceAdd, ↓reduceIte, Nat.reduceEqDiff, Nat.reduceAdd, Nat.reduceMul, Nat.reduceSub, Nat.reduceLeDiff, Nat.reduceLT, reduceCtorEq, if_true, eq_self, forall_const, implies_true]
    exact hk
  | true =>
  have hl2 : ((xs.length : Int) != g.ch * g.di * g.bl) = false := by simp only [bne, hl, Bool.not_true]
  rw [hl, Bool.true_and] at hk
  simp (maxSteps := 2000000) -implicitDefEqProofs only [bne_self_eq_false, Bool.false_eq_true, w1, w2, hl2, s_alt, s_alt20, s_alt2t, s_alt2f, ↓s_loopi, ↓v_pq, ↓PRE, POST, CORE, Nat.reduceDiv, Nat.reduceMod, Int.reduceLT, Int.reduceLE, Int.reduceToNat, Int.reduceAdd, ↓reduceIte, Nat.reduceEqDiff, Nat.reduceAdd, Nat.reduceMul, Nat.reduceSub, Nat.reduceLeDiff, Nat.reduceLT, reduceCtorEq, if_true, eq_self, forall_const, implies_true]
  refine TXi_of (TX_count (@g21 J) xs.length (fun x => [(1, .ptr 0 0), (29, .v (.slice p xs.length c)), (30, .v (.int .i64 (xs.length : Int))), (31, .v (.int .i64 (x : Int)))]) (fun x => [⟨true, [.v (.int .i64 g.ch), .v (.int .i64 g.di), .v (.int .i64 g.bl), .v (.int .i64 g.pa), .v (.slice p xs.length c)]⟩]) (fun x => ∀ i, i < x → ∀ b, (xs.map Bi.b)[i]? = some b → mayBk g i b = true) (fun i hi => by omega) (by refine ⟨[0], by simp [NdL, NdA, oO_cells, oO_own, iL_nil], ?_, ?_, keep0 hJ⟩ <;> simp only [FitM, FitE, ObLe, LeL, Le, List.cons_append, List.nil_append] <;> (try (simp (maxSteps := 2000000) -implicitDefEqProofs only [s_alt, s_alt20, s_alt2t, s_alt2f, ↓s_loopi, ↓v_pq, ↓PRE, POST, CORE, Nat.reduceDiv, Nat.reduceMod, Int.reduceLT, Int.reduceLE, Int.reduceToNat, Int.reduceAdd, ↓reduceIte, Nat.reduceEqDiff, Nat.reduceAdd, Nat.reduceMul, Nat.reduceSub, Nat.reduceLeDiff, Nat.reduceLT, reduceCtorEq, if_true, eq_self, forall_const, implies_true])) <;> (try simp only [Sz.Le, Sz.LeL, List.getElem?_cons_zero, List.getElem?_cons_succ]) <;> (try simp)) ?_ ?_)
  · intro x hx hI
    obtain ⟨a, ha⟩ : ∃ a, xs[x]? = some a := ⟨_, List.getElem?_eq_getElem hx⟩
    have hb0 : (xs.map Bi.b)[x]? = some a.b := by rw [List.getElem?_map, ha]; rfl
    have hpa := hpn a.b (List.mem_map.2 ⟨a, List.mem_of_getElem? ha, rfl⟩)
    have f : inpL (plusA p (x * 3)) 3 = some [.bool a.b.bad, .int .i64 a.b.er, .slice a.a a.b.pages.length a.c] := hitem x a ha
    have hina : inpL a.a (a.b.pages.length * 3) = some (rowV Pg.cs a.b.pages) := hx0 a (List.mem_of_getElem? ha)
    have hitem2 : ∀ (i : Nat) (y : Pg), a.b.pages[i]? = some y → inpL (plusA a.a (i * 3)) 3 = some y.cs := fun i y hy => inp_item Pg.len hina rfl hy
    have hp : p.isSome = true := inpL_isSome hin (by omega)
    have i0 : (0 : Int) ≤ (x : Int) := by omega
    have i1 : (x : Int) < (xs.length : Int) := by omega
    have w3 : IntKind.i64.wrap ((x : Int) + 1) = (x : Int) + 1 := Sz.w_64 (by omega) (by omega)
    have bad : mayBk g x a.b = false → k (.v (.bool false)) m := fun hb => by
      have : mayBs g 0 (xs.map Bi.b) = false := by
        cases h : mayBs g 0 (xs.map Bi.b) with
        | false => rfl
        | true =>
          have := mayBs_iff.1 h x a.b hb0
          rw [Nat.zero_add, hb] at this
          cases this
      rw [this] at hk
      exact hk
    have next : mayBk g x a.b = true → ∀ i, i < x + 1 → ∀ b, (xs.map Bi.b)[i]? = some b → mayBk g i b = true := fun hb i hi b hb' => by
      by_cases h : i = x
      · subst h
        rw [hb0] at hb'
        injection hb' with hb'
        subst hb'
        exact hb
      · exact hI i (by omega) b hb'
    unfold mayBk at bad next
    have inner : ∀ (q : Bool), (q = true ↔ (a.b.bad = true ∧ (x : Int) < 2) ∨ a.b.er < 0 ∨ 2147483648 ≤ a.b.er ∨ g.pa < (a.b.pages.length : Int)) → (q = true → k (.v (.bool false)) m) := fun q hq hqt => by
      refine bad ?_
      rcases hq.1 hqt with ⟨h, h2⟩ | h | h | h
      · have : x < 2 := by omega
        simp [h, this]
      · have e2 : decide (0 ≤ a.b.er) = false := by simpa using h
        rw [e2]; simp
      · have e3 : decide (a.b.er ≤ 2147483647) = false := by simp only [decide_eq_false_iff_not]; omega
        rw [e3]; simp
      · have e4 : decide ((a.b.pages.length : Int) ≤ g.pa) = false := by simp only [decide_eq_false_iff_not]; omega
        rw [e4]; simp
    by_cases hall : (a.b.bad = true ∧ (x : Int) < 2) ∨ a.b.er < 0 ∨ 2147483648 ≤ a.b.er ∨ g.pa < (a.b.pages.length : Int)
    · have hkf := inner true (by simpa using hall) rfl
      cases hbd : a.b.bad with
      | false =>
        have hall' : a.b.er < 0 ∨ 2147483648 ≤ a.b.er ∨ g.pa < (a.b.pages.length : Int) := by
          rcases hall with h | h
          · rw [hbd] at h; exact absurd h.1 (by simp)
          · exact h
        by_cases c2 : a.b.er < 0
        · simp (maxSteps := 2000000) -implicitDefEqProofs only [f, hp, i0, i1, w3, hbd, c2, s_alt, s_alt20, s_alt2t, s_alt2f, ↓s_loopi, ↓v_pq, ↓PRE, POST, CORE, Nat.reduceDiv, Nat.reduceMod, Int.reduceLT, Int.reduceLE, Int.reduceToNat, Int.reduceAdd, ↓reduceIte, Nat.reduceEqDiff, Nat.reduceAdd, Nat.reduceMul, Nat.reduceSub, Nat.reduceLeDiff, Nat.reduceLT, reduceCtorEq, if_true, eq_self, forall_const, implies_true]; exact hkf
        · by_cases c3 : 2147483648 ≤ a.b.er
          · simp (maxSteps := 2000000) -implicitDefEqProofs only [f, hp, i0, i1, w3, hbd, c2, c3, ge_iff_le, s_alt, s_alt20, s_alt2t, s_alt2f, ↓s_loopi, ↓v_pq, ↓PRE, POST, CORE, Nat.reduceDiv, Nat.reduceMod, Int.reduceLT, Int.reduceLE, Int.reduceToNat, Int.reduceAdd, ↓reduceIte, Nat.reduceEqDiff, Nat.reduceAdd, Nat.reduceMul, Nat.reduceSub, Nat.reduceLeDiff, Nat.reduceLT, reduceCtorEq, if_true, eq_self, forall_const, implies_true]; exact hkf
          · have c4 : g.pa < (a.b.pages.length : Int) := by omega
            simp (maxSteps := 2000000) -implicitDefEqProofs only [f, hp, i0, i1, w3, hbd, c2, c3, c4, ge_iff_le, gt_iff_lt, s_alt, s_alt20, s_alt2t, s_alt2f, ↓s_loopi, ↓v_pq, ↓PRE, POST, CORE, Nat.reduceDiv, Nat.reduceMod, Int.reduceLT, Int.reduceLE, Int.reduceToNat, Int.reduceAdd, ↓reduceIte, Nat.reduceEqDiff, Nat.reduceAdd, Nat.reduceMul, Nat.reduceSub, Nat.reduceLeDiff, Nat.reduceLT, reduceCtorEq, if_true, eq_self, forall_const, implies_true]; exact hkf
      | true =>
        by_cases c1 : (x : Int) < 2
        · simp (maxSteps := 2000000) -implicitDefEqProofs only [f, hp, i0, i1, w3, hbd, c1, s_alt, s_alt20, s_alt2t, s_alt2f, ↓s_loopi, ↓v_pq, ↓PRE, POST, CORE, Nat.reduceDiv, Nat.reduceMod, Int.reduceLT, Int.reduceLE, Int.reduceToNat, Int.reduceAdd, ↓reduceIte, Nat.reduceEqDiff, Nat.reduceAdd, Nat.reduceMul, Nat.reduceSub, Nat.reduceLeDiff, Nat.reduceLT, reduceCtorEq, if_true, eq_self, forall_const, implies_true]; exact hkf
        · have hall' : a.b.er < 0 ∨ 2147483648 ≤ a.b.er ∨ g.pa < (a.b.pages.length : Int) := by
            rcases hall with h | h
            · exact absurd h.2 c1
            · exact h
          by_cases c2 : a.b.er < 0
          · simp (maxSteps := 2000000) -implicitDefEqProofs only [f, hp, i0, i1, w3, hbd, c1, c2, s_alt, s_alt20, s_alt2t, s_alt2f, ↓s_loopi, ↓v_pq, ↓PRE, POST, CORE, Nat.reduceDiv, Nat.reduceMod, Int.reduceLT, Int.reduceLE, Int.reduceToNat, Int.reduceAdd, ↓reduceIte, Nat.reduceEqDiff, Nat.reduceAdd, Nat.reduceMul, Nat.reduceSub, Nat.reduceLeDiff, Nat.reduceLT, reduceCtorEq, if_true, eq_self, forall_const, implies_true]; exact hkf
          · by_cases c3 : 2147483648 ≤ a.b.er
            · simp (maxSteps := 2000000) -implicitDefEqProofs only [f, hp, i0, i1, w3, hbd, c1, c2, c3, ge_iff_le, s_alt, s_alt20, s_alt2t, s_alt2f, ↓s_loopi, ↓v_pq, ↓PRE, POST, CORE, Nat.reduceDiv, Nat.reduceMod, Int.reduceLT, Int.reduceLE, Int.reduceToNat, Int.reduceAdd, ↓reduceIte, Nat.reduceEqDiff, Nat.reduceAdd, Nat.reduceMul, Nat.reduceSub, Nat.reduceLeDiff, Nat.reduceLT, reduceCtorEq, if_true, eq_self, forall_const, implies_true]; exact hkf
            · have c4 : g.pa < (a.b.pages.length : Int) := by omega
              simp (maxSteps := 2000000) -implicitDefEqProofs only [f, hp, i0, i1, w3, hbd, c1, c2, c3, c4, ge_iff_le, gt_iff_lt, s_alt, s_alt20, s_alt2t, s_alt2f, ↓s_loopi, ↓v_pq, ↓PRE, POST, CORE, Nat.reduceDiv, Nat.reduceMod, Int.reduceLT, Int.reduceLE, Int.reduceToNat, Int.reduceAdd, ↓reduceIte, Nat.reduceEqDiff, Nat.reduceAdd, Nat.reduceMul, Nat.reduceSub, Nat.reduceLeDiff, Nat.reduceLT, reduceCtorEq, if_true, eq_self, forall_const, implies_true]; exact hkf
    · have c2 : ¬ a.b.er < 0 := fun h => hall (.inr (.inl h))
      have c3 : ¬ 2147483648 ≤ a.b.er := fun h => hall (.inr (.inr (.inl h)))
      have c4 : ¬ g.pa < (a.b.pages.length : Int) := fun h => hall (.inr (.inr (.inr h)))
      have c1 : a.b.bad = true → ¬ (x : Int) < 2 := fun h h2 => hall (.inl ⟨h, h2⟩)
      have e1 : (!(a.b.bad && decide (x < 2))) = true := by
        cases hbd : a.b.bad with
        | false => rfl
        | true =>
          have : ¬ x < 2 := fun h => c1 hbd (by omega)
          simp [this]
      have e2 : decide (0 ≤ a.b.er) = true := by simp only [decide_eq_true_eq]; omega
      have e3 : decide (a.b.er ≤ 2147483647) = true := by simp only [decide_eq_true_eq]; omega
      have e4 : decide ((a.b.pages.length : Int) ≤ g.pa) = true := by simp only [decide_eq_true_eq]; omega
      rw [e1, e2, e3, e4, Bool.true_and, Bool.true_and, Bool.true_and, Bool.true_and] at bad next
      have loop : ∀ (e : Env) (m' : Mem), True := fun _ _ => trivial
      cases hbd : a.b.bad
      all_goals
        first
        | (have c1' := c1 hbd; simp (maxSteps := 2000000) -implicitDefEqProofs only [f, hp, i0, i1, w3, hbd, c1', c2, c3, c4, ge_iff_le, gt_iff_lt, s_alt, s_alt20, s_alt2t, s_alt2f, ↓s_loopi, ↓v_pq, ↓PRE, POST, CORE, Nat.reduceDiv, Nat.reduceMod, Int.reduceLT, Int.reduceLE, Int.reduceToNat, Int.reduceAdd, ↓reduceIte, Nat.reduceEqDiff, Nat.reduceAdd, Nat.reduceMul, Nat.reduceSub, Nat.reduceLeDiff, Nat.reduceLT, reduceCtorEq, if_true, eq_self, forall_const, implies_true])
        | simp (maxSteps := 2000000) -implicitDefEqProofs only [f, hp, i0, i1, w3, hbd, c2, c3, c4, ge_iff_le, gt_iff_lt, s_alt, s_alt20, s_alt2t, s_alt2f, ↓s_loopi, ↓v_pq, ↓PRE, POST, CORE, Nat.reduceDiv, Nat.reduceMod, Int.reduceLT, Int.reduceLE, Int.reduceToNat, Int.reduceAdd, ↓reduceIte, Nat.reduceEqDiff, Nat.reduceAdd, Nat.reduceMul, Nat.reduceSub, Nat.reduceLeDiff, Nat.reduceLT, reduceCtorEq, if_true, eq_self, forall_const, implies_true]
        refine TXi_of (TX_count (@g21 J) a.b.pages.length (fun y => [(1, .ptr 0 0), (29, .v (.slice p xs.length c)), (30, .v (.int .i64 (xs.length : Int))), (31, .v (.int .i64 (x : Int))), (62, .v (.slice a.a a.b.pages.length a.c)), (63, .v (.int .i64 (a.b.pages.length : Int))), (64, .v (.int .i64 (y : Int)))]) (fun y => [⟨true, [.v (.int .i64 g.ch), .v (.int .i64 g.di), .v (.int .i64 g.bl), .v (.int .i64 g.pa), .v (.slice p xs.length c)]⟩]) (fun y => (a.b.pages.take y).all mayPg = true) rfl (by refine ⟨[0], by simp [NdL, NdA, oO_cells, oO_own, iL_nil], ?_, ?_, keep0 hJ⟩ <;> simp only [FitM, FitE, ObLe, LeL, Le, List.cons_append, List.nil_append] <;> (try (simp (maxSteps := 2000000) -implicitDefEqProofs only [s_alt, s_alt20, s_alt2t, s_alt2f, ↓s_loopi, ↓v_pq, ↓PRE, POST, CORE, Nat.reduceDiv, Nat.reduceMod, Int.reduceLT, Int.reduceLE, Int.reduceToNat, Int.reduceAdd, ↓reduceIte, Nat.reduceEqDiff, Nat.reduceAdd, Nat.reduceMul, Nat.reduceSub, Nat.reduceLeDiff, Nat.reduceLT, reduceCtorEq, if_true, eq_self, forall_const, implies_true])) <;> (try simp only [Sz.Le, Sz.LeL, List.getElem?_cons_zero, List.getElem?_cons_succ]) <;> (try simp)) ?_ ?_)
        · intro y hy hI2
          obtain ⟨q, hq⟩ : ∃ q, a.b.pages[y]? = some q := ⟨_, List.getElem?_eq_getElem hy⟩
          have f2 : inpL (plusA a.a (y * 3)) 3 = some [.bool q.torn, .string q.beside, .string q.data] := hitem2 y q hq
          have hp2 : a.a.isSome = true := inpL_isSome hina (by omega)
          have j0 : (0 : Int) ≤ (y : Int) := by omega
          have j1 : (y : Int) < (a.b.pages.length : Int) := by omega
          have w4 : IntKind.i64.wrap ((y : Int) + 1) = (y : Int) + 1 := Sz.w_64 (by omega) (by omega)
          have pbad : mayPg q = false → k (.v (.bool false)) m := fun h => bad (all_bad hq h)
          have pnext : mayPg q = true → (a.b.pages.take (y + 1)).all mayPg = true := fun h => by rw [all_snoc _ hq, hI2, h]; rfl
          unfold mayPg at pbad pnext
          cases ht : q.torn with
          | true =>
            rw [if_pos ht] at pbad pnext
            cases hb1 : (q.beside.size == 0) with
            | false =>
              rw [hb1, Bool.false_and] at pbad
              simp (maxSteps := 2000000) -implicitDefEqProofs only [f2, hp2, j0, j1, w4, ht, toList_nil, hb1, Bool.not_false, s_alt, s_alt20, s_alt2t, s_alt2f, ↓s_loopi, ↓v_pq, ↓PRE, POST, CORE, Nat.reduceDiv, Nat.reduceMod, Int.reduceLT, Int.reduceLE, Int.reduceToNat, Int.reduceAdd, ↓reduceIte, Nat.reduceEqDiff, Nat.reduceAdd, Nat.reduceMul, Nat.reduceSub, Nat.reduceLeDiff, Nat.reduceLT, reduceCtorEq, if_true, eq_self, forall_const, implies_true]
              exact pbad rfl
            | true =>
              rw [hb1, Bool.true_and] at pbad pnext
              cases hb2 : (q.data.size == 0) with
              | false =>
                simp (maxSteps := 2000000) -implicitDefEqProofs only [f2, hp2, j0, j1, w4, ht, toList_nil, hb1, hb2, Bool.not_false, Bool.not_true, s_alt, s_alt20, s_alt2t, s_alt2f, ↓s_loopi, ↓v_pq, ↓PRE, POST, CORE, Nat.reduceDiv, Nat.reduceMod, Int.reduceLT, Int.reduceLE, Int.reduceToNat, Int.reduceAdd, ↓reduceIte, Nat.reduceEqDiff, Nat.reduceAdd, Nat.reduceMul, Nat.reduceSub, Nat.reduceLeDiff, Nat.reduceLT, reduceCtorEq, if_true, eq_self, forall_const, implies_true]
                exact pbad hb2
              | true =>
                have s1 : q.beside.size = 0 := by simpa using hb1
                have s2 : q.data.size = 0 := by simpa using hb2
                have s1' : ¬ (32 : Int) < (q.beside.size : Int) := by omega
                have s2' : ¬ (160 : Int) < (q.data.size : Int) := by omega
                simp (maxSteps := 2000000) -implicitDefEqProofs only [f2, hp2, j0, j1, w4, ht, toList_nil, hb1, hb2, Bool.not_false, Bool.not_true, s1', s2', gt_iff_lt, Bool.false_eq_true, s_alt, s_alt20, s_alt2t, s_alt2f, ↓s_loopi, ↓v_pq, ↓PRE, POST, CORE, Nat.reduceDiv, Nat.reduceMod, Int.reduceLT, Int.reduceLE, Int.reduceToNat, Int.reduceAdd, ↓reduceIte, Nat.reduceEqDiff, Nat.reduceAdd, Nat.reduceMul, Nat.reduceSub, Nat.reduceLeDiff, Nat.reduceLT, reduceCtorEq, if_true, eq_self, forall_const, implies_true]
                exact ⟨pnext hb2, (by refine ⟨[0], by simp [NdL, NdA, oO_cells, oO_own, iL_nil], ?_, ?_, keep0 hJ⟩ <;> simp only [FitM, FitE, ObLe, LeL, Le, List.cons_append, List.nil_append] <;> (try (simp (maxSteps := 2000000) -implicitDefEqProofs only [s_alt, s_alt20, s_alt2t, s_alt2f, ↓s_loopi, ↓v_pq, ↓PRE, POST, CORE, Nat.reduceDiv, Nat.reduceMod, Int.reduceLT, Int.reduceLE, Int.reduceToNat, Int.reduceAdd, ↓reduceIte, Nat.reduceEqDiff, Nat.reduceAdd, Nat.reduceMul, Nat.reduceSub, Nat.reduceLeDiff, Nat.reduceLT, reduceCtorEq, if_true, eq_self, forall_const, implies_true])) <;> (try simp only [Sz.Le, Sz.LeL, List.getElem?_cons_zero, List.getElem?_cons_succ]) <;> (try simp))⟩
          | false =>
            rw [if_neg (by rw [ht]; simp)] at pbad pnext
            by_cases s1 : (32 : Int) < (q.beside.size : Int)
            · simp (maxSteps := 2000000) -implicitDefEqProofs only [f2, hp2, j0, j1, w4, ht, s1, gt_iff_lt, Bool.false_eq_true, s_alt, s_alt20, s_alt2t, s_alt2f, ↓s_loopi, ↓v_pq, ↓PRE, POST, CORE, Nat.reduceDiv, Nat.reduceMod, Int.reduceLT, Int.reduceLE, Int.reduceToNat, Int.reduceAdd, ↓reduceIte, Nat.reduceEqDiff, Nat.reduceAdd, Nat.reduceMul, Nat.reduceSub, Nat.reduceLeDiff, Nat.reduceLT, reduceCtorEq, if_true, eq_self, forall_const, implies_true]
              exact pbad (by simp; omega)
            · by_cases s2 : (160 : Int) < (q.data.size : Int)
              · simp (maxSteps := 2000000) -implicitDefEqProofs only [f2, hp2, j0, j1, w4, ht, s1, s2, gt_iff_lt, Bool.false_eq_true, s_alt, s_alt20, s_alt2t, s_alt2f, ↓s_loopi, ↓v_pq, ↓PRE, POST, CORE, Nat.reduceDiv, Nat.reduceMod, Int.reduceLT, Int.reduceLE, Int.reduceToNat, Int.reduceAdd, ↓reduceIte, Nat.reduceEqDiff, Nat.reduceAdd, Nat.reduceMul, Nat.reduceSub, Nat.reduceLeDiff, Nat.reduceLT, reduceCtorEq, if_true, eq_self, forall_const, implies_true]
                exact pbad (by simp; omega)
              · simp (maxSteps := 2000000) -implicitDefEqProofs only [f2, hp2, j0, j1, w4, ht, s1, s2, gt_iff_lt, Bool.false_eq_true, s_alt, s_alt20, s_alt2t, s_alt2f, ↓s_loopi, ↓v_pq, ↓PRE, POST, CORE, Nat.reduceDiv, Nat.reduceMod, Int.reduceLT, Int.reduceLE, Int.reduceToNat, Int.reduceAdd, ↓reduceIte, Nat.reduceEqDiff, Nat.reduceAdd, Nat.reduceMul, Nat.reduceSub, Nat.reduceLeDiff, Nat.reduceLT, reduceCtorEq, if_true, eq_self, forall_const, implies_true]
                exact ⟨pnext (by simp; omega), (by refine ⟨[0], by simp [NdL, NdA, oO_cells, oO_own, iL_nil], ?_, ?_, keep0 hJ⟩ <;> simp only [FitM, FitE, ObLe, LeL, Le, List.cons_append, List.nil_append] <;> (try (simp (maxSteps := 2000000) -implicitDefEqProofs only [s_alt, s_alt20, s_alt2t, s_alt2f, ↓s_loopi, ↓v_pq, ↓PRE, POST, CORE, Nat.reduceDiv, Nat.reduceMod, Int.reduceLT, Int.reduceLE, Int.reduceToNat, Int.reduceAdd, ↓reduceIte, Nat.reduceEqDiff, Nat.reduceAdd, Nat.reduceMul, Nat.reduceSub, Nat.reduceLeDiff, Nat.reduceLT, reduceCtorEq, if_true, eq_self, forall_const, implies_true])) <;> (try simp only [Sz.Le, Sz.LeL, List.getElem?_cons_zero, List.getElem?_cons_succ]) <;> (try simp))⟩
        · intro hI2
          have j1 : ¬ (a.b.pages.length : Int) < (a.b.pages.length : Int) := by omega
          rw [List.take_length] at hI2
          simp (maxSteps := 2000000) -implicitDefEqProofs only [j1, w3, s_alt, s_alt20, s_alt2t, s_alt2f, ↓s_loopi, ↓v_pq, ↓PRE, POST, CORE, Nat.reduceDiv, Nat.reduceMod, Int.reduceLT, Int.reduceLE, Int.reduceToNat, Int.reduceAdd, ↓reduceIte, Nat.reduceEqDiff, Nat.reduceAdd, Nat.reduceMul, Nat.reduceSub, Nat.reduceLeDiff, Nat.reduceLT, reduceCtorEq, if_true, eq_self, forall_const, implies_true]
          exact ⟨next hI2, (by refine ⟨[0], by simp [NdL, NdA, oO_cells, oO_own, iL_nil], ?_, ?_, keep0 hJ⟩ <;> simp only [FitM, FitE, ObLe, LeL, Le, List.cons_append, List.nil_append] <;> (try (simp (maxSteps := 2000000) -implicitDefEqProofs only [s_alt, s_alt20, s_alt2t, s_alt2f, ↓s_loopi, ↓v_pq, ↓PRE, POST, CORE, Nat.reduceDiv, Nat.reduceMod, Int.reduceLT, Int.reduceLE, Int.reduceToNat, Int.reduceAdd, ↓reduceIte, Nat.reduceEqDiff, Nat.reduceAdd, Nat.reduceMul, Nat.reduceSub, Nat.reduceLeDiff, Nat.reduceLT, reduceCtorEq, if_true, eq_self, forall_const, implies_true])) <;> (try simp only [Sz.Le, Sz.LeL, List.getElem?_cons_zero, List.getElem?_cons_succ]) <;> (try simp))⟩
  · intro hI
    have i1 : ¬ (xs.length : Int) < (xs.length : Int) := by omega
    have : mayBs g 0 (xs.map Bi.b) = true := mayBs_iff.2 fun i b hb => by
      rw [Nat.zero_add]
      exact hI i (by have := (List.getElem?_eq_some_iff.1 hb).1; rwa [List.length_map] at this) b hb
    rw [this] at hk
    simp (maxSteps := 2000000) -implicitDefEqProofs only [i1, s_alt, s_alt20, s_alt2t, s_alt2f, ↓s_loopi, ↓v_pq, ↓PRE, POST, CORE, Nat.reduceDiv, Nat.reduceMod, Int.reduceLT, Int.reduceLE, Int.reduceToNat, Int.reduceAdd, ↓reduceIte, Nat.reduceEqDiff, Nat.reduceAdd, Nat.reduceMul, Nat.reduceSub, Nat.reduceLeDiff, Nat.reduceLT, reduceCtorEq, if_true, eq_self, forall_const, implies_true]
    exact hk
def c59 [Inp] : Trans := fun args m k => ∃ f : Bool, args = [.v (.bool f)] ∧ k (.v (.int .i64 (if f = true then 1 else 0))) m
theorem c59_ok [I : Inp] : Contract Try.prog 59 true c59 := by
  refine .read fn59 (G := fun _ => []) (fun J => @g0 J _) _ fun args m k h => ?_
  obtain ⟨f, rfl, hk⟩ := h
  refine ⟨by simp, fun J hJ us hus => ?_⟩
  obtain ⟨u, t1, rfl, hk1, rfl⟩ := hus
  obtain rfl := hk1.1 _ rfl
  cases f <;> simp (maxSteps := 2000000) -implicitDefEqProofs only [↓x59, ↓r59, Bool.false_eq_true, s_alt, s_alt20, s_alt2t, s_alt2f, ↓s_loopi, ↓v_pq, ↓PRE, POST, CORE, Nat.reduceDiv, Nat.reduceMod, Int.reduceLT, Int.reduceLE, Int.reduceToNat, Int.reduceAdd, ↓reduceIte, Nat.reduceEqDiff, Nat.reduceAdd, Nat.reduceMul, Nat.reduceSub, Nat.reduceLeDiff, Nat.reduceLT, reduceCtorEq, if_true, eq_self, forall_const, implies_true] <;> exact hk
end Go.Proofs.Ytibefgdjijmncaa
end
section
namespace Go.Proofs.Ytibefgdjijmncaa
open Go.RowKit Sz
set_option maxHeartbeats 4000000
set_option maxRecDepth 20000
-- almshouse/almshouselaw43.told (1 parameters)
def x16 : XC := (.seq (.tree (.seq ⟨some 1, none, (.box (.tmp 0))⟩
  (.seq ⟨some 2, none, (.ofA (.mv (.cst (.v (.slice none 0 0)))))⟩
  .done)))
 (.seq (.tree (.seq ⟨some 15, none, (.ofA (.faddr 0 (.tmp 1)))⟩
  (.seq ⟨some 16, none, (.ofA (.load (some 4) (.tmp 15)))⟩
  (.seq ⟨some 3, none, (.alloc [(.v (.int .i64 0)), (.v (.int .i64 0)), (.v (.int .i64 0)), (.v (.int .i64 0))])⟩
  (.seq ⟨none, none, (.store 4 (.tmp 3) (.tmp 16))⟩
  .done)))))
 (.seq (.tree (.seq ⟨some 18, none, (.ofA (.faddr 0 (.tmp 3)))⟩
  (.seq ⟨some 19, none, (.ofA (.load none (.tmp 18)))⟩
  (.seq ⟨some 20, none, (.ofA (.conv .u8 (.tmp 19)))⟩
  (.seq ⟨some 21, none, (.ofA (.faddr 1 (.tmp 3)))⟩
  (.seq ⟨some 22, none, (.ofA (.load none (.tmp 21)))⟩
  (.seq ⟨some 23, none, (.ofA (.conv .u8 (.tmp 22)))⟩
  (.seq ⟨some 24, none, (.ofA (.faddr 2 (.tmp 3)))⟩
  (.seq ⟨some 25, none, (.ofA (.load none (.tmp 24)))⟩
  (.seq ⟨some 26, none, (.ofA (.conv .u8 (.tmp 25)))⟩
  (.seq ⟨some 27, none, (.ofA (.faddr 3 (.tmp 3)))⟩
  (.seq ⟨some 28, none, (.ofA (.load none (.tmp 27)))⟩
  (.seq ⟨some 29, none, (.ofA (.conv .u8 (.tmp 28)))⟩
  (.seq ⟨some 30, none, (.buildSl 1 4 [(.v (.int .u8 0)), (.v (.int .u8 0)), (.v (.int .u8 0)), (.v (.int .u8 0))] [(0, 1, (.tmp 20)), (1, 1, (.tmp 23)), (2, 1, (.tmp 26)), (3, 1, (.tmp 29))])⟩
  (.seq ⟨some 31, none, (.call (.cst (.fn 57 [])) [(.cst (.v (.int .i64 71))), (.tmp 30)])⟩
  (.seq ⟨some 17, none, (.ofA (.mv (.tmp 31)))⟩
  (.seq ⟨some 32, none, (.ofA (.extract 0 (.tmp 17)))⟩
  (.seq ⟨some 33, none, (.ofA (.extract 1 (.tmp 17)))⟩
  (.seq ⟨some 4, none, (.ofA (.mv (.tmp 32)))⟩
  (.seq ⟨some 5, none, (.ofA (.mv (.tmp 33)))⟩
  .done))))))))))))))))))))
 (.seq (.seq (.tree (.seq ⟨some 34, none, (.ofA (.faddr 4 (.tmp 1)))⟩
  (.seq ⟨some 35, none, (.ofA (.load none (.tmp 34)))⟩
  (.seq ⟨some 36, none, (.ofA (.len (.tmp 35)))⟩
  (.seq ⟨some 37, none, (.ofA (.mv (.cst (.v (.int .i64 0)))))⟩
  .done)))))
 (.block 0 (.loop (.seq (.tree (.seq ⟨some 38, none, (.ofA (.bin .lss (.tmp 37) (.tmp 36)))⟩
  .done))
 (.seq (.cond (.tmp 38)
 .skip
 (.exit 0))
 (.seq (.block 1 (.seq (.tree (.seq ⟨some 39, none, (.ofA (.isl 3 (.tmp 35) (.tmp 37)))⟩
  (.seq ⟨some 40, none, (.ofA (.load (some 3) (.tmp 39)))⟩
  (.seq ⟨some 7, none, (.alloc [(.v (.bool false)), (.v (.int .i64 0)), (.v (.slice none 0 0))])⟩
  (.seq ⟨none, none, (.store 3 (.tmp 7) (.tmp 40))⟩
  .done)))))
 (.seq (.tree (.take ⟨some 42, none, (.ofA (.faddr 0 (.tmp 7)))⟩
  (.take ⟨some 43, none, (.ofA (.load none (.tmp 42)))⟩
  (.take ⟨some 46, none, (.ofA (.faddr 2 (.tmp 7)))⟩
  (.take ⟨some 47, none, (.ofA (.load none (.tmp 46)))⟩
  (.take ⟨some 48, none, (.ofA (.len (.tmp 47)))⟩
  (.take ⟨some 49, none, (.ofA (.conv .u8 (.tmp 48)))⟩
  (.take ⟨some 51, none, (.ofA (.faddr 1 (.tmp 7)))⟩
  (.take ⟨some 52, none, (.ofA (.load none (.tmp 51)))⟩
  (.act true [(⟨some 44, none, (.call (.cst (.fn 59 [])) [(.tmp 43)])⟩,
 (.take ⟨some 45, none, (.ofA (.conv .u8 (.tmp 44)))⟩
  (.act true [(⟨some 50, none, (.buildSl 1 2 [(.v (.int .u8 0)), (.v (.int .u8 0))] [(0, 1, (.tmp 45)), (1, 1, (.tmp 49))])⟩,
 (.act true [(⟨some 53, none, (.call (.cst (.fn 58 [])) [(.tmp 50), (.tmp 52), (.cst (.v (.int .i64 4)))])⟩,
 (.act true [(⟨some 54, none, (.call (.cst (.fn 57 [])) [(.cst (.v (.int .i64 66))), (.tmp 53)])⟩,
 (.take ⟨some 41, none, (.ofA (.mv (.tmp 54)))⟩
  (.take ⟨some 55, none, (.ofA (.extract 0 (.tmp 41)))⟩
  (.take ⟨some 56, none, (.ofA (.extract 1 (.tmp 41)))⟩
  (.take ⟨some 8, none, (.ofA (.mv (.tmp 55)))⟩
  (.take ⟨some 9, none, (.ofA (.mv (.tmp 56)))⟩
  .done))))))]))]))])))]))))))))))
 (.seq (.tree (.seq ⟨some 57, none, (.ofA (.mv (.tmp 4)))⟩
  (.seq ⟨some 58, none, (.ofA (.mv (.tmp 8)))⟩
  (.seq ⟨some 59, none, (.app 1 1 (.tmp 57) (.tmp 58))⟩
  (.seq ⟨some 4, none, (.ofA (.mv (.tmp 59)))⟩
  .done)))))
 (.seq (.tree (.seq ⟨some 60, none, (.ofA (.faddr 2 (.tmp 7)))⟩
  (.seq ⟨some 61, none, (.ofA (.load none (.tmp 60)))⟩
  (.seq ⟨some 62, none, (.ofA (.len (.tmp 61)))⟩
  (.seq ⟨some 63, none, (.ofA (.mv (.cst (.v (.int .i64 0)))))⟩
  .done)))))
 (.block 2 (.loop (.seq (.tree (.seq ⟨some 64, none, (.ofA (.bin .lss (.tmp 63) (.tmp 62)))⟩
  .done))
 (.seq (.cond (.tmp 64)
 .skip
 (.exit 2))
 (.seq (.block 3 (.seq (.tree (.seq ⟨some 65, none, (.ofA (.isl 3 (.tmp 61) (.tmp 63)))⟩
  (.seq ⟨some 66, none, (.ofA (.load (some 3) (.tmp 65)))⟩
  (.seq ⟨some 11, none, (.alloc [(.v (.bool false)), (.v (.string ⟨#[]⟩)), (.v (.string ⟨#[]⟩))])⟩
  (.seq ⟨none, none, (.store 3 (.tmp 11) (.tmp 66))⟩
  .done)))))
 (.seq (.tree (.seq ⟨some 67, none, (.ofA (.faddr 0 (.tmp 11)))⟩
  (.seq ⟨some 68, none, (.ofA (.load none (.tmp 67)))⟩
  (.seq ⟨some 69, none, (.call (.cst (.fn 59 [])) [(.tmp 68)])⟩
  (.seq ⟨some 70, none, (.ofA (.conv .u8 (.tmp 69)))⟩
  (.seq ⟨some 71, none, (.buildSl 1 1 [(.v (.int .u8 0))] [(0, 1, (.tmp 70))])⟩
  (.seq ⟨some 12, none, (.ofA (.mv (.tmp 71)))⟩
  .done)))))))
 (.seq (.seq (.tree (.seq ⟨some 72, none, (.ofA (.faddr 0 (.tmp 11)))⟩
  (.seq ⟨some 73, none, (.ofA (.load none (.tmp 72)))⟩
  (.seq ⟨some 74, none, (.ofA (.un .not (.tmp 73)))⟩
  .done))))
 (.cond (.tmp 74)
 (.tree (.take ⟨some 75, none, (.ofA (.mv (.tmp 12)))⟩
  (.take ⟨some 76, none, (.ofA (.faddr 1 (.tmp 11)))⟩
  (.take ⟨some 77, none, (.ofA (.load none (.tmp 76)))⟩
  (.take ⟨some 79, none, (.ofA (.faddr 2 (.tmp 11)))⟩
  (.take ⟨some 80, none, (.ofA (.load none (.tmp 79)))⟩
  (.act true [(⟨some 78, none, (.call (.cst (.fn 60 [])) [(.tmp 75), (.tmp 77)])⟩,
 (.act true [(⟨some 81, none, (.call (.cst (.fn 60 [])) [(.tmp 78), (.tmp 80)])⟩,
 (.take ⟨some 12, none, (.ofA (.mv (.tmp 81)))⟩
  .done))]))])))))))
 .skip))
 (.seq (.tree (.seq ⟨some 83, none, (.ofA (.mv (.tmp 12)))⟩
  (.seq ⟨some 84, none, (.call (.cst (.fn 57 [])) [(.cst (.v (.int .i64 80))), (.tmp 83)])⟩
  (.seq ⟨some 82, none, (.ofA (.mv (.tmp 84)))⟩
  (.seq ⟨some 85, none, (.ofA (.extract 0 (.tmp 82)))⟩
  (.seq ⟨some 86, none, (.ofA (.extract 1 (.tmp 82)))⟩
  (.seq ⟨some 13, none, (.ofA (.mv (.tmp 85)))⟩
  (.seq ⟨some 14, none, (.ofA (.mv (.tmp 86)))⟩
  .done))))))))
 (.tree (.seq ⟨some 87, none, (.ofA (.mv (.tmp 4)))⟩
  (.seq ⟨some 88, none, (.ofA (.mv (.tmp 13)))⟩
  (.seq ⟨some 89, none, (.app 1 1 (.tmp 87) (.tmp 88))⟩
  (.seq ⟨some 4, none, (.ofA (.mv (.tmp 89)))⟩
  .done))))))))))
 (.tree (.seq ⟨some 90, none, (.ofA (.bin .add (.tmp 63) (.cst (.v (.int .i64 1)))))⟩
  (.seq ⟨some 63, none, (.ofA (.mv (.tmp 90)))⟩
  .done)))))))))))))
 (.tree (.seq ⟨some 91, none, (.ofA (.bin .add (.tmp 37) (.cst (.v (.int .i64 1)))))⟩
  (.seq ⟨some 37, none, (.ofA (.mv (.tmp 91)))⟩
  .done)))))))))
 (.seq (.tree (.seq ⟨some 92, none, (.ofA (.mv (.tmp 4)))⟩
  (.seq ⟨some 2, none, (.ofA (.mv (.tmp 92)))⟩
  .done)))
 .ret)))))
def r16 : List XR := [.tmp 2]
theorem fn16 : FnX Try.prog 16 [] 93 x16 r16 := ⟨_, Try.func16, by kernel_rfl, by kernel_rfl, by kernel_rfl, by kernel_rfl⟩
theorem byt_sum {b : List Int} (h : Byt b) : IntKind.i64.wrap (noI (rsF 4294967295 b)) = smF b := by
  rw [sum_ok (fun c hc => by have := h c hc; omega)]
  rfl
theorem hdF_byt {k : Int} {body : List Int} (h : Byt body) : Byt (hdF k body) := (leN_byt _ _).app ((leN_byt _ _).app h)
theorem smF_i (b : List Int) : smF b ≤ 9223372036854775807 := by have := smF_in b; omega
theorem fin_fr {k : SV → Mem → Prop} {m : Mem} (L : List Int) (m' : Mem) (j : Nat) (hm : m'[j]? = some ⟨true, bL L⟩) (h3 : k (.tup [.row m.length 0 L.length 1, .v (.int .i64 0)]) (m ++ [⟨true, bL L⟩])) :
    ∃ (g2 : List Nat) (s2 : SV) (m2 : Mem), g2.Nodup ∧ FitM g2 m' g2 m2 ∧ (∀ o ∈ m2, o.own = true) ∧ Le g2 s2 (.tup [.row j 0 L.length 1, .v (.int .i64 0)]) ∧ k (s2.up m.length) (m ++ m2.map (SObj.up m.length)) :=
  ⟨[j], .tup [.row 0 0 L.length 1, .v (.int .i64 0)], [⟨true, bL L⟩], by simp, by simp [FitM, ObLe, bL_le, hm], by simp, by simp [Le, LeL], by simpa [SV.up, upL, SObj.up, bL_up] using h3⟩
def c57 [Inp] : Trans := fun args m k => ∃ kind b body, args = [.v (.int .i64 kind), b] ∧ rdB m b = some body ∧ Byt body ∧ (0 ≤ kind ∧ kind ≤ 255) ∧ body.length ≤ 65535 ∧ k (.tup [.row m.length 0 (frF smF kind body).length 1, .v (.int .i64 0)]) (m ++ [⟨true, bL (frF smF kind body)⟩])
def G57 [Inp] : List CEntry := [⟨58, true, c58⟩, ⟨102, true, c102⟩]
theorem g57 [Inp] : GOk Try.prog G57 := GOk.cons c58_ok (GOk.cons c102_ok (g0 _))
theorem c57_ok [I : Inp] : Contract Try.prog 57 true c57 := by
  refine .readF fn57 (G := fun J => @G57 J) (fun J => @g57 J) _ fun args m k h => ?_
  obtain ⟨kind, b, body, rfl, hb, hby, ⟨k0, k1⟩, hl, hk⟩ := h
  refine ⟨by simp, fun J hJ us hus => ?_⟩
  obtain ⟨u, t1, rfl, hk1, u2, t2, rfl, hk2, rfl⟩ := hus
  obtain rfl := hk1.1 _ rfl
  obtain ⟨p, c, rfl, hin⟩ := rdB_knows hb hk2
  have c0 : ¬ kind < 0 := by omega
  have c1 : ¬ (255 : Int) < kind := by omega
  have c2 : ¬ (65535 : Int) < (body.length : Int) := by omega
  try simp (maxSteps := 2000000) -implicitDefEqProofs only [↓x57, ↓r57, ↓G57, ↓c58, c0, c1, c2, gt_iff_lt, s_alt, s_alt20, s_alt2t, s_alt2f, ↓s_loopi, ↓v_pq, ↓PRE, POST, CORE, Nat.reduceDiv, Nat.reduceMod, Int.reduceLT, Int.reduceLE, Int.reduceToNat, Int.reduceAdd, ↓reduceIte, Nat.reduceEqDiff, Nat.reduceAdd, Nat.reduceMul, Nat.reduceSub, Nat.reduceLeDiff, Nat.reduceLT, reduceCtorEq, if_true, eq_self, forall_const, implies_true]
  refine ⟨[], rfl, by simp, by omega, ?_⟩
  have q1 : (putF [] kind 1).length = 1 := by rw [put1 k0 k1]; simp [leN_len]
  have e2 : putF (putF [] kind 1) (body.length : Int) 2 = leN 1 kind ++ leN 2 body.length := by
    have := putF_leN (bs := putF [] kind 1) (n := 2) (fits2 (v := (body.length : Int)) (by omega) (by omega))
    rw [show (2 : Int) = ((2 : Nat) : Int) from rfl, this, put1 k0 k1, List.nil_append]
  have q2 : (putF (putF [] kind 1) (body.length : Int) 2).length = 3 := by rw [e2]; simp [leN_len]
  have hh : putF (putF [] kind 1) (body.length : Int) 2 ++ body = hdF kind body := by rw [e2]; unfold hdF; simp
  generalize putF [] kind 1 = A1 at q1 q2 hh ⊢
  try simp (maxSteps := 2000000) -implicitDefEqProofs only [↓G57, ↓c58, s_alt, s_alt20, s_alt2t, s_alt2f, ↓s_loopi, ↓v_pq, ↓PRE, POST, CORE, Nat.reduceDiv, Nat.reduceMod, Int.reduceLT, Int.reduceLE, Int.reduceToNat, Int.reduceAdd, ↓reduceIte, Nat.reduceEqDiff, Nat.reduceAdd, Nat.reduceMul, Nat.reduceSub, Nat.reduceLeDiff, Nat.reduceLT, reduceCtorEq, if_true, eq_self, forall_const, implies_true]
  refine ⟨A1, rdB_row rfl rfl, by omega, by omega, ?_⟩
  generalize putF A1 (body.length : Int) 2 = A2 at q2 hh ⊢
  have hH := hdF_byt (k := kind) hby
  have hHl : (hdF kind body).length = body.length + 3 := by rw [← hh, List.length_append]; omega
  have bl := bL_len A2
  have b0 := bL_len body
  have bo := bL_one body
  have tA : List.take A2.length (bL A2) = bL A2 := List.take_of_length_le (by rw [bl]; exact Nat.le_refl _)
  have tB : List.take body.length (bL body) = bL body := List.take_of_length_le (by rw [b0]; exact Nat.le_refl _)
  have e3 : bL A2 ++ bL body = bL (hdF kind body) := by rw [← hh]; simp [bL]
  have e4 : A2.length + body.length = (hdF kind body).length := by rw [← hh, List.length_append]
  have hfr : frF smF kind body = putF (hdF kind body) (smF (hdF kind body)) 4 := by
    have hs := smF_in (hdF kind body)
    exact (putF_leN (bs := hdF kind body) (n := 4) (fits4 hs.1 hs.2)).symm
  rw [hfr] at hk
  have hsum := byt_sum hH
  by_cases hne : body.length = 0
  · have hbe := List.length_eq_zero_iff.1 hne
    subst hbe
    rw [List.append_nil] at hh
    try simp (maxSteps := 2000000) -implicitDefEqProofs only [hin, bl, tA, List.length_nil, bL_fold, s_alt, s_alt20, s_alt2t, s_alt2f, ↓s_loopi, ↓v_pq, ↓PRE, POST, CORE, Nat.reduceDiv, Nat.reduceMod, Int.reduceLT, Int.reduceLE, Int.reduceToNat, Int.reduceAdd, ↓reduceIte, Nat.reduceEqDiff, Nat.reduceAdd, Nat.reduceMul, Nat.reduceSub, Nat.reduceLeDiff, Nat.reduceLT, reduceCtorEq, if_true, eq_self, forall_const, implies_true]
    rw [hh]
    try simp (maxSteps := 2000000) -implicitDefEqProofs only [↓G57, ↓c102, s_alt, s_alt20, s_alt2t, s_alt2f, ↓s_loopi, ↓v_pq, ↓PRE, POST, CORE, Nat.reduceDiv, Nat.reduceMod, Int.reduceLT, Int.reduceLE, Int.reduceToNat, Int.reduceAdd, ↓reduceIte, Nat.reduceEqDiff, Nat.reduceAdd, Nat.reduceMul, Nat.reduceSub, Nat.reduceLeDiff, Nat.reduceLT, reduceCtorEq, if_true, eq_self, forall_const, implies_true]
    refine ⟨trivial, hdF kind [], rdB_row rfl rfl, by omega, ?_⟩
    try simp (maxSteps := 2000000) -implicitDefEqProofs only [hsum, ↓G57, ↓c58, s_alt, s_alt20, s_alt2t, s_alt2f, ↓s_loopi, ↓v_pq, ↓PRE, POST, CORE, Nat.reduceDiv, Nat.reduceMod, Int.reduceLT, Int.reduceLE, Int.reduceToNat, Int.reduceAdd, ↓reduceIte, Nat.reduceEqDiff, Nat.reduceAdd, Nat.reduceMul, Nat.reduceSub, Nat.reduceLeDiff, Nat.reduceLT, reduceCtorEq, if_true, eq_self, forall_const, implies_true]
    refine ⟨hdF kind [], rdB_row rfl rfl, by omega, smF_i _, ?_⟩
    generalize putF (hdF kind []) (smF (hdF kind [])) 4 = T at hk ⊢
    exact fin_fr T _ 2 rfl hk
  · have hpos : 0 < body.length := by omega
    try simp (maxSteps := 2000000) -implicitDefEqProofs only [hin, bl, b0, bo, tA, tB, hne, hpos, bL_fold, e3, e4, s_alt, s_alt20, s_alt2t, s_alt2f, ↓s_loopi, ↓v_pq, ↓PRE, POST, CORE, Nat.reduceDiv, Nat.reduceMod, Int.reduceLT, Int.reduceLE, Int.reduceToNat, Int.reduceAdd, ↓reduceIte, Nat.reduceEqDiff, Nat.reduceAdd, Nat.reduceMul, Nat.reduceSub, Nat.reduceLeDiff, Nat.reduceLT, reduceCtorEq, if_true, eq_self, forall_const, implies_true]
    refine ⟨⟨by unfold maxLen; omega, by omega⟩, ?_⟩
    try simp (maxSteps := 2000000) -implicitDefEqProofs only [↓G57, ↓c102, s_alt, s_alt20, s_alt2t, s_alt2f, ↓s_loopi, ↓v_pq, ↓PRE, POST, CORE, Nat.reduceDiv, Nat.reduceMod, Int.reduceLT, Int.reduceLE, Int.reduceToNat, Int.reduceAdd, ↓reduceIte, Nat.reduceEqDiff, Nat.reduceAdd, Nat.reduceMul, Nat.reduceSub, Nat.reduceLeDiff, Nat.reduceLT, reduceCtorEq, if_true, eq_self, forall_const, implies_true]
    refine ⟨hdF kind body, rdB_row rfl rfl, by omega, ?_⟩
    try simp (maxSteps := 2000000) -implicitDefEqProofs only [hsum, ↓G57, ↓c58, s_alt, s_alt20, s_alt2t, s_alt2f, ↓s_loopi, ↓v_pq, ↓PRE, POST, CORE, Nat.reduceDiv, Nat.reduceMod, Int.reduceLT, Int.reduceLE, Int.reduceToNat, Int.reduceAdd, ↓reduceIte, Nat.reduceEqDiff, Nat.reduceAdd, Nat.reduceMul, Nat.reduceSub, Nat.reduceLeDiff, Nat.reduceLT, reduceCtorEq, if_true, eq_self, forall_const, implies_true]
    refine ⟨hdF kind body, rdB_row rfl rfl, by omega, smF_i _, ?_⟩
    generalize putF (hdF kind body) (smF (hdF kind body)) 4 = T at hk ⊢
    exact fin_fr T _ 3 rfl hk
theorem pgB_byt (x : Pg) : Byt (pgB x) := by
  unfold pgB
  split
  · intro y hy; simp at hy; omega
  · intro y hy
    rcases List.mem_cons.1 hy with rfl | hy
    · omega
    · exact ((leN_byt _ _).app ((strI_byt _).app ((leN_byt _ _).app ((strI_byt _).app (fun z hz => by simp at hz))))) y hy
theorem bkB_byt (b : Bk) : Byt (bkB b) := by
  unfold bkB
  intro y hy
  rcases List.mem_cons.1 hy with rfl | hy
  · split <;> omega
  · exact ((leN_byt _ _).app ((leN_byt _ _).app (fun z hz => by simp at hz))) y hy
theorem hd_lit {g : Ge} (h : byG g) : hdB g = [g.ch, g.di, g.bl, g.pa] := by
  obtain ⟨h1, h2, h3, h4⟩ := h
  unfold hdB
  rw [leN_1 h1.1 h1.2, leN_1 h2.1 h2.2, leN_1 h3.1 h3.2, leN_1 h4.1 h4.2]
  rfl
theorem bk_lit {b : Bk} (h1 : b.pages.length ≤ 255) (h2 : 0 ≤ b.er) (h3 : b.er < 4294967296) : putF [if b.bad = true then 1 else 0, (b.pages.length : Int)] b.er 4 = bkB b := by
  have e4 := putF_leN (bs := [if b.bad = true then 1 else 0, (b.pages.length : Int)]) (n := 4) (fits4 h2 h3)
  rw [show (4 : Int) = ((4 : Nat) : Int) from rfl, e4]
  unfold bkB
  rw [leN_1 (by omega) (by omega)]
  simp
theorem pg_lit1 {x : Pg} (h : x.torn = true) : [if x.torn = true then (1 : Int) else 0] = pgB x := by
  unfold pgB
  rw [if_pos h, if_pos h]
theorem pg_lit0 {x : Pg} (h : ¬ x.torn = true) (hm : mayPg x = true) : textF (textF [if x.torn = true then 1 else 0] x.beside) x.data = pgB x := by
  have := pg_put0 h hm
  rwa [put1 (by split <;> omega) (by split <;> omega), leN_1 (by split <;> omega) (by split <;> omega), List.nil_append] at this
def c16 [Inp] : Trans := fun args m k => ∃ s g bs, args = [s] ∧ picS m s g bs ∧ mayF g bs = true ∧ k (.row m.length 0 (toldF smF g bs).length 1) (m ++ [⟨true, bL (toldF smF g bs)⟩])
def G16 [Inp] : List CEntry := [⟨57, true, c57⟩, ⟨58, true, c58⟩, ⟨59, true, c59⟩, ⟨60, true, c60⟩]
theorem g16 [Inp] : GOk Try.prog G16 := GOk.cons c57_ok (GOk.cons c58_ok (GOk.cons c59_ok (GOk.cons c60_ok (g0 _))))
theorem c16_ok [I : Inp] : Contract Try.prog 16 true c16 := by
  refine .readFG fn16 (G := fun J => @G16 J) (fun J => @g16 J) _ fun args m k h => ?_
  obtain ⟨s, g, bs, rfl, h1, hm, hk⟩ := h
  refine ⟨by simp, fun J hJ K hK us hus => ?_⟩
  obtain ⟨u, t1, rfl, hk1, rfl⟩ := hus
  obtain ⟨p, c, xs, e1, hxs, hin, hx0⟩ := pic_kn hK h1 hk1
  rw [List.map_cons, e1, List.map_nil]
  have hlx : bs.length = xs.length := by rw [← hxs, List.length_map]
  have hitem : ∀ (i : Nat) (x : Bi), xs[i]? = some x → inpL (plusA p (i * 3)) 3 = some x.cs := fun i x hx => inp_item Bi.len hin rfl hx
  unfold Ge.sv
  obtain ⟨hg, hl64, hbs⟩ := may_all hm
  have hby := chk_by hg
  have hlit := hd_lit hby
  obtain ⟨⟨y1, y2⟩, ⟨y3, y4⟩, ⟨y5, y6⟩, ⟨y7, y8⟩⟩ := hby
  have u8 : ∀ v : Int, 0 ≤ v → v ≤ 255 → IntKind.u8.wrap v = v := fun v h0 h1 => by simp [IntKind.wrap, IntKind.bits, IntKind.signed]; omega
  have v1 := u8 _ y1 y2
  have v2 := u8 _ y3 y4
  have v3 := u8 _ y5 y6
  have v4 := u8 _ y7 y8
  have e0 : outB g bs 0 = frF smF 71 (hdB g) := by unfold outB; simp
  have hdby : Byt (hdB g) := by rw [hlit]; intro z hz; simp at hz; omega
  simp (maxSteps := 2000000) -implicitDefEqProofs only [↓x16, ↓r16, ↓G16, ↓c57, v1, v2, v3, v4, s_alt, s_alt20, s_alt2t, s_alt2f, ↓s_loopi, ↓v_pq, ↓PRE, POST, CORE, Nat.reduceDiv, Nat.reduceMod, Int.reduceLT, Int.reduceLE, Int.reduceToNat, Int.reduceAdd, ↓reduceIte, Nat.reduceEqDiff, Nat.reduceAdd, Nat.reduceMul, Nat.reduceSub, Nat.reduceLeDiff, Nat.reduceLT, reduceCtorEq, if_true, eq_self, forall_const, implies_true]
  refine ⟨71, _, hdB g, rfl, (by rw [hlit]; exact rdB_row rfl rfl), hdby, by omega, by rw [hlit]; simp, ?_⟩
  rw [← e0]
  refine TXi_of (TX_count (@g16 J) xs.length (fun x => [(1, .ptr 0 0), (4, .row 1 0 (outB g bs x).length 1), (35, .v (.slice p xs.length c)), (36, .v (.int .i64 (xs.length : Int))), (37, .v (.int .i64 (x : Int)))]) (fun x => [⟨true, [.v (.int .i64 g.ch), .v (.int .i64 g.di), .v (.int .i64 g.bl), .v (.int .i64 g.pa), .v (.slice p xs.length c)]⟩, ⟨true, bL (outB g bs x)⟩]) (fun x => True) trivial (by refine ⟨[0, 3], by simp [NdL, NdA, oO_cells, oO_own, iL_nil], ?_, ?_, keep0 hJ⟩ <;> simp only [FitM, FitE, ObLe, LeL, Le, List.cons_append, List.nil_append] <;> (try (simp (maxSteps := 2000000) -implicitDefEqProofs only [bL_le, s_alt, s_alt20, s_alt2t, s_alt2f, ↓s_loopi, ↓v_pq, ↓PRE, POST, CORE, Nat.reduceDiv, Nat.reduceMod, Int.reduceLT, Int.reduceLE, Int.reduceToNat, Int.reduceAdd, ↓reduceIte, Nat.reduceEqDiff, Nat.reduceAdd, Nat.reduceMul, Nat.reduceSub, Nat.reduceLeDiff, Nat.reduceLT, reduceCtorEq, if_true, eq_self, forall_const, implies_true])) <;> (try simp only [Sz.Le, Sz.LeL, List.getElem?_cons_zero, List.getElem?_cons_succ]) <;> (try simp)) ?_ ?_)
  · intro x hx _
    obtain ⟨a, ha⟩ : ∃ a, xs[x]? = some a := ⟨_, List.getElem?_eq_getElem hx⟩
    have hb0 : bs[x]? = some a.b := by rw [← hxs, List.getElem?_map, ha]; rfl
    have hbm := List.mem_of_getElem? hb0
    obtain ⟨z1, z2, z3, z4⟩ := hbs a.b hbm
    have f : inpL (plusA p (x * 3)) 3 = some [.bool a.b.bad, .int .i64 a.b.er, .slice a.a a.b.pages.length a.c] := hitem x a ha
    have hina : inpL a.a (a.b.pages.length * 3) = some (rowV Pg.cs a.b.pages) := hx0 a (List.mem_of_getElem? ha)
    have hitem2 : ∀ (i : Nat) (y : Pg), a.b.pages[i]? = some y → inpL (plusA a.a (i * 3)) 3 = some y.cs := fun i y hy => inp_item Pg.len hina rfl hy
    have hp : p.isSome = true := inpL_isSome hin (by omega)
    have i0 : (0 : Int) ≤ (x : Int) := by omega
    have i1 : (x : Int) < (xs.length : Int) := by omega
    have w1 : IntKind.i64.wrap ((x : Int) + 1) = (x : Int) + 1 := Sz.w_64 (by omega) (by omega)
    have hol := outB_len hm x
    have hbk := bk_lit (b := a.b) (by omega) z3 (by omega)
    have hsucc := outB_succ (g := g) hb0
    have hpl := fun y => outP_len hm (x := x) hbm y
    have ep0 : outP g bs x a.b 0 = outB g bs x ++ frF smF 66 (bkB a.b) := by unfold outP; simp
    have eps := fun y (q : Pg) (h : a.b.pages[y]? = some q) => outP_succ (g := g) (bs := bs) (x := x) (b := a.b) h
    rw [hsucc]
    generalize outB g bs x = O at hol ep0 ⊢
    have fl0 : IntKind.u8.wrap (if a.b.bad = true then (1 : Int) else 0) = (if a.b.bad = true then 1 else 0) := by split <;> rfl
    have fl1 : IntKind.u8.wrap (a.b.pages.length : Int) = (a.b.pages.length : Int) := u8 _ (by omega) (by omega)
    simp (maxSteps := 2000000) -implicitDefEqProofs only [f, hp, i0, i1, ↓G16, ↓c59, fl1, s_alt, s_alt20, s_alt2t, s_alt2f, ↓s_loopi, ↓v_pq, ↓PRE, POST, CORE, Nat.reduceDiv, Nat.reduceMod, Int.reduceLT, Int.reduceLE, Int.reduceToNat, Int.reduceAdd, ↓reduceIte, Nat.reduceEqDiff, Nat.reduceAdd, Nat.reduceMul, Nat.reduceSub, Nat.reduceLeDiff, Nat.reduceLT, reduceCtorEq, if_true, eq_self, forall_const, implies_true]
    refine ⟨a.b.bad, rfl, ?_⟩
    rw [fl0]
    try simp (maxSteps := 2000000) -implicitDefEqProofs only [fl0, ↓G16, ↓c58, s_alt, s_alt20, s_alt2t, s_alt2f, ↓s_loopi, ↓v_pq, ↓PRE, POST, CORE, Nat.reduceDiv, Nat.reduceMod, Int.reduceLT, Int.reduceLE, Int.reduceToNat, Int.reduceAdd, ↓reduceIte, Nat.reduceEqDiff, Nat.reduceAdd, Nat.reduceMul, Nat.reduceSub, Nat.reduceLeDiff, Nat.reduceLT, reduceCtorEq, if_true, eq_self, forall_const, implies_true]
    refine ⟨[if a.b.bad = true then 1 else 0, (a.b.pages.length : Int)], rdB_row rfl rfl, by simp, by omega, ?_⟩
    rw [hbk]
    try simp (maxSteps := 2000000) -implicitDefEqProofs only [↓G16, ↓c57, s_alt, s_alt20, s_alt2t, s_alt2f, ↓s_loopi, ↓v_pq, ↓PRE, POST, CORE, Nat.reduceDiv, Nat.reduceMod, Int.reduceLT, Int.reduceLE, Int.reduceToNat, Int.reduceAdd, ↓reduceIte, Nat.reduceEqDiff, Nat.reduceAdd, Nat.reduceMul, Nat.reduceSub, Nat.reduceLeDiff, Nat.reduceLT, reduceCtorEq, if_true, eq_self, forall_const, implies_true]
    refine ⟨66, _, bkB a.b, rfl, rdB_row rfl rfl, bkB_byt _, by omega, by rw [bkB_len]; omega, ?_⟩
    have bF := frF_len smF 66 (bkB a.b)
    rw [bkB_len] at bF
    have e3 : bL O ++ bL (frF smF 66 (bkB a.b)) = bL (outP g bs x a.b 0) := by rw [ep0]; simp [bL]
    have e4 : O.length + (frF smF 66 (bkB a.b)).length = (outP g bs x a.b 0).length := by rw [ep0, List.length_append]
    have hp0 := hpl 0
    generalize frF smF 66 (bkB a.b) = F at bF e3 e4 ⊢
    have b1 := bL_len O
    have b2 := bL_len F
    have b3 := bL_one F
    have t1 : List.take O.length (bL O) = bL O := List.take_of_length_le (by rw [b1]; exact Nat.le_refl _)
    have t2 : List.take F.length (bL F) = bL F := List.take_of_length_le (by rw [b2]; exact Nat.le_refl _)
    have n0 : ¬ F.length = 0 := by omega
    have n1 : 0 < F.length := by omega
    simp (maxSteps := 2000000) -implicitDefEqProofs only [b1, b2, b3, t1, t2, n0, n1, e3, e4, s_alt, s_alt20, s_alt2t, s_alt2f, ↓s_loopi, ↓v_pq, ↓PRE, POST, CORE, Nat.reduceDiv, Nat.reduceMod, Int.reduceLT, Int.reduceLE, Int.reduceToNat, Int.reduceAdd, ↓reduceIte, Nat.reduceEqDiff, Nat.reduceAdd, Nat.reduceMul, Nat.reduceSub, Nat.reduceLeDiff, Nat.reduceLT, reduceCtorEq, if_true, eq_self, forall_const, implies_true]
    refine ⟨⟨by unfold maxLen; omega, by omega⟩, ?_⟩
    refine TXi_of (TX_count (@g16 J) a.b.pages.length (fun y => [(1, .ptr 0 0), (4, .row 1 0 (outP g bs x a.b y).length 1), (35, .v (.slice p xs.length c)), (36, .v (.int .i64 (xs.length : Int))), (37, .v (.int .i64 (x : Int))), (61, .v (.slice a.a a.b.pages.length a.c)), (62, .v (.int .i64 (a.b.pages.length : Int))), (63, .v (.int .i64 (y : Int)))]) (fun y => [⟨true, [.v (.int .i64 g.ch), .v (.int .i64 g.di), .v (.int .i64 g.bl), .v (.int .i64 g.pa), .v (.slice p xs.length c)]⟩, ⟨true, bL (outP g bs x a.b y)⟩]) (fun y => True) trivial (by refine ⟨[0, 6], by simp [NdL, NdA, oO_cells, oO_own, iL_nil], ?_, ?_, keep0 hJ⟩ <;> simp only [FitM, FitE, ObLe, LeL, Le, List.cons_append, List.nil_append] <;> (try (simp (maxSteps := 2000000) -implicitDefEqProofs only [bL_le, s_alt, s_alt20, s_alt2t, s_alt2f, ↓s_loopi, ↓v_pq, ↓PRE, POST, CORE, Nat.reduceDiv, Nat.reduceMod, Int.reduceLT, Int.reduceLE, Int.reduceToNat, Int.reduceAdd, ↓reduceIte, Nat.reduceEqDiff, Nat.reduceAdd, Nat.reduceMul, Nat.reduceSub, Nat.reduceLeDiff, Nat.reduceLT, reduceCtorEq, if_true, eq_self, forall_const, implies_true])) <;> (try simp only [Sz.Le, Sz.LeL, List.getElem?_cons_zero, List.getElem?_cons_succ]) <;> (try simp)) ?_ ?_)
    · intro y hy _
      obtain ⟨q, hq⟩ : ∃ q, a.b.pages[y]? = some q := ⟨_, List.getElem?_eq_getElem hy⟩
      have hmq := List.all_eq_true.1 z2 q (List.mem_of_getElem? hq)
      have f2 : inpL (plusA a.a (y * 3)) 3 = some [.bool q.torn, .string q.beside, .string q.data] := hitem2 y q hq
      have hp2 : a.a.isSome = true := inpL_isSome hina (by omega)
      have j0 : (0 : Int) ≤ (y : Int) := by omega
      have j1 : (y : Int) < (a.b.pages.length : Int) := by omega
      have w2 : IntKind.i64.wrap ((y : Int) + 1) = (y : Int) + 1 := Sz.w_64 (by omega) (by omega)
      have hol2 := hpl y
      have hol3 := hpl (y + 1)
      have hpgl := pgB_len hmq
      have ep := eps y q hq
      have gl0 : IntKind.u8.wrap (if q.torn = true then (1 : Int) else 0) = (if q.torn = true then 1 else 0) := by split <;> rfl
      have e3 : bL (outP g bs x a.b y) ++ bL (frF smF 80 (pgB q)) = bL (outP g bs x a.b (y + 1)) := by rw [ep]; simp [bL]
      have e4 : (outP g bs x a.b y).length + (frF smF 80 (pgB q)).length = (outP g bs x a.b (y + 1)).length := by rw [ep, List.length_append]
      have bF := frF_len smF 80 (pgB q)
      generalize outP g bs x a.b (y + 1) = O3 at hol3 e3 e4 ⊢
      generalize outP g bs x a.b y = O2 at hol2 e3 e4 ⊢
      simp (maxSteps := 2000000) -implicitDefEqProofs only [f2, hp2, j0, j1, ↓G16, ↓c59, s_alt, s_alt20, s_alt2t, s_alt2f, ↓s_loopi, ↓v_pq, ↓PRE, POST, CORE, Nat.reduceDiv, Nat.reduceMod, Int.reduceLT, Int.reduceLE, Int.reduceToNat, Int.reduceAdd, ↓reduceIte, Nat.reduceEqDiff, Nat.reduceAdd, Nat.reduceMul, Nat.reduceSub, Nat.reduceLeDiff, Nat.reduceLT, reduceCtorEq, if_true, eq_self, forall_const, implies_true]
      refine ⟨q.torn, rfl, ?_⟩
      rw [gl0]
      by_cases ht : q.torn = true
      · have e := pg_lit1 ht
        simp (maxSteps := 2000000) -implicitDefEqProofs only [ht, Bool.not_true, Bool.false_eq_true, ↓G16, ↓c57, s_alt, s_alt20, s_alt2t, s_alt2f, ↓s_loopi, ↓v_pq, ↓PRE, POST, CORE, Nat.reduceDiv, Nat.reduceMod, Int.reduceLT, Int.reduceLE, Int.reduceToNat, Int.reduceAdd, ↓reduceIte, Nat.reduceEqDiff, Nat.reduceAdd, Nat.reduceMul, Nat.reduceSub, Nat.reduceLeDiff, Nat.reduceLT, reduceCtorEq, if_true, eq_self, forall_const, implies_true]
        rw [if_pos ht] at e
        refine ⟨80, _, pgB q, rfl, (by rw [← e]; exact rdB_row rfl rfl), pgB_byt _, by omega, by omega, ?_⟩
        generalize frF smF 80 (pgB q) = F at bF e3 e4 ⊢
        have b1 := bL_len O2
        have b2 := bL_len F
        have b3 := bL_one F
        have t1 : List.take O2.length (bL O2) = bL O2 := List.take_of_length_le (by rw [b1]; exact Nat.le_refl _)
        have t2 : List.take F.length (bL F) = bL F := List.take_of_length_le (by rw [b2]; exact Nat.le_refl _)
        have n0 : ¬ F.length = 0 := by omega
        have n1 : 0 < F.length := by omega
        simp (maxSteps := 2000000) -implicitDefEqProofs only [b1, b2, b3, t1, t2, n0, n1, e3, e4, w2, s_alt, s_alt20, s_alt2t, s_alt2f, ↓s_loopi, ↓v_pq, ↓PRE, POST, CORE, Nat.reduceDiv, Nat.reduceMod, Int.reduceLT, Int.reduceLE, Int.reduceToNat, Int.reduceAdd, ↓reduceIte, Nat.reduceEqDiff, Nat.reduceAdd, Nat.reduceMul, Nat.reduceSub, Nat.reduceLeDiff, Nat.reduceLT, reduceCtorEq, if_true, eq_self, forall_const, implies_true]
        exact ⟨⟨by unfold maxLen; omega, by omega⟩, (by refine ⟨[0, 5], by simp [NdL, NdA, oO_cells, oO_own, iL_nil], ?_, ?_, keep0 hJ⟩ <;> simp only [FitM, FitE, ObLe, LeL, Le, List.cons_append, List.nil_append] <;> (try (simp (maxSteps := 2000000) -implicitDefEqProofs only [bL_le, s_alt, s_alt20, s_alt2t, s_alt2f, ↓s_loopi, ↓v_pq, ↓PRE, POST, CORE, Nat.reduceDiv, Nat.reduceMod, Int.reduceLT, Int.reduceLE, Int.reduceToNat, Int.reduceAdd, ↓reduceIte, Nat.reduceEqDiff, Nat.reduceAdd, Nat.reduceMul, Nat.reduceSub, Nat.reduceLeDiff, Nat.reduceLT, reduceCtorEq, if_true, eq_self, forall_const, implies_true])) <;> (try simp only [Sz.Le, Sz.LeL, List.getElem?_cons_zero, List.getElem?_cons_succ]) <;> (try simp))⟩
      · have e := pg_lit0 ht hmq
        have ht' : q.torn = false := by simpa using ht
        have hsz : q.beside.size ≤ 32 ∧ q.data.size ≤ 160 := by
          unfold mayPg at hmq
          rw [if_neg ht] at hmq
          simpa using hmq
        rw [if_neg ht] at e
        have s2 : (textF [(0 : Int)] q.beside).length = 3 + q.beside.size := by rw [text_put (by omega), List.length_append, List.length_append, leN_len, strI_len]; simp; omega
        simp (maxSteps := 2000000) -implicitDefEqProofs only [ht', Bool.not_false, Bool.false_eq_true, ↓G16, ↓c60, s_alt, s_alt20, s_alt2t, s_alt2f, ↓s_loopi, ↓v_pq, ↓PRE, POST, CORE, Nat.reduceDiv, Nat.reduceMod, Int.reduceLT, Int.reduceLE, Int.reduceToNat, Int.reduceAdd, ↓reduceIte, Nat.reduceEqDiff, Nat.reduceAdd, Nat.reduceMul, Nat.reduceSub, Nat.reduceLeDiff, Nat.reduceLT, reduceCtorEq, if_true, eq_self, forall_const, implies_true]
        refine ⟨[0], rdB_row rfl rfl, by simp, by omega, ?_⟩
        generalize textF [(0 : Int)] q.beside = B2 at e s2 ⊢
        try simp (maxSteps := 2000000) -implicitDefEqProofs only [↓G16, ↓c60, s_alt, s_alt20, s_alt2t, s_alt2f, ↓s_loopi, ↓v_pq, ↓PRE, POST, CORE, Nat.reduceDiv, Nat.reduceMod, Int.reduceLT, Int.reduceLE, Int.reduceToNat, Int.reduceAdd, ↓reduceIte, Nat.reduceEqDiff, Nat.reduceAdd, Nat.reduceMul, Nat.reduceSub, Nat.reduceLeDiff, Nat.reduceLT, reduceCtorEq, if_true, eq_self, forall_const, implies_true]
        refine ⟨B2, rdB_row rfl rfl, by omega, by omega, ?_⟩
        rw [e]
        try simp (maxSteps := 2000000) -implicitDefEqProofs only [↓G16, ↓c57, s_alt, s_alt20, s_alt2t, s_alt2f, ↓s_loopi, ↓v_pq, ↓PRE, POST, CORE, Nat.reduceDiv, Nat.reduceMod, Int.reduceLT, Int.reduceLE, Int.reduceToNat, Int.reduceAdd, ↓reduceIte, Nat.reduceEqDiff, Nat.reduceAdd, Nat.reduceMul, Nat.reduceSub, Nat.reduceLeDiff, Nat.reduceLT, reduceCtorEq, if_true, eq_self, forall_const, implies_true]
        refine ⟨80, _, pgB q, rfl, rdB_row rfl rfl, pgB_byt _, by omega, by omega, ?_⟩
        generalize frF smF 80 (pgB q) = F at bF e3 e4 ⊢
        have b1 := bL_len O2
        have b2 := bL_len F
        have b3 := bL_one F
        have t1 : List.take O2.length (bL O2) = bL O2 := List.take_of_length_le (by rw [b1]; exact Nat.le_refl _)
        have t2 : List.take F.length (bL F) = bL F := List.take_of_length_le (by rw [b2]; exact Nat.le_refl _)
        have n0 : ¬ F.length = 0 := by omega
        have n1 : 0 < F.length := by omega
        simp (maxSteps := 2000000) -implicitDefEqProofs only [b1, b2, b3, t1, t2, n0, n1, e3, e4, w2, s_alt, s_alt20, s_alt2t, s_alt2f, ↓s_loopi, ↓v_pq, ↓PRE, POST, CORE, Nat.reduceDiv, Nat.reduceMod, Int.reduceLT, Int.reduceLE, Int.reduceToNat, Int.reduceAdd, ↓reduceIte, Nat.reduceEqDiff, Nat.reduceAdd, Nat.reduceMul, Nat.reduceSub, Nat.reduceLeDiff, Nat.reduceLT, reduceCtorEq, if_true, eq_self, forall_const, implies_true]
        exact ⟨⟨by unfold maxLen; omega, by omega⟩, (by refine ⟨[0, 7], by simp [NdL, NdA, oO_cells, oO_own, iL_nil], ?_, ?_, keep0 hJ⟩ <;> simp only [FitM, FitE, ObLe, LeL, Le, List.cons_append, List.nil_append] <;> (try (simp (maxSteps := 2000000) -implicitDefEqProofs only [bL_le, s_alt, s_alt20, s_alt2t, s_alt2f, ↓s_loopi, ↓v_pq, ↓PRE, POST, CORE, Nat.reduceDiv, Nat.reduceMod, Int.reduceLT, Int.reduceLE, Int.reduceToNat, Int.reduceAdd, ↓reduceIte, Nat.reduceEqDiff, Nat.reduceAdd, Nat.reduceMul, Nat.reduceSub, Nat.reduceLeDiff, Nat.reduceLT, reduceCtorEq, if_true, eq_self, forall_const, implies_true])) <;> (try simp only [Sz.Le, Sz.LeL, List.getElem?_cons_zero, List.getElem?_cons_succ]) <;> (try simp))⟩
    · intro _
      have j1 : ¬ (a.b.pages.length : Int) < (a.b.pages.length : Int) := by omega
      simp (maxSteps := 2000000) -implicitDefEqProofs only [j1, w1, s_alt, s_alt20, s_alt2t, s_alt2f, ↓s_loopi, ↓v_pq, ↓PRE, POST, CORE, Nat.reduceDiv, Nat.reduceMod, Int.reduceLT, Int.reduceLE, Int.reduceToNat, Int.reduceAdd, ↓reduceIte, Nat.reduceEqDiff, Nat.reduceAdd, Nat.reduceMul, Nat.reduceSub, Nat.reduceLeDiff, Nat.reduceLT, reduceCtorEq, if_true, eq_self, forall_const, implies_true]
      exact (by refine ⟨[0, 1], by simp [NdL, NdA, oO_cells, oO_own, iL_nil], ?_, ?_, keep0 hJ⟩ <;> simp only [FitM, FitE, ObLe, LeL, Le, List.cons_append, List.nil_append] <;> (try (simp (maxSteps := 2000000) -implicitDefEqProofs only [bL_le, s_alt, s_alt20, s_alt2t, s_alt2f, ↓s_loopi, ↓v_pq, ↓PRE, POST, CORE, Nat.reduceDiv, Nat.reduceMod, Int.reduceLT, Int.reduceLE, Int.reduceToNat, Int.reduceAdd, ↓reduceIte, Nat.reduceEqDiff, Nat.reduceAdd, Nat.reduceMul, Nat.reduceSub, Nat.reduceLeDiff, Nat.reduceLT, reduceCtorEq, if_true, eq_self, forall_const, implies_true])) <;> (try simp only [Sz.Le, Sz.LeL, List.getElem?_cons_zero, List.getElem?_cons_succ]) <;> (try simp))
  · intro _
    have i1 : ¬ (bs.length : Int) < (bs.length : Int) := by omega
    rw [← hlx, outB_end]
    simp (maxSteps := 2000000) -implicitDefEqProofs only [i1, s_alt, s_alt20, s_alt2t, s_alt2f, ↓s_loopi, ↓v_pq, ↓PRE, POST, CORE, Nat.reduceDiv, Nat.reduceMod, Int.reduceLT, Int.reduceLE, Int.reduceToNat, Int.reduceAdd, ↓reduceIte, Nat.reduceEqDiff, Nat.reduceAdd, Nat.reduceMul, Nat.reduceSub, Nat.reduceLeDiff, Nat.reduceLT, reduceCtorEq, if_true, eq_self, forall_const, implies_true]
    generalize toldF smF g bs = T at hk ⊢
    exact fin_own T _ 1 rfl hk
end Go.Proofs.Ytibefgdjijmncaa
end
section
namespace Go.Proofs.Ytibefgdjijmncaa
open Go.RowKit Sz
set_option maxHeartbeats 4000000
set_option maxRecDepth 20000
-- (*almshouse/image.reader).page (1 parameters)
def x101 : XC := (.seq (.tree (.seq ⟨some 2, none, (.alloc [(.v (.bool false)), (.v (.string ⟨#[]⟩)), (.v (.string ⟨#[]⟩))])⟩
  .done))
 (.seq (.tree (.seq ⟨some 3, none, (.ofA (.mv (.tmp 0)))⟩
  (.seq ⟨some 4, none, (.ofA (.mkfn 125 [(.tmp 2)]))⟩
  (.seq ⟨some 5, none, (.call (.cst (.fn 50 [])) [(.tmp 3), (.cst (.v (.int .i64 80))), (.tmp 4)])⟩
  .done))))
 (.seq (.tree (.seq ⟨some 6, none, (.ofA (.load (some 3) (.tmp 2)))⟩
  (.seq ⟨none, none, (.store 3 (.tmp 2) (.tmp 6))⟩
  .done)))
 .ret)))
def r101 : List XR := [.cell 2 (some 3)]
theorem fn101 : FnX Try.prog 101 [50, 51, 52, 54, 56, 95, 97, 98, 99, 100, 101, 125, 126] 7 x101 r101 := ⟨_, Try.func101, by kernel_rfl, by kernel_rfl, by kernel_rfl, by kernel_rfl⟩
-- (*almshouse/image.reader).block (1 parameters)
def x56 : XC := (.seq (.tree (.seq ⟨some 2, none, (.alloc [(.v (.bool false)), (.v (.int .i64 0)), (.v (.slice none 0 0))])⟩
  .done))
 (.seq (.tree (.seq ⟨some 3, none, (.alloc [(.v (.int .i64 0))])⟩
  (.seq ⟨none, none, (.store 1 (.tmp 3) (.cst (.v (.int .i64 0))))⟩
  .done)))
 (.seq (.tree (.seq ⟨some 4, none, (.ofA (.mv (.tmp 0)))⟩
  (.seq ⟨some 5, none, (.ofA (.mkfn 99 [(.tmp 2), (.tmp 3)]))⟩
  (.seq ⟨some 6, none, (.call (.cst (.fn 50 [])) [(.tmp 4), (.cst (.v (.int .i64 66))), (.tmp 5)])⟩
  .done))))
 (.seq (.seq (.tree (.seq ⟨some 7, none, (.ofA (.load none (.tmp 3)))⟩
  (.seq ⟨some 8, none, (.ofA (.mv (.cst (.v (.int .i64 0)))))⟩
  .done)))
 (.block 0 (.loop (.seq (.tree (.seq ⟨some 9, none, (.ofA (.bin .lss (.tmp 8) (.tmp 7)))⟩
  .done))
 (.seq (.cond (.tmp 9)
 .skip
 (.exit 0))
 (.seq (.block 1 (.seq (.tree (.seq ⟨some 10, none, (.ofA (.mv (.tmp 0)))⟩
  (.seq ⟨some 11, none, (.ofA (.nilc (.tmp 10)))⟩
  (.seq ⟨some 12, none, (.ofA (.faddr 1 (.tmp 11)))⟩
  (.seq ⟨some 13, none, (.ofA (.load none (.tmp 12)))⟩
  (.seq ⟨some 14, none, (.ofA (.bin .eql (.tmp 13) (.cst (.v (.int .i64 0)))))⟩
  .done))))))
 (.cond (.tmp 14)
 (.tree (.take ⟨some 15, none, (.ofA (.faddr 2 (.tmp 2)))⟩
  (.take ⟨some 17, none, (.ofA (.mv (.tmp 0)))⟩
  (.alt [true, false] [(⟨some 16, none, (.ofA (.load none (.tmp 15)))⟩,
 (.alt [false] [(⟨some 18, none, (.call (.cst (.fn 101 [])) [(.tmp 17)])⟩,
 (.alt [true] [(⟨some 19, none, (.buildSl 3 1 [(.v (.bool false)), (.v (.string ⟨#[]⟩)), (.v (.string ⟨#[]⟩))] [(0, 3, (.tmp 18))])⟩,
 (.alt [false] [(⟨some 20, none, (.app 3 40 (.tmp 16) (.tmp 19))⟩,
 (.take ⟨some 21, none, (.ofA (.faddr 2 (.tmp 2)))⟩
  (.alt [false] [(⟨none, none, (.store 1 (.tmp 21) (.tmp 20))⟩,
 .done)])))]))]))])), (⟨some 18, none, (.call (.cst (.fn 101 [])) [(.tmp 17)])⟩,
 (.take ⟨some 16, none, (.ofA (.load none (.tmp 15)))⟩
  (.alt [true] [(⟨some 19, none, (.buildSl 3 1 [(.v (.bool false)), (.v (.string ⟨#[]⟩)), (.v (.string ⟨#[]⟩))] [(0, 3, (.tmp 18))])⟩,
 (.alt [false] [(⟨some 20, none, (.app 3 40 (.tmp 16) (.tmp 19))⟩,
 (.take ⟨some 21, none, (.ofA (.faddr 2 (.tmp 2)))⟩
  (.alt [false] [(⟨none, none, (.store 1 (.tmp 21) (.tmp 20))⟩,
 .done)])))]))])))]))))
 .skip)))
 (.tree (.seq ⟨some 22, none, (.ofA (.bin .add (.tmp 8) (.cst (.v (.int .i64 1)))))⟩
  (.seq ⟨some 8, none, (.ofA (.mv (.tmp 22)))⟩
  .done)))))))))
 (.seq (.tree (.seq ⟨some 23, none, (.ofA (.load (some 3) (.tmp 2)))⟩
  (.seq ⟨none, none, (.store 3 (.tmp 2) (.tmp 23))⟩
  .done)))
 .ret)))))
def r56 : List XR := [.cell 2 (some 3)]
theorem fn56 : FnX Try.prog 56 [50, 51, 52, 54, 56, 95, 97, 98, 99, 100, 101, 125, 126] 24 x56 r56 := ⟨_, Try.func56, by kernel_rfl, by kernel_rfl, by kernel_rfl, by kernel_rfl⟩
def nxP (s : RS) : Pg × RS := nextF smF 80 decPg noPg s
def G101 [Inp] : List CEntry := [⟨50, false, c50p⟩]
theorem g101 [Inp] : GOk Try.prog G101 := GOk.cons c50p_ok (g0 _)
def c101 [Inp] : Trans := fun args m k => ∃ (j : Nat) (p : Option Addr) (c : Nat) (s : RS), args = [.ptr j 0] ∧ m[j]? = some (rdO (.v (.slice p s.1.length c)) s.2) ∧ Fr p c s.1 ∧
  ∀ (p2 : Option Addr) (c2 : Nat), Rl p c s.1 p2 c2 (nxP s).2.1 → k (.agg ((nxP s).1.cs.map .v)) (m.set j (rdO (.v (.slice p2 (nxP s).2.1.length c2)) (nxP s).2.2))
theorem c101_ok [Inp] : Contract Try.prog 101 false c101 := by
  refine .methN fn101 (G := fun J => @G101 J) (fun J => @g101 J) _ fun args m k h => ?_
  unfold c101 at h
  obtain ⟨j, p, c, s, rfl, hm, hf, hk⟩ := h
  refine ⟨j, _, rfl, hm, rfl, by simp, fun J hJ hin Q hQ => ?_⟩
  simp (maxSteps := 2000000) -implicitDefEqProofs only [↓x101, ↓r101, ↓G101, ↓c50p, s_alt, s_alt20, s_alt2t, s_alt2f, ↓s_loopi, ↓v_pq, ↓PRE, POST, CORE, Nat.reduceDiv, Nat.reduceMod, Int.reduceLT, Int.reduceLE, Int.reduceToNat, Int.reduceAdd, ↓reduceIte, Nat.reduceEqDiff, Nat.reduceAdd, Nat.reduceMul, Nat.reduceSub, Nat.reduceLeDiff, Nat.reduceLT, reduceCtorEq, if_true, eq_self, forall_const, implies_true]
  refine ⟨p, c, s, rfl, ⟨hf.1, hin _ _ _ hf.2.1, hf.2.2⟩, fun p2 c2 T hr => ?_⟩
  have hk := hk p2 c2 hr
  refine ⟨Nat.le_refl 3, ⟨rfl, rfl, Nat.le_refl 3, rfl, rfl⟩, Nat.le_refl 3, ?_⟩
  refine hQ [.v (.slice p2 (nxP s).2.1.length c2), .v (.int .i64 (nxP s).2.2)] [] (.agg ((nxP s).1.cs.map .v)) [] _ _ rfl (by simp [NdL, NdA]) ?_ ?_ (by simp) ?_
  · simp [FitM, ObLe, LeL, Le, nxP]
  · simp only [SV.up, upL_v, Le]
    exact LeL_plain _ (plainL_v _)
  · simpa only [SV.up, upL_v, List.map_nil, List.append_nil] using hk
end Go.Proofs.Ytibefgdjijmncaa
end
section
namespace Go.Proofs.Ytibefgdjijmncaa
open Go.RowKit Sz
set_option maxHeartbeats 4000000
set_option maxRecDepth 20000
def G56 [Inp] : List CEntry := [⟨50, false, c50b⟩, ⟨101, false, c101⟩]
theorem g56 [Inp] : GOk Try.prog G56 := GOk.cons c50b_ok (GOk.cons c101_ok (g0 _))
def pgC (ps : List Pg) : List SV := (rowV Pg.cs ps).map .v
@[simp] theorem pgC_nil : pgC [] = [] := rfl
def nxB (s : RS) : (Bool × Int × Int) × RS := nextF smF 66 decBk (false, 0, 0) s
def c56 [Inp] : Trans := fun args m k => ∃ (j : Nat) (p : Option Addr) (c : Nat) (s : RS), args = [.ptr j 0] ∧ m[j]? = some (rdO (.v (.slice p s.1.length c)) s.2) ∧ Fr p c s.1 ∧
  ∀ (p2 : Option Addr) (c2 : Nat), Rl p c s.1 p2 c2 (blockF smF s).2.1 → k (.agg [.v (.bool (blockF smF s).1.bad), .v (.int .i64 (blockF smF s).1.er), oV m.length 3 (blockF smF s).1.pages.length]) (m.set j (rdO (.v (.slice p2 (blockF smF s).2.1.length c2)) (blockF smF s).2.2) ++ (if (blockF smF s).1.pages = [] then [] else [⟨true, pgC (blockF smF s).1.pages⟩]))
theorem nxB_cnt {s : RS} (hb : Byt s.1) : 0 ≤ (nxB s).1.2.1 ∧ (nxB s).1.2.1 ≤ 255 := by
  unfold nxB nextF
  split
  · split
    · simp
    · rename_i k body size ho
      obtain ⟨_, _, _, _, _, hB, _⟩ := openF_ok smF hb ho
      have : Byt (flagR (body, 0)).2.1 := by
        unfold flagR numR takeR failR
        simp only [if_true]
        split <;> split <;> simp only <;> first | exact hB | exact hB.drop _ | (split <;> first | exact hB | exact hB.drop _)
      exact numR_byte this
  · simp
theorem pgC_le {g : List Nat} {ps : List Pg} : LeL g (pgC ps) (pgC ps) = True := eq_true (LeL_plain g (plainL_v _))
theorem pgC_snoc {ps : List Pg} {q : Pg} : pgC (ps ++ [q]) = pgC ps ++ [.v (.bool q.torn), .v (.string q.beside), .v (.string q.data)] := by simp [pgC, rowV, Pg.cs]
theorem oO_pgs {ps : List Pg} {q : Pg} : oO (pgC (ps ++ [q])) = ⟨true, pgC (ps ++ [q])⟩ := by rw [pgC_snoc]; exact oO_app
theorem le_v {g : List Nat} {x : Value} : Le g (.v x) (.v x) = True := by simp [Le]
theorem le_row4 {n : Nat} : Le [0, 1, 4] (.row 2 0 n 3) (.row 4 0 n 3) = True := by simp [Le]
structure St56 where
  p : Option Addr
  c : Nat
  ps : List Pg
  s : RS
theorem c56_ok [Inp] : Contract Try.prog 56 false c56 := by
  refine .methN fn56 (G := fun J => @G56 J) (fun J => @g56 J) _ fun args m k h => ?_
  unfold c56 at h
  obtain ⟨j, p, c, s, rfl, hm, hf, hk⟩ := h
  refine ⟨j, _, rfl, hm, rfl, by simp, fun J hJ hin Q hQ => ?_⟩
  have hfJ : @Fr J p c s.1 := ⟨hf.1, hin _ _ _ hf.2.1, hf.2.2⟩
  simp (maxSteps := 2000000) -implicitDefEqProofs only [↓x56, ↓r56, ↓G56, ↓c50b, over, s_alt, s_alt20, s_alt2t, s_alt2f, ↓s_loopi, ↓v_pq, ↓PRE, POST, CORE, Nat.reduceDiv, Nat.reduceMod, Int.reduceLT, Int.reduceLE, Int.reduceToNat, Int.reduceAdd, ↓reduceIte, Nat.reduceEqDiff, Nat.reduceAdd, Nat.reduceMul, Nat.reduceSub, Nat.reduceLeDiff, Nat.reduceLT, reduceCtorEq, if_true, eq_self, forall_const, implies_true]
  refine ⟨p, c, s, rfl, hfJ, fun p2 c2 T hr => ?_⟩
  have hN := nxB_cnt (s := s) hfJ.2.2.2
  have eB : blockF smF s = (⟨(nxB s).1.1, (nxB s).1.2.2, (pagesF smF (nxB s).1.2.1.toNat [] (nxB s).2).1⟩, (pagesF smF (nxB s).1.2.1.toNat [] (nxB s).2).2) := rfl
  rw [eB] at hk
  change Rl p c s.1 p2 c2 (nxB s).2.1 at hr
  rw [show nextF smF 66 decBk (false, 0, 0) s = nxB s from rfl]
  generalize nxB s = B at hk hr hN ⊢
  obtain ⟨⟨bad, cnt, er⟩, s1⟩ := B
  simp only at hk hr hN
  obtain ⟨N, rfl⟩ := Int.eq_ofNat_of_zero_le hN.1
  rw [Int.toNat_natCast] at hk
  simp (maxSteps := 2000000) -implicitDefEqProofs only [inO, bkO, s_alt, s_alt20, s_alt2t, s_alt2f, ↓s_loopi, ↓v_pq, ↓PRE, POST, CORE, Nat.reduceDiv, Nat.reduceMod, Int.reduceLT, Int.reduceLE, Int.reduceToNat, Int.reduceAdd, ↓reduceIte, Nat.reduceEqDiff, Nat.reduceAdd, Nat.reduceMul, Nat.reduceSub, Nat.reduceLeDiff, Nat.reduceLT, reduceCtorEq, if_true, eq_self, forall_const, implies_true]
  refine TXi_of (TX_countS (@g56 J) N (σ := St56) (fun x st => [(0, .ptr 0 0), (2, .ptr 1 0), (7, .v (.int .i64 (N : Int))), (8, .v (.int .i64 (x : Int)))])
    (fun x st => [rdO (.v (.slice st.p st.s.1.length st.c)) st.s.2, (⟨true, [.v (.bool bad), .v (.int .i64 er), oV 2 3 st.ps.length]⟩ : SObj), oO (pgC st.ps)])
    (fun x st => pagesF smF (N - x) st.ps st.s = pagesF smF N [] s1 ∧ Rl p c s.1 st.p st.c st.s.1 ∧ st.ps.length ≤ x) ⟨p2, c2, [], s1⟩ ⟨rfl, hr, by simp⟩ (by refine ⟨[0, 1, 2], by simp [NdL, NdA, oO_cells, oO_own, iL_nil], ?_, ?_, keep1 hJ rfl⟩ <;> simp only [FitM, FitE, ObLe, LeL, Le, List.cons_append, List.nil_append] <;> (try (simp (maxSteps := 2000000) -implicitDefEqProofs only [bkO, pgC_nil, oO_nil, oV_0, le_v, or_true, Sz.extLe_no, s_alt, s_alt20, s_alt2t, s_alt2f, ↓s_loopi, ↓v_pq, ↓PRE, POST, CORE, Nat.reduceDiv, Nat.reduceMod, Int.reduceLT, Int.reduceLE, Int.reduceToNat, Int.reduceAdd, ↓reduceIte, Nat.reduceEqDiff, Nat.reduceAdd, Nat.reduceMul, Nat.reduceSub, Nat.reduceLeDiff, Nat.reduceLT, reduceCtorEq, if_true, eq_self, forall_const, implies_true])) <;> (try simp only [Sz.Le, Sz.LeL, List.getElem?_cons_zero, List.getElem?_cons_succ]) <;> (try simp)) ?_ ?_)
  · intro x st hx hI
    obtain ⟨sp, sc, ps, s2⟩ := st
    obtain ⟨i1, i2, i3⟩ := hI
    simp only at i1 i2 i3
    have j1 : decide ((x : Int) < (N : Int)) = true := decide_eq_true (by omega)
    have w1 : IntKind.i64.wrap ((x : Int) + 1) = (x : Int) + 1 := Sz.w_64 (by omega) (by omega)
    have eN : N - x = (N - (x + 1)) + 1 := by omega
    rw [eN] at i1
    by_cases he : s2.2 = 0
    · have d1 : (s2.2 == 0) = true := by simpa using he
      have i1 : pagesF smF (N - (x + 1)) (ps ++ [(nxP s2).1]) (nxP s2).2 = pagesF smF N [] s1 := by rw [← i1]; exact (if_pos he).symm
      simp (maxSteps := 2000000) -implicitDefEqProofs only [j1, d1, bkO, ↓G56, ↓c101, s_alt, s_alt20, s_alt2t, s_alt2f, ↓s_loopi, ↓v_pq, ↓PRE, POST, CORE, Nat.reduceDiv, Nat.reduceMod, Int.reduceLT, Int.reduceLE, Int.reduceToNat, Int.reduceAdd, ↓reduceIte, Nat.reduceEqDiff, Nat.reduceAdd, Nat.reduceMul, Nat.reduceSub, Nat.reduceLeDiff, Nat.reduceLT, reduceCtorEq, if_true, eq_self, forall_const, implies_true]
      have hl : (pgC ps).length = ps.length * 3 := by unfold pgC; rw [List.length_map, rowV_len Pg.len]
      have hps : ps.length ≤ 255 := by omega
      refine ⟨?_, ?_⟩ <;> (refine ⟨0, sp, sc, s2, rfl, rfl, i2 J hfJ, fun p3 c3 hr3 => ?_⟩)
      · simp (maxSteps := 2000000) -implicitDefEqProofs only [o_sl, o_grows, o_kill, o_len, o_cap, o_isl, o_le, o_cells, o_one, oOk_c, oOk_o, oO_cells, oO_own, oV_s, oV_0, oO_nil, oO_iL, iL_nil, iL_snoc, List.length_append, Pg.cs, hl, w1, s_alt, s_alt20, s_alt2t, s_alt2f, ↓s_loopi, ↓v_pq, ↓PRE, POST, CORE, Nat.reduceDiv, Nat.reduceMod, Int.reduceLT, Int.reduceLE, Int.reduceToNat, Int.reduceAdd, ↓reduceIte, Nat.reduceEqDiff, Nat.reduceAdd, Nat.reduceMul, Nat.reduceSub, Nat.reduceLeDiff, Nat.reduceLT, reduceCtorEq, if_true, eq_self, forall_const, implies_true]
        rw [← pgC_snoc]
        exact ⟨⟨by unfold maxLen; omega, by omega⟩, ⟨p3, c3, ps ++ [(nxP s2).1], (nxP s2).2⟩, ⟨i1, i2.trans hr3, by simp only [List.length_append, List.length_cons, List.length_nil]; omega⟩, (by refine ⟨[0, 1, 4], by simp [NdL, NdA, oO_cells, oO_own, iL_nil], ?_, ?_, keep1 hJ rfl⟩ <;> simp only [FitM, FitE, ObLe, LeL, Le, List.cons_append, List.nil_append] <;> (try (simp (maxSteps := 2000000) -implicitDefEqProofs only [o_sl, o_grows, o_kill, o_len, o_cap, o_isl, o_le, o_cells, o_one, oOk_c, oOk_o, oO_cells, oO_own, oV_s, oV_0, oO_nil, oO_iL, iL_nil, iL_snoc, List.length_append, oO_pgs, extO, extO2, or_true, pgC_le, le_v, le_row4, Sz.extLe_no, Int.natCast_add, Int.natCast_one, List.length_cons, List.length_nil, s_alt, s_alt20, s_alt2t, s_alt2f, ↓s_loopi, ↓v_pq, ↓PRE, POST, CORE, Nat.reduceDiv, Nat.reduceMod, Int.reduceLT, Int.reduceLE, Int.reduceToNat, Int.reduceAdd, ↓reduceIte, Nat.reduceEqDiff, Nat.reduceAdd, Nat.reduceMul, Nat.reduceSub, Nat.reduceLeDiff, Nat.reduceLT, reduceCtorEq, if_true, eq_self, forall_const, implies_true])) <;> (try simp only [Sz.Le, Sz.LeL, List.getElem?_cons_zero, List.getElem?_cons_succ]) <;> (try simp))⟩
      · simp (maxSteps := 2000000) -implicitDefEqProofs only [o_sl, o_grows, o_kill, o_len, o_cap, o_isl, o_le, o_cells, o_one, oOk_c, oOk_o, oO_cells, oO_own, oV_s, oV_0, oO_nil, oO_iL, iL_nil, iL_snoc, List.length_append, Pg.cs, hl, w1, s_alt, s_alt20, s_alt2t, s_alt2f, ↓s_loopi, ↓v_pq, ↓PRE, POST, CORE, Nat.reduceDiv, Nat.reduceMod, Int.reduceLT, Int.reduceLE, Int.reduceToNat, Int.reduceAdd, ↓reduceIte, Nat.reduceEqDiff, Nat.reduceAdd, Nat.reduceMul, Nat.reduceSub, Nat.reduceLeDiff, Nat.reduceLT, reduceCtorEq, if_true, eq_self, forall_const, implies_true]
        rw [← pgC_snoc]
        exact ⟨⟨by unfold maxLen; omega, by omega⟩, ⟨p3, c3, ps ++ [(nxP s2).1], (nxP s2).2⟩, ⟨i1, i2.trans hr3, by simp only [List.length_append, List.length_cons, List.length_nil]; omega⟩, (by refine ⟨[0, 1, 4], by simp [NdL, NdA, oO_cells, oO_own, iL_nil], ?_, ?_, keep1 hJ rfl⟩ <;> simp only [FitM, FitE, ObLe, LeL, Le, List.cons_append, List.nil_append] <;> (try (simp (maxSteps := 2000000) -implicitDefEqProofs only [o_sl, o_grows, o_kill, o_len, o_cap, o_isl, o_le, o_cells, o_one, oOk_c, oOk_o, oO_cells, oO_own, oV_s, oV_0, oO_nil, oO_iL, iL_nil, iL_snoc, List.length_append, oO_pgs, extO, extO2, or_true, pgC_le, le_v, le_row4, Sz.extLe_no, Int.natCast_add, Int.natCast_one, List.length_cons, List.length_nil, s_alt, s_alt20, s_alt2t, s_alt2f, ↓s_loopi, ↓v_pq, ↓PRE, POST, CORE, Nat.reduceDiv, Nat.reduceMod, Int.reduceLT, Int.reduceLE, Int.reduceToNat, Int.reduceAdd, ↓reduceIte, Nat.reduceEqDiff, Nat.reduceAdd, Nat.reduceMul, Nat.reduceSub, Nat.reduceLeDiff, Nat.reduceLT, reduceCtorEq, if_true, eq_self, forall_const, implies_true])) <;> (try simp only [Sz.Le, Sz.LeL, List.getElem?_cons_zero, List.getElem?_cons_succ]) <;> (try simp))⟩
    · have d1 : (s2.2 == 0) = false := by simpa using he
      have i1 : pagesF smF (N - (x + 1)) ps s2 = pagesF smF N [] s1 := by rw [← i1]; exact (if_neg he).symm
      simp (maxSteps := 2000000) -implicitDefEqProofs only [j1, d1, bkO, w1, s_alt, s_alt20, s_alt2t, s_alt2f, ↓s_loopi, ↓v_pq, ↓PRE, POST, CORE, Nat.reduceDiv, Nat.reduceMod, Int.reduceLT, Int.reduceLE, Int.reduceToNat, Int.reduceAdd, ↓reduceIte, Nat.reduceEqDiff, Nat.reduceAdd, Nat.reduceMul, Nat.reduceSub, Nat.reduceLeDiff, Nat.reduceLT, reduceCtorEq, if_true, eq_self, forall_const, implies_true]
      exact ⟨⟨sp, sc, ps, s2⟩, ⟨i1, i2, by simp only; omega⟩, (by refine ⟨[0, 1, 2], by simp [NdL, NdA, oO_cells, oO_own, iL_nil], ?_, ?_, keep1 hJ rfl⟩ <;> simp only [FitM, FitE, ObLe, LeL, Le, List.cons_append, List.nil_append] <;> (try (simp (maxSteps := 2000000) -implicitDefEqProofs only [o_sl, o_grows, o_kill, o_len, o_cap, o_isl, o_le, o_cells, o_one, oOk_c, oOk_o, oO_cells, oO_own, oV_s, oV_0, oO_nil, oO_iL, iL_nil, iL_snoc, List.length_append, extO, extO2, or_true, pgC_le, le_v, Sz.extLe_no, Int.natCast_add, Int.natCast_one, s_alt, s_alt20, s_alt2t, s_alt2f, ↓s_loopi, ↓v_pq, ↓PRE, POST, CORE, Nat.reduceDiv, Nat.reduceMod, Int.reduceLT, Int.reduceLE, Int.reduceToNat, Int.reduceAdd, ↓reduceIte, Nat.reduceEqDiff, Nat.reduceAdd, Nat.reduceMul, Nat.reduceSub, Nat.reduceLeDiff, Nat.reduceLT, reduceCtorEq, if_true, eq_self, forall_const, implies_true])) <;> (try simp only [Sz.Le, Sz.LeL, List.getElem?_cons_zero, List.getElem?_cons_succ]) <;> (try simp))⟩
  · intro st hI
    obtain ⟨sp, sc, ps, s2⟩ := st
    obtain ⟨i1, i2, i3⟩ := hI
    simp only at i1 i2 i3
    have j1 : decide ((N : Int) < (N : Int)) = false := decide_eq_false (by omega)
    simp (maxSteps := 2000000) -implicitDefEqProofs only [j1, bkO, s_alt, s_alt20, s_alt2t, s_alt2f, ↓s_loopi, ↓v_pq, ↓PRE, POST, CORE, Nat.reduceDiv, Nat.reduceMod, Int.reduceLT, Int.reduceLE, Int.reduceToNat, Int.reduceAdd, ↓reduceIte, Nat.reduceEqDiff, Nat.reduceAdd, Nat.reduceMul, Nat.reduceSub, Nat.reduceLeDiff, Nat.reduceLT, reduceCtorEq, if_true, eq_self, forall_const, implies_true]
    rw [Nat.sub_self] at i1
    have i1 : (ps, s2) = pagesF smF N [] s1 := i1
    rw [← i1] at hk
    have hk := hk sp sc i2
    refine ⟨o_one, ?_⟩
    by_cases h0 : ps = []
    · subst h0
      rw [if_pos rfl] at hk
      refine hQ [.v (.slice sp s2.1.length sc), .v (.int .i64 s2.2)] [] (.agg [.v (.bool bad), .v (.int .i64 er), .v (.slice none 0 0)]) [] _ _ rfl (by simp [NdL, NdA]) ?_ ?_ (by simp) ?_
      · simp [FitM, ObLe, LeL, Le]
      · simp [SV.up, upL, Le, LeL, oV_0]
      · simpa [SV.up, upL, oV_0] using hk
    · rw [if_neg h0] at hk
      obtain ⟨n, hn⟩ : ∃ n, ps.length = n + 1 := ⟨ps.length - 1, by have : ps.length ≠ 0 := fun h => h0 (List.length_eq_zero_iff.1 h); omega⟩
      have hne : pgC ps ≠ [] := by
        intro h
        have h2 : (pgC ps).length = ps.length * 3 := by unfold pgC; rw [List.length_map, rowV_len Pg.len]
        rw [h, hn] at h2
        simp at h2
      have ho : oO (pgC ps) = ⟨true, pgC ps⟩ := by
        cases h : pgC ps with
        | nil => exact (hne h).elim
        | cons c cs => rfl
      have hup : ∀ d, upL d (pgC ps) = pgC ps := fun d => upL_v d _
      rw [hn, oV_s] at hk
      rw [hn, oV_s, ho]
      refine hQ [.v (.slice sp s2.1.length sc), .v (.int .i64 s2.2)] [⟨true, pgC ps⟩] (.agg [.v (.bool bad), .v (.int .i64 er), .row 0 0 (n + 1) 3]) [2] _ _ rfl (by simp [NdL, NdA]) ?_ ?_ (by simp) ?_
      · simp [FitM, ObLe, LeL, Le, SObj.up, hup, pgC_le]
      · simp [SV.up, upL, Le, LeL]
      · simpa [SV.up, upL, SObj.up, hup] using hk
end Go.Proofs.Ytibefgdjijmncaa
end
section
namespace Go.Proofs.Ytibefgdjijmncaa
open Go.RowKit Sz
set_option maxHeartbeats 4000000
def bkCs : Nat → List Bk → List SV
  | _, [] => []
  | k, b :: bs => .v (.bool b.bad) :: .v (.int .i64 b.er) :: oV k 3 b.pages.length :: bkCs (k + 1) bs
theorem bkCs_len : ∀ (k : Nat) (bs : List Bk), (bkCs k bs).length = bs.length * 3
  | _, [] => rfl
  | k, b :: bs => by simp only [bkCs, List.length_cons, bkCs_len (k + 1) bs]; omega
theorem bkCs_snoc : ∀ (k : Nat) (bs : List Bk) (b : Bk), bkCs k (bs ++ [b]) = bkCs k bs ++ [.v (.bool b.bad), .v (.int .i64 b.er), oV (k + bs.length) 3 b.pages.length]
  | _, [], _ => by simp [bkCs]
  | k, a :: bs, b => by
    simp only [List.cons_append, bkCs, bkCs_snoc (k + 1) bs b, List.length_cons]
    rw [show k + 1 + bs.length = k + (bs.length + 1) by omega]
theorem bkCs_le {g : List Nat} : ∀ (k : Nat) (bs : List Bk), (∀ i, i < bs.length → g[k + i]? = some (k + i)) → LeL g (bkCs k bs) (bkCs k bs)
  | _, [], _ => by simp [bkCs, LeL]
  | k, b :: bs, h => by
    simp only [bkCs, LeL, Le, true_and]
    refine ⟨by rw [o_le]; exact .inr (h 0 (by simp)), bkCs_le (k + 1) bs fun i hi => ?_⟩
    have := h (i + 1) (by simp; omega)
    rwa [show k + 1 + i = k + (i + 1) by omega]
/-- A block's row of pages; of a block without pages, an object of which nothing is known. -/
def pgX (b : Bk) : SObj := if b.pages = [] then ⟨true, [.any, .any, .any]⟩ else ⟨true, pgC b.pages⟩
def pgM (bs : List Bk) : Mem := bs.map pgX
theorem pgM_own (bs : List Bk) : ∀ o ∈ pgM bs, o.own = true := fun o ho => by
  obtain ⟨b, _, rfl⟩ := List.mem_map.1 ho
  unfold pgX
  split <;> rfl
theorem pgM_len (bs : List Bk) : (pgM bs).length = bs.length := by simp [pgM]
theorem FitM_of {g : List Nat} {m : Mem} : ∀ {ks : List Nat} {m' : Mem}, ks.length = m'.length → (∀ (j k : Nat) (o' : SObj), ks[j]? = some k → m'[j]? = some o' → ∃ o, m[k]? = some o ∧ ObLe g o' o) → FitM g m ks m'
  | [], [], _, _ => trivial
  | k :: ks, o' :: m', hl, h => by
    obtain ⟨o, h1, h2⟩ := h 0 k o' rfl rfl
    simp only [FitM, h1]
    exact ⟨h2, FitM_of (by simpa using hl) fun j k o' a b => h (j + 1) k o' (by simpa using a) (by simpa using b)⟩
theorem ob_pg {g : List Nat} {b : Bk} : ObLe g (pgX b) (pgX b) := by
  unfold pgX
  split
  · exact .inr ⟨id, by simp [LeL, Le], trivial⟩
  · exact .inr ⟨id, LeL_plain g (plainL_v _), trivial⟩
def gI (n x : Nat) : List Nat := 0 :: 1 :: 2 :: (4 + n + x + 1) :: List.range' 4 (n + 1)
theorem gI_nd {n x : Nat} : (gI n x).Nodup := by
  unfold gI
  refine List.nodup_cons.2 ⟨?_, List.nodup_cons.2 ⟨?_, List.nodup_cons.2 ⟨?_, List.nodup_cons.2 ⟨?_, List.nodup_range'⟩⟩⟩⟩ <;> simp only [List.mem_cons, List.mem_range'_1, not_or] <;> omega
theorem gI_at {n x i : Nat} (h : i < n + 1) : (gI n x)[4 + i]? = some (4 + i) := by
  unfold gI
  rw [show 4 + i = i + 1 + 1 + 1 + 1 by omega]
  simp only [List.getElem?_cons_succ]
  rw [List.getElem?_range' (by omega)]
  simp; omega
theorem fit15 {bs : List Bk} {b : Bk} {X : Mem} (hX : X = if b.pages = [] then [] else [⟨true, pgC b.pages⟩]) {z rd o3 : SObj} {ge : List SV} (ho3 : ∃ a b c, o3 = ⟨true, [a, b, c]⟩) (hz : ∀ g, ObLe g z z) (hrd : ∀ g, ObLe g rd rd) (hge : ∀ g, LeL g ge ge) :
    FitM (gI bs.length X.length) (z :: rd :: ⟨true, ge ++ [.row (4 + bs.length + X.length + 1) 0 (bs.length + 1) 3]⟩ :: ⟨false, []⟩ :: (pgM bs ++ X ++ [o3] ++ [⟨true, bkCs 4 (bs ++ [b])⟩])) (gI bs.length X.length)
      (z :: rd :: ⟨true, ge ++ [oV 3 3 (bs ++ [b]).length]⟩ :: oO (bkCs 4 (bs ++ [b])) :: pgM (bs ++ [b])) := by
  have hlen := pgM_len bs
  have hg : ∀ (a c : List SV), (∀ g : List Nat, LeL g ge ge) → ∀ g s t, Le g s t → LeL g (ge ++ [s]) (ge ++ [t]) := by
    intro _ _ h g s t hst
    have : ∀ l : List SV, LeL g l l → LeL g (l ++ [s]) (l ++ [t]) := by
      intro l
      induction l with
      | nil => intro _; simp only [List.nil_append, LeL]; exact ⟨hst, trivial⟩
      | cons c l ih => intro hl; simp only [List.cons_append, LeL] at hl ⊢; exact ⟨hl.1, ih hl.2⟩
    exact this ge (h g)
  have hbk : oO (bkCs 4 (bs ++ [b])) = ⟨true, bkCs 4 (bs ++ [b])⟩ := by rw [bkCs_snoc]; exact oO_app
  have e4 : (z :: rd :: (⟨true, ge ++ [.row (4 + bs.length + X.length + 1) 0 (bs.length + 1) 3]⟩ : SObj) :: (⟨false, []⟩ : SObj) :: (pgM bs ++ X ++ [o3] ++ [(⟨true, bkCs 4 (bs ++ [b])⟩ : SObj)]))[4 + bs.length + X.length + 1]? = some ⟨true, bkCs 4 (bs ++ [b])⟩ := by
    rw [show 4 + bs.length + X.length + 1 = (bs.length + X.length + 1) + 1 + 1 + 1 + 1 by omega]
    simp only [List.getElem?_cons_succ]
    rw [List.getElem?_append_right (by simp [hlen]; omega), show bs.length + X.length + 1 - (pgM bs ++ X ++ [o3]).length = 0 by simp [hlen]; omega]
    rfl
  generalize hG : gI bs.length X.length = G
  have hat : ∀ i, i < bs.length + 1 → G[4 + i]? = some (4 + i) := fun i hi => by rw [← hG]; exact gI_at hi
  have h3 : G[3]? = some (4 + bs.length + X.length + 1) := by rw [← hG]; rfl
  conv => arg 3; rw [← hG, gI]
  rw [hbk]
  simp only [FitM, List.getElem?_cons_zero, List.getElem?_cons_succ, e4]
  refine ⟨hz _, hrd _, .inr ⟨id, hg [] [] hge _ _ _ ?_, trivial⟩, .inr ⟨id, bkCs_le 4 _ fun i hi => hat i (by simpa using hi), trivial⟩, ?_⟩
  · rw [List.length_append, List.length_singleton, oV_s]
    simp only [Le, h3]
  · refine FitM_of (by simp [pgM_len]) fun j k o' hk ho => ?_
    have hj : j < bs.length + 1 := by
      have := (List.getElem?_eq_some_iff.1 hk).1
      simpa using this
    rw [List.getElem?_range' (by omega)] at hk
    injection hk with hk
    obtain rfl : k = 4 + j := by omega
    rw [show 4 + j = j + 1 + 1 + 1 + 1 by omega]
    simp only [List.getElem?_cons_succ, List.append_assoc]
    rcases Nat.lt_or_ge j bs.length with hlt | hge2
    · rw [List.getElem?_append_left (by omega)]
      obtain ⟨a, ha⟩ : ∃ a, bs[j]? = some a := ⟨_, List.getElem?_eq_getElem hlt⟩
      have e1 : (pgM bs)[j]? = some (pgX a) := by unfold pgM; rw [List.getElem?_map, ha]; rfl
      have e2 : (pgM (bs ++ [b]))[j]? = some (pgX a) := by unfold pgM; rw [List.getElem?_map, List.getElem?_append_left hlt, ha]; rfl
      rw [e2] at ho
      injection ho with ho
      subst ho
      exact ⟨_, e1, ob_pg⟩
    · obtain rfl : j = bs.length := by omega
      rw [List.getElem?_append_right (by omega), hlen, Nat.sub_self]
      have e2 : (pgM (bs ++ [b]))[bs.length]? = some (pgX b) := by unfold pgM; rw [List.getElem?_map]; simp
      rw [e2] at ho
      injection ho with ho
      subst ho
      by_cases hp : b.pages = []
      · rw [if_pos hp] at hX
        subst hX
        obtain ⟨a1, a2, a3, rfl⟩ := ho3
        refine ⟨_, rfl, ?_⟩
        unfold pgX
        rw [if_pos hp]
        exact .inr ⟨id, by simp [LeL, Le], trivial⟩
      · rw [if_neg hp] at hX
        subst hX
        refine ⟨_, rfl, ?_⟩
        have := @ob_pg G b
        unfold pgX at this ⊢
        rw [if_neg hp] at this ⊢
        exact this
def gS (n : Nat) : List Nat := 0 :: 1 :: 2 :: 3 :: List.range' 4 n
theorem gS_nd {n : Nat} : (gS n).Nodup := by
  unfold gS
  refine List.nodup_cons.2 ⟨?_, List.nodup_cons.2 ⟨?_, List.nodup_cons.2 ⟨?_, List.nodup_cons.2 ⟨?_, List.nodup_range'⟩⟩⟩⟩ <;> simp only [List.mem_cons, List.mem_range'_1, not_or] <;> omega
theorem gS_at {n i : Nat} (h : i < n) : (gS n)[4 + i]? = some (4 + i) := by
  unfold gS
  rw [show 4 + i = i + 1 + 1 + 1 + 1 by omega]
  simp only [List.getElem?_cons_succ]
  rw [List.getElem?_range' (by omega)]
  simp; omega
theorem oO_le {g : List Nat} {cs : List SV} (h : LeL g cs cs) : ObLe g (oO cs) (oO cs) := .inr ⟨id, h, trivial⟩
theorem fit15s {bs : List Bk} {z rd : SObj} {ge : List SV} (hz : ∀ g, ObLe g z z) (hrd : ∀ g, ObLe g rd rd) (hge : ∀ g s, Le g s s → LeL g (ge ++ [s]) (ge ++ [s])) :
    FitM (gS bs.length) (z :: rd :: ⟨true, ge ++ [oV 3 3 bs.length]⟩ :: oO (bkCs 4 bs) :: pgM bs) (gS bs.length)
      (z :: rd :: ⟨true, ge ++ [oV 3 3 bs.length]⟩ :: oO (bkCs 4 bs) :: pgM bs) := by
  generalize hG : gS bs.length = G
  have hat : ∀ i, i < bs.length → G[4 + i]? = some (4 + i) := fun i hi => by rw [← hG]; exact gS_at hi
  have h3 : G[3]? = some 3 := by rw [← hG]; rfl
  conv => arg 3; rw [← hG, gS]
  simp only [FitM, List.getElem?_cons_zero, List.getElem?_cons_succ]
  refine ⟨hz _, hrd _, .inr ⟨id, hge _ _ (by rw [o_le]; exact .inr h3), trivial⟩, oO_le (bkCs_le 4 _ fun i hi => hat i hi), ?_⟩
  refine FitM_of (by simp [pgM_len]) fun j k o' hk ho => ?_
  have hj : j < bs.length := by
    have := (List.getElem?_eq_some_iff.1 hk).1
    simpa using this
  rw [List.getElem?_range' (by omega)] at hk
  injection hk with hk
  obtain rfl : k = 4 + j := by omega
  rw [show 4 + j = j + 1 + 1 + 1 + 1 by omega]
  simp only [List.getElem?_cons_succ]
  refine ⟨o', ho, ?_⟩
  unfold pgM at ho
  rw [List.getElem?_map] at ho
  obtain ⟨a, _, rfl⟩ := Option.map_eq_some_iff.1 ho
  exact ob_pg
theorem blk_own [Inp] {m : Mem} : ∀ (k : Nat) (bs : List Bk), (∀ (i : Nat) (b : Bk), bs[i]? = some b → m[k + i]? = some (pgX b)) → blkS m (bkCs k bs) bs
  | _, [], _ => by simp [bkCs, blkS]
  | k, b :: bs, h => by
    have h0 := h 0 b rfl
    refine ⟨rfl, rfl, ?_, blk_own (k + 1) bs fun i c hc => by rw [show k + 1 + i = k + (i + 1) by omega]; exact h (i + 1) c (by simpa using hc)⟩
    by_cases hp : b.pages = []
    · rw [hp]
      exact sl_0
    · unfold pgX at h0
      rw [if_neg hp, Nat.add_zero] at h0
      have hn : b.pages.length ≠ 0 := fun h => hp (List.length_eq_zero_iff.1 h)
      have hl : (pgC b.pages).length = b.pages.length * 3 := by unfold pgC; rw [List.length_map, rowV_len Pg.len]
      unfold oV
      rw [if_neg hn, sl_row, h0, sl_k]
      simp only [Nat.zero_add, List.drop_zero, hl, Nat.le_refl, if_true]
      rw [List.take_of_length_le (by rw [hl]; exact Nat.le_refl _)]
      rfl
theorem bkCs_le2 {g : List Nat} : ∀ (k k' : Nat) (bs : List Bk), (∀ i, i < bs.length → g[k' + i]? = some (k + i)) → LeL g (bkCs k' bs) (bkCs k bs)
  | _, _, [], _ => by simp [bkCs, LeL]
  | k, k', b :: bs, h => by
    simp only [bkCs, LeL, Le, true_and]
    refine ⟨by rw [o_le]; exact .inr (h 0 (by simp)), bkCs_le2 (k + 1) (k' + 1) bs fun i hi => ?_⟩
    have := h (i + 1) (by simp; omega)
    rwa [show k' + 1 + i = k' + (i + 1) by omega, show k + 1 + i = k + (i + 1) by omega]
theorem bkCs_up {d : Nat} : ∀ (k : Nat) (bs : List Bk), upL d (bkCs k bs) = bkCs (d + k) bs
  | _, [] => by simp [bkCs, upL]
  | k, b :: bs => by
    simp only [bkCs, upL, SV.up, o_up, bkCs_up (k + 1) bs]
    rw [show d + (k + 1) = d + k + 1 by omega]
theorem pgX_up {d : Nat} {b : Bk} : (pgX b).up d = pgX b := by
  unfold pgX
  split
  · simp [SObj.up, upL, SV.up]
  · simp only [SObj.up]
    rw [show upL d (pgC b.pages) = pgC b.pages from upL_v d _]
theorem pgM_up {d : Nat} {bs : List Bk} : (pgM bs).map (SObj.up d) = pgM bs := by
  unfold pgM
  rw [List.map_map]
  exact List.map_congr_left fun b _ => pgX_up
theorem pic_own [Inp] {m : Mem} {g : Ge} {bs : List Bk} {j : Nat} (h0 : m[j]? = some ⟨true, bkCs (j + 1) bs⟩) (h1 : ∀ (i : Nat) (b : Bk), bs[i]? = some b → m[j + 1 + i]? = some (pgX b)) (hne : bs ≠ []) : picS m (.agg (g.sv ++ [oV j 3 bs.length])) g bs := by
  refine ⟨oV j 3 bs.length, bkCs (j + 1) bs, rfl, ?_, blk_own _ _ h1⟩
  have hn : bs.length ≠ 0 := fun h => hne (List.length_eq_zero_iff.1 h)
  have hl := bkCs_len (j + 1) bs
  unfold oV
  rw [if_neg hn, sl_row, h0, sl_k]
  simp only [Nat.zero_add, List.drop_zero, hl, Nat.le_refl, if_true]
  rw [List.take_of_length_le (by rw [hl]; exact Nat.le_refl _)]
theorem fit_tail (bs : List Bk) (hbo : oO (bkCs 4 bs) = ⟨true, bkCs 4 bs⟩) {a r p : SObj} : FitM (3 :: List.range' 4 bs.length) (a :: r :: p :: oO (bkCs 4 bs) :: pgM bs) (3 :: List.range' 4 bs.length) ((⟨true, bkCs 1 bs⟩ : SObj) :: pgM bs) := by
  rw [hbo]
  generalize hG : 3 :: List.range' 4 bs.length = G
  have hat : ∀ i, i < bs.length → G[1 + i]? = some (4 + i) := fun i hi => by
    rw [← hG, Nat.add_comm 1 i, List.getElem?_cons_succ, List.getElem?_range' hi]
    simp
  conv => arg 3; rw [← hG]
  simp only [FitM, List.getElem?_cons_zero, List.getElem?_cons_succ]
  refine ⟨.inr ⟨id, bkCs_le2 4 1 bs hat, trivial⟩, ?_⟩
  refine FitM_of (by simp [pgM_len]) fun j k o' hk ho => ?_
  have hj : j < bs.length := by
    have := (List.getElem?_eq_some_iff.1 hk).1
    simpa using this
  rw [List.getElem?_range' (by omega)] at hk
  injection hk with hk
  obtain rfl : k = 4 + j := by omega
  rw [show 4 + j = j + 1 + 1 + 1 + 1 by omega]
  simp only [List.getElem?_cons_succ]
  refine ⟨o', ho, ?_⟩
  unfold pgM at ho
  rw [List.getElem?_map] at ho
  obtain ⟨a, _, rfl⟩ := Option.map_eq_some_iff.1 ho
  exact ob_pg
end Go.Proofs.Ytibefgdjijmncaa
end
section
namespace Go.Proofs.Ytibefgdjijmncaa.Sz
open Go.RowKit
def CapK (s : SV) (u : Value) : Prop := ∀ k o n z : Nat, s = .row k o n z → ∃ p c, u = .slice p n c ∧ n ≤ c
theorem capL_of {r : List Loc} : ∀ {ss : List SV} {us : List Value}, SV.IsL r ss us → KL CapK ss us
  | [], us, h => by simpa only [SV.IsL, KL] using h
  | s :: ss, us, h => by
    simp only [SV.IsL] at h
    obtain ⟨u, t, rfl, h1, h2⟩ := h
    refine ⟨u, t, rfl, fun k o n z hs => ?_, capL_of h2⟩
    subst hs
    simp only [SV.Is] at h1
    obtain ⟨l, cap, _, hc, _, rfl⟩ := h1
    exact ⟨_, _, rfl, hc⟩
section
variable {P : Program} {f : FuncId} {eff : List FuncId} {N : Nat} {x : XC} {rs : List XR}
theorem Contract.readFC [I : Inp] (hF : FnX P f eff N x rs) {G : Inp → List CEntry} (hG : ∀ J, @GOk J P (G J)) (tr : Trans)
    (body : ∀ args m k, tr args m k → args.length ≤ N ∧ ∀ (J : Inp), J.keep = 0 → ∀ (us : List Value), KnowsL I J m args us → KL CapK args us → @evX J P N eff (G J) x (slots (argSlots 0 (us.map SV.of))) [] (fun ex e m' => EndsX ex ∧ evR rs e m' fun s => ∃ (g2 : List Nat) (s2 : SV) (m2 : Mem), g2.Nodup ∧ FitM g2 m' g2 m2 ∧ (∀ o ∈ m2, o.own = true) ∧ Le g2 s2 s ∧ k (s2.up m.length) (m ++ m2.map (SObj.up m.length)))) : Contract P f true tr := by
  refine ⟨hF.enter, fun args m k base w0 W r vs ht hst ha => ?_⟩
  obtain ⟨hlen, hev⟩ := body args m k ht
  have hk := knowsL_of hst ha
  have hvl := IsL_len ha
  refine (@FnX.calls P f eff N x rs (G (inpOf W)) (inpOf W) hF (hG (inpOf W)) _ _ _ _ _ _ _ (St.inpOf W) (isL_of vs) (by simp; omega) (fun s m' => ∃ (g2 : List Nat) (s2 : SV) (m2 : Mem), g2.Nodup ∧ FitM g2 m' g2 m2 ∧ (∀ o ∈ m2, o.own = true) ∧ Le g2 s2 s ∧ k (s2.up m.length) (m ++ m2.map (SObj.up m.length))) (hev (inpOf W) rfl vs hk (capL_of ha))).mono ?_
  rintro e W1 ⟨s, m', r', u, ⟨g2, s2, m2, hn2, hm2, hown, hle2, hk⟩, rfl, hst1, hs, _⟩
  have hb : Below W.heap.size W W1 := (@St.low (inpOf W) _ _ _ _ _ hst1).below
  obtain ⟨r2, hst2, hr2, _⟩ := @fit_sound (inpOf W) 0 _ (fun _ => .any) _ _ [] _ _ _ _ #[] (NdL_of hn2) hm2 hst1
  have hj := St.join2 I (inpOf W) hst hst2 hown
  rw [← hst.len] at hk
  exact ⟨_, _, r2, u, hk, rfl, hj, up_is (Le.is hr2 hle2 hs), fun _ => Same.below hst hb⟩
end
end Go.Proofs.Ytibefgdjijmncaa.Sz
end
