/- Layer 45 (foreign): steps signed. By symbolic walks. -/
import Derived.Test.YtdbjkklhgfhgnaaGreatFoC
namespace Go.Proofs.YtdbjkklhgfhgnaaGreat
open Go.RowKit Sz
set_option linter.unusedVariables false
set_option linter.unusedSimpArgs false
set_option maxHeartbeats 4000000
set_option maxRecDepth 20000
def c110 [Inp] : Trans := fun args m k => match args with
  | [.v (.slice p n c)] => ∃ ls : List Stp, inpL p (n * 8) = some (rowV Stp.cs ls) ∧ ls.length = n ∧ n ≤ 1000 ∧ (if p.isNone = true then k (.v (.slice none 0 0)) m else k (.row m.length 0 n 8) (m ++ [⟨true, sL ls⟩]))
  | _ => False
theorem c110_ok [I : Inp] : Contract Tryz.prog 110 true c110 := by
  refine .readF fn110 (G := fun _ => []) (fun J => @g0 J _) _ fun args m k h => ?_
  unfold c110 at h
  split at h
  case h_2 => exact h.elim
  rename_i p n c
  obtain ⟨ls, hin0, rfl, hn, hk⟩ := h
  refine ⟨by simp, fun J hJ us hus => ?_⟩
  obtain ⟨u, t1, rfl, hk1, rfl⟩ := hus
  have hsl : @slOf I m 8 (.v (.slice p ls.length c)) = some (ls.length, (rowV Stp.cs ls).map .v) := by
    simp only [slOf, hin0, Option.map_some]
  obtain ⟨p', c', hu, hin⟩ := hk1.2.2 8 _ _ hsl
  obtain rfl := hk1.1 _ rfl
  injection hu with e1 e2 e3
  subst e1 e3
  cases hp : p.isNone with
  | true =>
    rw [if_pos hp] at hk
    simp (maxSteps := 2000000) -implicitDefEqProofs only [↓x110, ↓r110, hp, Sz.s_alt, Sz.s_alt20, Sz.s_alt2t, Sz.s_alt2f, ↓Sz.s_loopi, ↓Sz.v_pq, ↓Sz.PRE, Sz.POST, Sz.CORE, Nat.reduceDiv, Nat.reduceMod, Int.reduceLT, Int.reduceLE, Int.reduceToNat, Int.reduceAdd, ↓reduceIte, Nat.reduceEqDiff, Nat.reduceAdd, Nat.reduceMul, Nat.reduceSub, Nat.reduceLeDiff, Nat.reduceLT, reduceCtorEq, if_true, eq_self, forall_const, implies_true]
    refine ⟨[], .v (.slice none 0 0), [], by simp, trivial, by simp, by simp only [Le], ?_⟩
    simpa [SV.up] using hk
  | false =>
    rw [if_neg (by rw [hp]; simp)] at hk
    have l1 := sL_len ls
    have l2 := sL_one ls
    have fold : (rowV Stp.cs ls).map SV.v = sL ls := rfl
    have hl : List.take (ls.length * 8) (sL ls) = sL ls := List.take_of_length_le (by rw [l1]; exact Nat.le_refl _)
    simp (maxSteps := 2000000) -implicitDefEqProofs only [↓x110, ↓r110, hp, hin, fold, l1, l2, Sz.s_alt, Sz.s_alt20, Sz.s_alt2t, Sz.s_alt2f, ↓Sz.s_loopi, ↓Sz.v_pq, ↓Sz.PRE, Sz.POST, Sz.CORE, Nat.reduceDiv, Nat.reduceMod, Int.reduceLT, Int.reduceLE, Int.reduceToNat, Int.reduceAdd, ↓reduceIte, Nat.reduceEqDiff, Nat.reduceAdd, Nat.reduceMul, Nat.reduceSub, Nat.reduceLeDiff, Nat.reduceLT, reduceCtorEq, if_true, eq_self, forall_const, implies_true]
    have fin : ∀ (m' : Mem) (j : Nat), m'[j]? = some ⟨true, sL ls⟩ → ∃ (g2 : List Nat) (s2 : SV) (m2 : Mem), g2.Nodup ∧ FitM g2 m' g2 m2 ∧ (∀ o ∈ m2, o.own = true) ∧ Le g2 s2 (.row j 0 ls.length 8) ∧ k (s2.up m.length) (m ++ m2.map (SObj.up m.length)) := fun m' j hm =>
      ⟨[j], .row 0 0 ls.length 8, [⟨true, sL ls⟩], by simp, by simp [FitM, ObLe, sL_le, hm], by simp, by simp only [Le]; rfl, by simpa [SV.up, SObj.up, sL_up] using hk⟩
    split
    · rename_i h0
      have e : ls = [] := List.length_eq_zero_iff.1 h0
      subst e
      exact fin _ 0 rfl
    · rename_i h0
      exact ⟨⟨by omega, by unfold maxLen; omega, by omega⟩, fin _ 1 rfl⟩
def c44 [Inp] : Trans := fun args m k => match args with
  | [.v (.slice p n c)] => ∃ ls : List Stp, inpL p (n * 8) = some (rowV Stp.cs ls) ∧ ls.length = n ∧ n ≤ 1000 ∧ (∀ s ∈ ls, s.data.size ≤ 140737488355328) ∧ (if p.isNone = true then k (.v (.slice none 0 0)) m else k (.row m.length 0 n 8) (m ++ [⟨true, sL (ls.map sgS)⟩]))
  | _ => False
def G44 [Inp] : List CEntry := [⟨110, true, c110⟩, ⟨111, true, c111⟩]
theorem g44 [Inp] : GOk Tryz.prog G44 := GOk.cons c110_ok (GOk.cons c111_ok (g0 _))
theorem c44_ok [I : Inp] : Contract Tryz.prog 44 true c44 := by
  refine .readF fn44 (G := fun J => @G44 J) (fun J => @g44 J) _ fun args m k h => ?_
  unfold c44 at h
  split at h
  case h_2 => exact h.elim
  rename_i p n c
  obtain ⟨ls, hin0, rfl, hn, hsz, hk⟩ := h
  refine ⟨by simp, fun J hJ us hus => ?_⟩
  obtain ⟨u, t1, rfl, hk1, rfl⟩ := hus
  have hsl : @slOf I m 8 (.v (.slice p ls.length c)) = some (ls.length, (rowV Stp.cs ls).map .v) := by
    simp only [slOf, hin0, Option.map_some]
  obtain ⟨p', c', hu, hin⟩ := hk1.2.2 8 _ _ hsl
  obtain rfl := hk1.1 _ rfl
  injection hu with e1 e2 e3
  subst e1 e3
  simp (maxSteps := 2000000) -implicitDefEqProofs only [↓x44, ↓r44, ↓G44, ↓c110, Sz.s_alt, Sz.s_alt20, Sz.s_alt2t, Sz.s_alt2f, ↓Sz.s_loopi, ↓Sz.v_pq, ↓Sz.PRE, Sz.POST, Sz.CORE, Nat.reduceDiv, Nat.reduceMod, Int.reduceLT, Int.reduceLE, Int.reduceToNat, Int.reduceAdd, ↓reduceIte, Nat.reduceEqDiff, Nat.reduceAdd, Nat.reduceMul, Nat.reduceSub, Nat.reduceLeDiff, Nat.reduceLT, reduceCtorEq, if_true, eq_self, forall_const, implies_true]
  refine ⟨ls, hin, rfl, hn, ?_⟩
  cases hp : p.isNone with
  | true =>
    rw [if_pos hp] at hk
    have h0 : ls.length = 0 := by
      rcases Nat.eq_zero_or_pos ls.length with h | h
      · exact h
      · have := inpL_isSome hin (by omega)
        cases p <;> simp_all
    simp (maxSteps := 2000000) -implicitDefEqProofs only [Sz.s_alt, Sz.s_alt20, Sz.s_alt2t, Sz.s_alt2f, ↓Sz.s_loopi, ↓Sz.v_pq, ↓Sz.PRE, Sz.POST, Sz.CORE, Nat.reduceDiv, Nat.reduceMod, Int.reduceLT, Int.reduceLE, Int.reduceToNat, Int.reduceAdd, ↓reduceIte, Nat.reduceEqDiff, Nat.reduceAdd, Nat.reduceMul, Nat.reduceSub, Nat.reduceLeDiff, Nat.reduceLT, reduceCtorEq, if_true, eq_self, forall_const, implies_true]
    refine TXi_of (TX_count (@g44 J) 0 (fun x => [(3, .v (.slice none 0 0)), (10, .v (.int .i64 0)), (11, .v (.int .i64 (x : Int)))]) (fun _ => []) (fun x => True) trivial ⟨[], by simp [Sz.NdL, Sz.NdA, Sz.oO_cells, Sz.oO_own, Sz.iL_nil], by simp only [FitM, ObLe, LeL, Le, List.cons_append, List.nil_append] <;> (try (simp (maxSteps := 2000000) -implicitDefEqProofs only [Sz.s_alt, Sz.s_alt20, Sz.s_alt2t, Sz.s_alt2f, ↓Sz.s_loopi, ↓Sz.v_pq, ↓Sz.PRE, Sz.POST, Sz.CORE, Nat.reduceDiv, Nat.reduceMod, Int.reduceLT, Int.reduceLE, Int.reduceToNat, Int.reduceAdd, ↓reduceIte, Nat.reduceEqDiff, Nat.reduceAdd, Nat.reduceMul, Nat.reduceSub, Nat.reduceLeDiff, Nat.reduceLT, reduceCtorEq, if_true, eq_self, forall_const, implies_true])) <;> (try simp), by simp only [FitE, Le, LeL, List.cons_append, List.nil_append] <;> (try (simp (maxSteps := 2000000) -implicitDefEqProofs only [Sz.s_alt, Sz.s_alt20, Sz.s_alt2t, Sz.s_alt2f, ↓Sz.s_loopi, ↓Sz.v_pq, ↓Sz.PRE, Sz.POST, Sz.CORE, Nat.reduceDiv, Nat.reduceMod, Int.reduceLT, Int.reduceLE, Int.reduceToNat, Int.reduceAdd, ↓reduceIte, Nat.reduceEqDiff, Nat.reduceAdd, Nat.reduceMul, Nat.reduceSub, Nat.reduceLeDiff, Nat.reduceLT, reduceCtorEq, if_true, eq_self, forall_const, implies_true])) <;> (try simp only [Sz.Le, Sz.LeL, List.getElem?_cons_zero, List.getElem?_cons_succ]) <;> (try simp), keep0 hJ⟩ (fun x hx _ => by omega) ?_)
    intro _
    simp (maxSteps := 2000000) -implicitDefEqProofs only [Sz.s_alt, Sz.s_alt20, Sz.s_alt2t, Sz.s_alt2f, ↓Sz.s_loopi, ↓Sz.v_pq, ↓Sz.PRE, Sz.POST, Sz.CORE, Nat.reduceDiv, Nat.reduceMod, Int.reduceLT, Int.reduceLE, Int.reduceToNat, Int.reduceAdd, ↓reduceIte, Nat.reduceEqDiff, Nat.reduceAdd, Nat.reduceMul, Nat.reduceSub, Nat.reduceLeDiff, Nat.reduceLT, reduceCtorEq, if_true, eq_self, forall_const, implies_true]
    refine ⟨[], .v (.slice none 0 0), [], by simp, trivial, by simp, by simp only [Le], ?_⟩
    simpa [SV.up] using hk
  | false =>
    rw [if_neg (by rw [hp]; simp)] at hk
    have m0 : mix ls 0 = ls := by simp [mix]
    simp (maxSteps := 2000000) -implicitDefEqProofs only [Sz.s_alt, Sz.s_alt20, Sz.s_alt2t, Sz.s_alt2f, ↓Sz.s_loopi, ↓Sz.v_pq, ↓Sz.PRE, Sz.POST, Sz.CORE, Nat.reduceDiv, Nat.reduceMod, Int.reduceLT, Int.reduceLE, Int.reduceToNat, Int.reduceAdd, ↓reduceIte, Nat.reduceEqDiff, Nat.reduceAdd, Nat.reduceMul, Nat.reduceSub, Nat.reduceLeDiff, Nat.reduceLT, reduceCtorEq, if_true, eq_self, forall_const, implies_true]
    refine TXi_of (TX_count (@g44 J) ls.length (fun x => [(3, .row 0 0 ls.length 8), (9, .row 0 0 ls.length 8), (10, .v (.int .i64 ls.length)), (11, .v (.int .i64 (x : Int)))]) (fun x => [⟨true, sL (mix ls x)⟩]) (fun x => True) trivial ?_ ?_ ?_)
    · rw [m0]
      exact ⟨[0], by simp [Sz.NdL, Sz.NdA, Sz.oO_cells, Sz.oO_own, Sz.iL_nil], by simp only [FitM, ObLe, LeL, Le, List.cons_append, List.nil_append] <;> (try (simp (maxSteps := 2000000) -implicitDefEqProofs only [sL_le, Sz.s_alt, Sz.s_alt20, Sz.s_alt2t, Sz.s_alt2f, ↓Sz.s_loopi, ↓Sz.v_pq, ↓Sz.PRE, Sz.POST, Sz.CORE, Nat.reduceDiv, Nat.reduceMod, Int.reduceLT, Int.reduceLE, Int.reduceToNat, Int.reduceAdd, ↓reduceIte, Nat.reduceEqDiff, Nat.reduceAdd, Nat.reduceMul, Nat.reduceSub, Nat.reduceLeDiff, Nat.reduceLT, reduceCtorEq, if_true, eq_self, forall_const, implies_true])) <;> (try simp), by simp only [FitE, Le, LeL, List.cons_append, List.nil_append] <;> (try (simp (maxSteps := 2000000) -implicitDefEqProofs only [sL_le, Sz.s_alt, Sz.s_alt20, Sz.s_alt2t, Sz.s_alt2f, ↓Sz.s_loopi, ↓Sz.v_pq, ↓Sz.PRE, Sz.POST, Sz.CORE, Nat.reduceDiv, Nat.reduceMod, Int.reduceLT, Int.reduceLE, Int.reduceToNat, Int.reduceAdd, ↓reduceIte, Nat.reduceEqDiff, Nat.reduceAdd, Nat.reduceMul, Nat.reduceSub, Nat.reduceLeDiff, Nat.reduceLT, reduceCtorEq, if_true, eq_self, forall_const, implies_true])) <;> (try simp only [Sz.Le, Sz.LeL, List.getElem?_cons_zero, List.getElem?_cons_succ]) <;> (try simp), keep0 hJ⟩
    · intro x hx _
      obtain ⟨d, hd⟩ : ∃ d, ls[x]? = some d := ⟨_, List.getElem?_eq_getElem hx⟩
      have hds := hsz d (List.mem_of_getElem? hd)
      have i0 : (0 : Int) ≤ (x : Int) := by omega
      have i1 : (x : Int) < (ls.length : Int) := by omega
      have w1 : IntKind.i64.wrap ((x : Int) + 1) = (x : Int) + 1 := Sz.w_64 (by omega) (by omega)
      have q1 := sL_len (mix ls x)
      rw [mix_len ls x (by omega)] at q1
      have q2 : ((sL (mix ls x)).drop (x * 8)).take 8 = [.v (.int .i64 d.kind), .v (.int .i64 d.tenant), .v (.int .i64 d.other), .v (.int .i64 d.a), .v (.int .i64 d.b), .v (.int .i64 d.op), .v (.int .i64 d.place), .v (.string d.data)] := sL_get (mix_get hd)
      have q3 := fun dd => sL_over (mix_get hd) dd
      have q4 := mix_step hd
      have q5 : x * 8 + 8 ≤ ls.length * 8 := by omega
      have q6 : x * 8 + 5 + 2 + 1 ≤ ls.length * 8 := by omega
      have q7 : x * 8 + 5 + 2 = x * 8 + 7 := by omega
      have same : sgS d = d → sL (mix ls (x + 1)) = sL (mix ls x) := fun h => by
        rw [q4, h]
        congr 1
        apply List.ext_getElem?
        intro i
        rw [List.getElem?_set]
        split
        · rename_i hi
          subst hi
          split
          · exact (mix_get hd).symm
          · rename_i hlt
            rw [List.getElem?_eq_none (by omega)]
        · rfl
      have hsg : ∀ b, (wrF d && inF d) = b → sgS d = if b = true then { d with data := (sgD d.tenant d.data).extract 0 (min (d.data.size + 1) 16) } else d := fun b hb => by unfold sgS; rw [hb]
      simp (maxSteps := 2000000) -implicitDefEqProofs only [i0, i1, w1, q1, q2, q5, ↓G44, ↓c111, Sz.s_alt, Sz.s_alt20, Sz.s_alt2t, Sz.s_alt2f, ↓Sz.s_loopi, ↓Sz.v_pq, ↓Sz.PRE, Sz.POST, Sz.CORE, Nat.reduceDiv, Nat.reduceMod, Int.reduceLT, Int.reduceLE, Int.reduceToNat, Int.reduceAdd, ↓reduceIte, Nat.reduceEqDiff, Nat.reduceAdd, Nat.reduceMul, Nat.reduceSub, Nat.reduceLeDiff, Nat.reduceLT, reduceCtorEq, if_true, eq_self, forall_const, implies_true]
      refine ⟨d, rfl, ?_⟩
      cases hw : wrF d with
      | false =>
        have e := same (by rw [hsg false (by rw [hw]; rfl)]; rfl)
        simp (maxSteps := 2000000) -implicitDefEqProofs only [w1, Sz.s_alt, Sz.s_alt20, Sz.s_alt2t, Sz.s_alt2f, ↓Sz.s_loopi, ↓Sz.v_pq, ↓Sz.PRE, Sz.POST, Sz.CORE, Nat.reduceDiv, Nat.reduceMod, Int.reduceLT, Int.reduceLE, Int.reduceToNat, Int.reduceAdd, ↓reduceIte, Nat.reduceEqDiff, Nat.reduceAdd, Nat.reduceMul, Nat.reduceSub, Nat.reduceLeDiff, Nat.reduceLT, reduceCtorEq, if_true, eq_self, forall_const, implies_true]
        rw [e]
        exact ⟨[0], by simp [Sz.NdL, Sz.NdA, Sz.oO_cells, Sz.oO_own, Sz.iL_nil], by simp only [FitM, ObLe, LeL, Le, List.cons_append, List.nil_append] <;> (try (simp (maxSteps := 2000000) -implicitDefEqProofs only [sL_le, Sz.s_alt, Sz.s_alt20, Sz.s_alt2t, Sz.s_alt2f, ↓Sz.s_loopi, ↓Sz.v_pq, ↓Sz.PRE, Sz.POST, Sz.CORE, Nat.reduceDiv, Nat.reduceMod, Int.reduceLT, Int.reduceLE, Int.reduceToNat, Int.reduceAdd, ↓reduceIte, Nat.reduceEqDiff, Nat.reduceAdd, Nat.reduceMul, Nat.reduceSub, Nat.reduceLeDiff, Nat.reduceLT, reduceCtorEq, if_true, eq_self, forall_const, implies_true])) <;> (try simp), by simp only [FitE, Le, LeL, List.cons_append, List.nil_append] <;> (try (simp (maxSteps := 2000000) -implicitDefEqProofs only [sL_le, Sz.s_alt, Sz.s_alt20, Sz.s_alt2t, Sz.s_alt2f, ↓Sz.s_loopi, ↓Sz.v_pq, ↓Sz.PRE, Sz.POST, Sz.CORE, Nat.reduceDiv, Nat.reduceMod, Int.reduceLT, Int.reduceLE, Int.reduceToNat, Int.reduceAdd, ↓reduceIte, Nat.reduceEqDiff, Nat.reduceAdd, Nat.reduceMul, Nat.reduceSub, Nat.reduceLeDiff, Nat.reduceLT, reduceCtorEq, if_true, eq_self, forall_const, implies_true])) <;> (try simp only [Sz.Le, Sz.LeL, List.getElem?_cons_zero, List.getElem?_cons_succ]) <;> (try simp), keep0 hJ⟩
      | true =>
        cases hi : inF d with
        | false =>
          have e := same (by rw [hsg false (by rw [hw, hi]; rfl)]; rfl)
          unfold inF at hi
          by_cases h0 : 0 ≤ d.tenant
          · have h4 : ¬ d.tenant < 4 := fun h4 => by simp [h0, h4] at hi
            simp (maxSteps := 2000000) -implicitDefEqProofs only [w1, h0, h4, ge_iff_le, Sz.s_alt, Sz.s_alt20, Sz.s_alt2t, Sz.s_alt2f, ↓Sz.s_loopi, ↓Sz.v_pq, ↓Sz.PRE, Sz.POST, Sz.CORE, Nat.reduceDiv, Nat.reduceMod, Int.reduceLT, Int.reduceLE, Int.reduceToNat, Int.reduceAdd, ↓reduceIte, Nat.reduceEqDiff, Nat.reduceAdd, Nat.reduceMul, Nat.reduceSub, Nat.reduceLeDiff, Nat.reduceLT, reduceCtorEq, if_true, eq_self, forall_const, implies_true]
            rw [e]
            exact ⟨[0], by simp [Sz.NdL, Sz.NdA, Sz.oO_cells, Sz.oO_own, Sz.iL_nil], by simp only [FitM, ObLe, LeL, Le, List.cons_append, List.nil_append] <;> (try (simp (maxSteps := 2000000) -implicitDefEqProofs only [sL_le, Sz.s_alt, Sz.s_alt20, Sz.s_alt2t, Sz.s_alt2f, ↓Sz.s_loopi, ↓Sz.v_pq, ↓Sz.PRE, Sz.POST, Sz.CORE, Nat.reduceDiv, Nat.reduceMod, Int.reduceLT, Int.reduceLE, Int.reduceToNat, Int.reduceAdd, ↓reduceIte, Nat.reduceEqDiff, Nat.reduceAdd, Nat.reduceMul, Nat.reduceSub, Nat.reduceLeDiff, Nat.reduceLT, reduceCtorEq, if_true, eq_self, forall_const, implies_true])) <;> (try simp), by simp only [FitE, Le, LeL, List.cons_append, List.nil_append] <;> (try (simp (maxSteps := 2000000) -implicitDefEqProofs only [sL_le, Sz.s_alt, Sz.s_alt20, Sz.s_alt2t, Sz.s_alt2f, ↓Sz.s_loopi, ↓Sz.v_pq, ↓Sz.PRE, Sz.POST, Sz.CORE, Nat.reduceDiv, Nat.reduceMod, Int.reduceLT, Int.reduceLE, Int.reduceToNat, Int.reduceAdd, ↓reduceIte, Nat.reduceEqDiff, Nat.reduceAdd, Nat.reduceMul, Nat.reduceSub, Nat.reduceLeDiff, Nat.reduceLT, reduceCtorEq, if_true, eq_self, forall_const, implies_true])) <;> (try simp only [Sz.Le, Sz.LeL, List.getElem?_cons_zero, List.getElem?_cons_succ]) <;> (try simp), keep0 hJ⟩
          · simp (maxSteps := 2000000) -implicitDefEqProofs only [w1, h0, ge_iff_le, Sz.s_alt, Sz.s_alt20, Sz.s_alt2t, Sz.s_alt2f, ↓Sz.s_loopi, ↓Sz.v_pq, ↓Sz.PRE, Sz.POST, Sz.CORE, Nat.reduceDiv, Nat.reduceMod, Int.reduceLT, Int.reduceLE, Int.reduceToNat, Int.reduceAdd, ↓reduceIte, Nat.reduceEqDiff, Nat.reduceAdd, Nat.reduceMul, Nat.reduceSub, Nat.reduceLeDiff, Nat.reduceLT, reduceCtorEq, if_true, eq_self, forall_const, implies_true]
            rw [e]
            exact ⟨[0], by simp [Sz.NdL, Sz.NdA, Sz.oO_cells, Sz.oO_own, Sz.iL_nil], by simp only [FitM, ObLe, LeL, Le, List.cons_append, List.nil_append] <;> (try (simp (maxSteps := 2000000) -implicitDefEqProofs only [sL_le, Sz.s_alt, Sz.s_alt20, Sz.s_alt2t, Sz.s_alt2f, ↓Sz.s_loopi, ↓Sz.v_pq, ↓Sz.PRE, Sz.POST, Sz.CORE, Nat.reduceDiv, Nat.reduceMod, Int.reduceLT, Int.reduceLE, Int.reduceToNat, Int.reduceAdd, ↓reduceIte, Nat.reduceEqDiff, Nat.reduceAdd, Nat.reduceMul, Nat.reduceSub, Nat.reduceLeDiff, Nat.reduceLT, reduceCtorEq, if_true, eq_self, forall_const, implies_true])) <;> (try simp), by simp only [FitE, Le, LeL, List.cons_append, List.nil_append] <;> (try (simp (maxSteps := 2000000) -implicitDefEqProofs only [sL_le, Sz.s_alt, Sz.s_alt20, Sz.s_alt2t, Sz.s_alt2f, ↓Sz.s_loopi, ↓Sz.v_pq, ↓Sz.PRE, Sz.POST, Sz.CORE, Nat.reduceDiv, Nat.reduceMod, Int.reduceLT, Int.reduceLE, Int.reduceToNat, Int.reduceAdd, ↓reduceIte, Nat.reduceEqDiff, Nat.reduceAdd, Nat.reduceMul, Nat.reduceSub, Nat.reduceLeDiff, Nat.reduceLT, reduceCtorEq, if_true, eq_self, forall_const, implies_true])) <;> (try simp only [Sz.Le, Sz.LeL, List.getElem?_cons_zero, List.getElem?_cons_succ]) <;> (try simp), keep0 hJ⟩
        | true =>
          have hsg2 := hsg true (by rw [hw, hi]; rfl)
          unfold inF at hi
          simp only [Bool.and_eq_true, decide_eq_true_eq] at hi
          obtain ⟨h0, h4⟩ := hi
          have v1 : IntKind.i64.wrap (65 + d.tenant) = 65 + d.tenant := Sz.w_64 (by omega) (by omega)
          have v2 : IntKind.u8.wrap (65 + d.tenant) = 65 + d.tenant := by simp [IntKind.wrap, IntKind.bits, IntKind.signed]; omega
          have bv : bytesV [SV.v (.int .u8 (65 + d.tenant))] = some [UInt8.ofNat (65 + d.tenant).toNat] := rfl
          have hA : strOf [UInt8.ofNat (65 + d.tenant).toNat] ++ d.data = sgD d.tenant d.data := rfl
          have hB : (strOf [UInt8.ofNat (65 + d.tenant).toNat]).size = 1 := rfl
          have hC := sg_size d.tenant d.data
          obtain ⟨q, hq⟩ : ∃ q, q = d.data.size + 1 := ⟨_, rfl⟩
          have hD : (sgD d.tenant d.data).size = q := by rw [hC, hq]
          have hE : ((1 + d.data.size : Nat) : Int) ≤ 9223372036854775807 := by omega
          rw [if_pos rfl, ← hq] at hsg2
          have q8 : sL (mix ls (x + 1)) = over (sL (mix ls x)) (x * 8 + 7) [.v (.string ((sgD d.tenant d.data).extract 0 (min q 16)))] := by rw [q4, hsg2, q3]
          rw [q8]
          clear q8 hsg2 hC
          have hle : ∀ (g : List Nat) (dd : ByteArray), LeL g (over (sL (mix ls x)) (x * 8 + 7) [.v (.string dd)]) (over (sL (mix ls x)) (x * 8 + 7) [.v (.string dd)]) := fun g dd => by rw [q3]; exact sL_le g _
          generalize sgD d.tenant d.data = D at hA hD
          simp (maxSteps := 2000000) -implicitDefEqProofs only [w1, h0, h4, ge_iff_le, v1, v2, bv, hA, hB, hD, hE, Sz.s_alt, Sz.s_alt20, Sz.s_alt2t, Sz.s_alt2f, ↓Sz.s_loopi, ↓Sz.v_pq, ↓Sz.PRE, Sz.POST, Sz.CORE, Nat.reduceDiv, Nat.reduceMod, Int.reduceLT, Int.reduceLE, Int.reduceToNat, Int.reduceAdd, ↓reduceIte, Nat.reduceEqDiff, Nat.reduceAdd, Nat.reduceMul, Nat.reduceSub, Nat.reduceLeDiff, Nat.reduceLT, reduceCtorEq, if_true, eq_self, forall_const, implies_true]
          by_cases h16 : (16 : Int) < (q : Int)
          · have hm : min q 16 = 16 := by omega
            have hn : 16 ≤ q := by omega
            rw [hm]
            simp (maxSteps := 2000000) -implicitDefEqProofs only [h16, hD, hn, Sz.s_alt, Sz.s_alt20, Sz.s_alt2t, Sz.s_alt2f, ↓Sz.s_loopi, ↓Sz.v_pq, ↓Sz.PRE, Sz.POST, Sz.CORE, Nat.reduceDiv, Nat.reduceMod, Int.reduceLT, Int.reduceLE, Int.reduceToNat, Int.reduceAdd, ↓reduceIte, Nat.reduceEqDiff, Nat.reduceAdd, Nat.reduceMul, Nat.reduceSub, Nat.reduceLeDiff, Nat.reduceLT, reduceCtorEq, if_true, eq_self, forall_const, implies_true]
            rw [q1, q7]
            exact ⟨by omega, ⟨[0], by simp [Sz.NdL, Sz.NdA, Sz.oO_cells, Sz.oO_own, Sz.iL_nil], by simp only [FitM, ObLe, LeL, Le, List.cons_append, List.nil_append] <;> (try (simp (maxSteps := 2000000) -implicitDefEqProofs only [hle, Sz.s_alt, Sz.s_alt20, Sz.s_alt2t, Sz.s_alt2f, ↓Sz.s_loopi, ↓Sz.v_pq, ↓Sz.PRE, Sz.POST, Sz.CORE, Nat.reduceDiv, Nat.reduceMod, Int.reduceLT, Int.reduceLE, Int.reduceToNat, Int.reduceAdd, ↓reduceIte, Nat.reduceEqDiff, Nat.reduceAdd, Nat.reduceMul, Nat.reduceSub, Nat.reduceLeDiff, Nat.reduceLT, reduceCtorEq, if_true, eq_self, forall_const, implies_true])) <;> (try simp), by simp only [FitE, Le, LeL, List.cons_append, List.nil_append] <;> (try (simp (maxSteps := 2000000) -implicitDefEqProofs only [hle, Sz.s_alt, Sz.s_alt20, Sz.s_alt2t, Sz.s_alt2f, ↓Sz.s_loopi, ↓Sz.v_pq, ↓Sz.PRE, Sz.POST, Sz.CORE, Nat.reduceDiv, Nat.reduceMod, Int.reduceLT, Int.reduceLE, Int.reduceToNat, Int.reduceAdd, ↓reduceIte, Nat.reduceEqDiff, Nat.reduceAdd, Nat.reduceMul, Nat.reduceSub, Nat.reduceLeDiff, Nat.reduceLT, reduceCtorEq, if_true, eq_self, forall_const, implies_true])) <;> (try simp only [Sz.Le, Sz.LeL, List.getElem?_cons_zero, List.getElem?_cons_succ]) <;> (try simp), keep0 hJ⟩⟩
          · have hm : min q 16 = q := by omega
            rw [hm]
            simp (maxSteps := 2000000) -implicitDefEqProofs only [h16, hD, Sz.s_alt, Sz.s_alt20, Sz.s_alt2t, Sz.s_alt2f, ↓Sz.s_loopi, ↓Sz.v_pq, ↓Sz.PRE, Sz.POST, Sz.CORE, Nat.reduceDiv, Nat.reduceMod, Int.reduceLT, Int.reduceLE, Int.reduceToNat, Int.reduceAdd, ↓reduceIte, Nat.reduceEqDiff, Nat.reduceAdd, Nat.reduceMul, Nat.reduceSub, Nat.reduceLeDiff, Nat.reduceLT, reduceCtorEq, if_true, eq_self, forall_const, implies_true]
            rw [q1, q7]
            exact ⟨by omega, by omega, by omega, ⟨[0], by simp [Sz.NdL, Sz.NdA, Sz.oO_cells, Sz.oO_own, Sz.iL_nil], by simp only [FitM, ObLe, LeL, Le, List.cons_append, List.nil_append] <;> (try (simp (maxSteps := 2000000) -implicitDefEqProofs only [hle, Sz.s_alt, Sz.s_alt20, Sz.s_alt2t, Sz.s_alt2f, ↓Sz.s_loopi, ↓Sz.v_pq, ↓Sz.PRE, Sz.POST, Sz.CORE, Nat.reduceDiv, Nat.reduceMod, Int.reduceLT, Int.reduceLE, Int.reduceToNat, Int.reduceAdd, ↓reduceIte, Nat.reduceEqDiff, Nat.reduceAdd, Nat.reduceMul, Nat.reduceSub, Nat.reduceLeDiff, Nat.reduceLT, reduceCtorEq, if_true, eq_self, forall_const, implies_true])) <;> (try simp), by simp only [FitE, Le, LeL, List.cons_append, List.nil_append] <;> (try (simp (maxSteps := 2000000) -implicitDefEqProofs only [hle, Sz.s_alt, Sz.s_alt20, Sz.s_alt2t, Sz.s_alt2f, ↓Sz.s_loopi, ↓Sz.v_pq, ↓Sz.PRE, Sz.POST, Sz.CORE, Nat.reduceDiv, Nat.reduceMod, Int.reduceLT, Int.reduceLE, Int.reduceToNat, Int.reduceAdd, ↓reduceIte, Nat.reduceEqDiff, Nat.reduceAdd, Nat.reduceMul, Nat.reduceSub, Nat.reduceLeDiff, Nat.reduceLT, reduceCtorEq, if_true, eq_self, forall_const, implies_true])) <;> (try simp only [Sz.Le, Sz.LeL, List.getElem?_cons_zero, List.getElem?_cons_succ]) <;> (try simp), keep0 hJ⟩⟩
    · intro _
      have i1 : ¬ (ls.length : Int) < (ls.length : Int) := by omega
      rw [mix_end]
      simp (maxSteps := 2000000) -implicitDefEqProofs only [i1, Sz.s_alt, Sz.s_alt20, Sz.s_alt2t, Sz.s_alt2f, ↓Sz.s_loopi, ↓Sz.v_pq, ↓Sz.PRE, Sz.POST, Sz.CORE, Nat.reduceDiv, Nat.reduceMod, Int.reduceLT, Int.reduceLE, Int.reduceToNat, Int.reduceAdd, ↓reduceIte, Nat.reduceEqDiff, Nat.reduceAdd, Nat.reduceMul, Nat.reduceSub, Nat.reduceLeDiff, Nat.reduceLT, reduceCtorEq, if_true, eq_self, forall_const, implies_true]
      exact ⟨[0], .row 0 0 ls.length 8, [⟨true, sL (ls.map sgS)⟩], by simp, by simp [FitM, ObLe, sL_le], by simp, by simp only [Le]; rfl, by simpa [SV.up, SObj.up, sL_up] using hk⟩
end Go.Proofs.YtdbjkklhgfhgnaaGreat
