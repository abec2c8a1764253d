/- Layer 45 (foreign): steps are signed, and asked whether they are. By symbolic walks. -/
import Derived.Test.YtdbjkklhgfhgnaaGreatFoP
import Derived.Test.YtdbjkklhgfhgnaaGreatSzN
import Derived.Test.YtdbjkklhgfhgnaaGreatFoA
namespace Go.Proofs.YtdbjkklhgfhgnaaGreat
open Go.RowKit Sz
set_option linter.unusedVariables false
set_option linter.unusedSimpArgs false
set_option maxHeartbeats 4000000
set_option maxRecDepth 20000
def c111 [Inp] : Trans := fun args m k => ∃ s : Stp, args = [.agg (s.cs.map .v)] ∧ k (.v (.bool (wrF s))) m
theorem c111_ok [Inp] : Contract Tryz.prog 111 true c111 := by
  refine .read fn111 (G := fun _ => []) (fun J => @g0 J _) _ fun args m k h => ?_
  obtain ⟨s, rfl, hk⟩ := h
  refine ⟨by simp, fun J hJ us hus => ?_⟩
  obtain ⟨u, t1, rfl, hk1, rfl⟩ := hus
  obtain rfl := hk1.2.1 _ rfl
  have e : SV.of (.agg s.cs.toArray) = .agg [.v (.int .i64 s.kind), .v (.int .i64 s.tenant), .v (.int .i64 s.other), .v (.int .i64 s.a), .v (.int .i64 s.b), .v (.int .i64 s.op), .v (.int .i64 s.place), .v (.string s.data)] := by rw [of_agg]; rfl
  rw [List.map_cons, e, List.map_nil]
  unfold wrF at hk
  cases h1 : (s.kind == 5) <;> cases h2 : (s.op == 2) <;> simp only [h1, h2, Bool.true_and, Bool.false_and, Bool.and_true, Bool.and_false] at hk <;> simp (maxSteps := 2000000) -implicitDefEqProofs only [↓x111, ↓r111, h1, h2, Sz.s_alt, Sz.s_alt20, Sz.s_alt2t, Sz.s_alt2f, ↓Sz.s_loopi, ↓Sz.v_pq, ↓Sz.PRE, Sz.POST, Sz.CORE, Nat.reduceDiv, Nat.reduceMod, Int.reduceLT, Int.reduceLE, Int.reduceToNat, Int.reduceAdd, ↓reduceIte, Nat.reduceEqDiff, Nat.reduceAdd, Nat.reduceMul, Nat.reduceSub, Nat.reduceLeDiff, Nat.reduceLT, reduceCtorEq, if_true, eq_self, forall_const, implies_true] <;> exact hk
def c113 [Inp] : Trans := fun args m k => ∃ s : Stp, args = [.agg (s.cs.map .v)] ∧ k (.v (.bool (!okS s))) m
theorem g111 [Inp] : GOk Tryz.prog [⟨111, true, c111⟩] := GOk.cons c111_ok (g0 _)
theorem c113_ok [Inp] : Contract Tryz.prog 113 true c113 := by
  refine .read fn113 (G := fun J => [⟨111, true, @c111 J⟩]) (fun J => @g111 J) _ fun args m k h => ?_
  obtain ⟨s, rfl, hk⟩ := h
  refine ⟨by simp, fun J hJ us hus => ?_⟩
  obtain ⟨u, t1, rfl, hk1, rfl⟩ := hus
  obtain rfl := hk1.2.1 _ rfl
  have e : SV.of (.agg s.cs.toArray) = .agg [.v (.int .i64 s.kind), .v (.int .i64 s.tenant), .v (.int .i64 s.other), .v (.int .i64 s.a), .v (.int .i64 s.b), .v (.int .i64 s.op), .v (.int .i64 s.place), .v (.string s.data)] := by rw [of_agg]; rfl
  rw [List.map_cons, e, List.map_nil]
  simp (maxSteps := 2000000) -implicitDefEqProofs only [↓x113, ↓r113, ↓c111, Sz.s_alt, Sz.s_alt20, Sz.s_alt2t, Sz.s_alt2f, ↓Sz.s_loopi, ↓Sz.v_pq, ↓Sz.PRE, Sz.POST, Sz.CORE, Nat.reduceDiv, Nat.reduceMod, Int.reduceLT, Int.reduceLE, Int.reduceToNat, Int.reduceAdd, ↓reduceIte, Nat.reduceEqDiff, Nat.reduceAdd, Nat.reduceMul, Nat.reduceSub, Nat.reduceLeDiff, Nat.reduceLT, reduceCtorEq, if_true, eq_self, forall_const, implies_true]
  refine ⟨s, rfl, ?_⟩
  cases hw : wrF s with
  | false =>
    have ho : okS s = true := by simp [okS, hw]
    rw [ho] at hk
    simp (maxSteps := 2000000) -implicitDefEqProofs only [Sz.s_alt, Sz.s_alt20, Sz.s_alt2t, Sz.s_alt2f, ↓Sz.s_loopi, ↓Sz.v_pq, ↓Sz.PRE, Sz.POST, Sz.CORE, Nat.reduceDiv, Nat.reduceMod, Int.reduceLT, Int.reduceLE, Int.reduceToNat, Int.reduceAdd, ↓reduceIte, Nat.reduceEqDiff, Nat.reduceAdd, Nat.reduceMul, Nat.reduceSub, Nat.reduceLeDiff, Nat.reduceLT, reduceCtorEq, if_true, eq_self, forall_const, implies_true]
    exact hk
  | true =>
    have hs := wr_size hw
    have h0 : (0 : Int) < (s.data.size : Int) := by omega
    have ho : (!okS s) = (((s.data[0]?.getD 0).toNat : Int) - 65 != s.tenant) := by simp [okS, hw, bne]
    rw [ho] at hk
    have w0 : IntKind.i64.wrap ((s.data[0]?.getD 0).toNat : Int) = ((s.data[0]?.getD 0).toNat : Int) := Sz.w_64 (by omega) (by have := (s.data[0]?.getD 0).toNat_lt; omega)
    have w1 : IntKind.i64.wrap (((s.data[0]?.getD 0).toNat : Int) - 65) = ((s.data[0]?.getD 0).toNat : Int) - 65 := Sz.w_64 (by omega) (by have := (s.data[0]?.getD 0).toNat_lt; omega)
    simp (maxSteps := 2000000) -implicitDefEqProofs only [h0, w0, w1, Sz.s_alt, Sz.s_alt20, Sz.s_alt2t, Sz.s_alt2f, ↓Sz.s_loopi, ↓Sz.v_pq, ↓Sz.PRE, Sz.POST, Sz.CORE, Nat.reduceDiv, Nat.reduceMod, Int.reduceLT, Int.reduceLE, Int.reduceToNat, Int.reduceAdd, ↓reduceIte, Nat.reduceEqDiff, Nat.reduceAdd, Nat.reduceMul, Nat.reduceSub, Nat.reduceLeDiff, Nat.reduceLT, reduceCtorEq, if_true, eq_self, forall_const, implies_true]
    exact hk
def c164 [Inp] : Trans := fun args m k => match args with
  | [.v (.slice p n c), .fn 113 []] => m = [] ∧ ∃ ls : List Stp, inpL p (n * 8) = some (rowV Stp.cs ls) ∧ ls.length = n ∧ n ≤ 1000 ∧ ∀ r : Int, (0 ≤ r ↔ ls.any (fun s => !okS s) = true) → k (.v (.int .i64 r)) m
  | _ => False
theorem g113 [Inp] : GOk Tryz.prog [⟨113, true, c113⟩] := GOk.cons c113_ok (g0 _)
theorem inpL_at {I J : Inp} (h : J.at_ = I.at_) {p : Option Addr} {n : Nat} : @inpL J p n = @inpL I p n := by
  unfold inpL
  rw [h]
theorem c164_ok [Inp] : Contract Tryz.prog 164 false c164 := by
  refine .full fn164 (G := fun J => [⟨113, true, @c113 J⟩]) (fun J => @g113 J) _ fun args m k h => ?_
  unfold c164 at h
  split at h
  case h_2 => exact h.elim
  rename_i p n c
  obtain ⟨rfl, ls, hin0, rfl, hn, hk⟩ := h
  refine ⟨by simp, fun J hJ hA => ?_⟩
  replace hJ : J.keep = 0 := hJ
  rw [← inpL_at hA] at hin0
  have hin := hin0
  have hitem : ∀ (i : Nat) (x : Stp), ls[i]? = some x → inpL (plusA p (i * 8)) 8 = some x.cs := fun i x hx => inp_item Stp.len hin rfl hx
  simp (maxSteps := 2000000) -implicitDefEqProofs only [↓x164, ↓r164, Sz.s_alt, Sz.s_alt20, Sz.s_alt2t, Sz.s_alt2f, ↓Sz.s_loopi, ↓Sz.v_pq, ↓Sz.PRE, Sz.POST, Sz.CORE, Nat.reduceDiv, Nat.reduceMod, Int.reduceLT, Int.reduceLE, Int.reduceToNat, Int.reduceAdd, ↓reduceIte, Nat.reduceEqDiff, Nat.reduceAdd, Nat.reduceMul, Nat.reduceSub, Nat.reduceLeDiff, Nat.reduceLT, reduceCtorEq, if_true, eq_self, forall_const, implies_true]
  refine TXi_of (TX_count (g113) ls.length (fun x => [(0, .v (.slice p ls.length c)), (1, .fn 113 []), (6, .v (.slice p ls.length c)), (7, .v (.int .i64 ls.length)), (8, .v (.int .i64 (x : Int)))]) (fun _ => []) (fun x => (ls.take x).any (fun s => !okS s) = false) rfl ⟨[], by simp [Sz.NdL, Sz.NdA, Sz.oO_cells, Sz.oO_own, Sz.iL_nil], by simp only [FitM, ObLe, LeL, Le, List.cons_append, List.nil_append] <;> (try (simp (maxSteps := 2000000) -implicitDefEqProofs only [Sz.s_alt, Sz.s_alt20, Sz.s_alt2t, Sz.s_alt2f, ↓Sz.s_loopi, ↓Sz.v_pq, ↓Sz.PRE, Sz.POST, Sz.CORE, Nat.reduceDiv, Nat.reduceMod, Int.reduceLT, Int.reduceLE, Int.reduceToNat, Int.reduceAdd, ↓reduceIte, Nat.reduceEqDiff, Nat.reduceAdd, Nat.reduceMul, Nat.reduceSub, Nat.reduceLeDiff, Nat.reduceLT, reduceCtorEq, if_true, eq_self, forall_const, implies_true])) <;> (try simp), by simp only [FitE, Le, LeL, List.cons_append, List.nil_append] <;> (try (simp (maxSteps := 2000000) -implicitDefEqProofs only [Sz.s_alt, Sz.s_alt20, Sz.s_alt2t, Sz.s_alt2f, ↓Sz.s_loopi, ↓Sz.v_pq, ↓Sz.PRE, Sz.POST, Sz.CORE, Nat.reduceDiv, Nat.reduceMod, Int.reduceLT, Int.reduceLE, Int.reduceToNat, Int.reduceAdd, ↓reduceIte, Nat.reduceEqDiff, Nat.reduceAdd, Nat.reduceMul, Nat.reduceSub, Nat.reduceLeDiff, Nat.reduceLT, reduceCtorEq, if_true, eq_self, forall_const, implies_true])) <;> (try simp only [Sz.Le, Sz.LeL, List.getElem?_cons_zero, List.getElem?_cons_succ]) <;> (try simp), keep0 hJ⟩ ?_ ?_)
  · intro x hx hI
    obtain ⟨d, hd⟩ : ∃ d, ls[x]? = some d := ⟨_, List.getElem?_eq_getElem hx⟩
    have f : inpL (plusA p (x * 8)) 8 = some [.int .i64 d.kind, .int .i64 d.tenant, .int .i64 d.other, .int .i64 d.a, .int .i64 d.b, .int .i64 d.op, .int .i64 d.place, .string d.data] := hitem x d hd
    have hp : p.isSome = true := inpL_isSome hin (by omega)
    have i0 : (0 : Int) ≤ (x : Int) := by omega
    have i1 : (x : Int) < (ls.length : Int) := by omega
    have w1 : IntKind.i64.wrap ((x : Int) + 1) = (x : Int) + 1 := Sz.w_64 (by omega) (by omega)
    simp (maxSteps := 2000000) -implicitDefEqProofs only [f, hp, i0, i1, w1, ↓c113, Sz.s_alt, Sz.s_alt20, Sz.s_alt2t, Sz.s_alt2f, ↓Sz.s_loopi, ↓Sz.v_pq, ↓Sz.PRE, Sz.POST, Sz.CORE, Nat.reduceDiv, Nat.reduceMod, Int.reduceLT, Int.reduceLE, Int.reduceToNat, Int.reduceAdd, ↓reduceIte, Nat.reduceEqDiff, Nat.reduceAdd, Nat.reduceMul, Nat.reduceSub, Nat.reduceLeDiff, Nat.reduceLT, reduceCtorEq, if_true, eq_self, forall_const, implies_true]
    refine ⟨d, rfl, ?_⟩
    cases ho : okS d with
    | true =>
      simp (maxSteps := 2000000) -implicitDefEqProofs only [w1, Sz.s_alt, Sz.s_alt20, Sz.s_alt2t, Sz.s_alt2f, ↓Sz.s_loopi, ↓Sz.v_pq, ↓Sz.PRE, Sz.POST, Sz.CORE, Nat.reduceDiv, Nat.reduceMod, Int.reduceLT, Int.reduceLE, Int.reduceToNat, Int.reduceAdd, ↓reduceIte, Nat.reduceEqDiff, Nat.reduceAdd, Nat.reduceMul, Nat.reduceSub, Nat.reduceLeDiff, Nat.reduceLT, reduceCtorEq, if_true, eq_self, forall_const, implies_true]
      exact ⟨by rw [any_snoc _ hd, hI, ho]; rfl, ⟨[], by simp [Sz.NdL, Sz.NdA, Sz.oO_cells, Sz.oO_own, Sz.iL_nil], by simp only [FitM, ObLe, LeL, Le, List.cons_append, List.nil_append] <;> (try (simp (maxSteps := 2000000) -implicitDefEqProofs only [Sz.s_alt, Sz.s_alt20, Sz.s_alt2t, Sz.s_alt2f, ↓Sz.s_loopi, ↓Sz.v_pq, ↓Sz.PRE, Sz.POST, Sz.CORE, Nat.reduceDiv, Nat.reduceMod, Int.reduceLT, Int.reduceLE, Int.reduceToNat, Int.reduceAdd, ↓reduceIte, Nat.reduceEqDiff, Nat.reduceAdd, Nat.reduceMul, Nat.reduceSub, Nat.reduceLeDiff, Nat.reduceLT, reduceCtorEq, if_true, eq_self, forall_const, implies_true])) <;> (try simp), by simp only [FitE, Le, LeL, List.cons_append, List.nil_append] <;> (try (simp (maxSteps := 2000000) -implicitDefEqProofs only [Sz.s_alt, Sz.s_alt20, Sz.s_alt2t, Sz.s_alt2f, ↓Sz.s_loopi, ↓Sz.v_pq, ↓Sz.PRE, Sz.POST, Sz.CORE, Nat.reduceDiv, Nat.reduceMod, Int.reduceLT, Int.reduceLE, Int.reduceToNat, Int.reduceAdd, ↓reduceIte, Nat.reduceEqDiff, Nat.reduceAdd, Nat.reduceMul, Nat.reduceSub, Nat.reduceLeDiff, Nat.reduceLT, reduceCtorEq, if_true, eq_self, forall_const, implies_true])) <;> (try simp only [Sz.Le, Sz.LeL, List.getElem?_cons_zero, List.getElem?_cons_succ]) <;> (try simp), keep0 hJ⟩⟩
    | false =>
      simp (maxSteps := 2000000) -implicitDefEqProofs only [Sz.s_alt, Sz.s_alt20, Sz.s_alt2t, Sz.s_alt2f, ↓Sz.s_loopi, ↓Sz.v_pq, ↓Sz.PRE, Sz.POST, Sz.CORE, Nat.reduceDiv, Nat.reduceMod, Int.reduceLT, Int.reduceLE, Int.reduceToNat, Int.reduceAdd, ↓reduceIte, Nat.reduceEqDiff, Nat.reduceAdd, Nat.reduceMul, Nat.reduceSub, Nat.reduceLeDiff, Nat.reduceLT, reduceCtorEq, if_true, eq_self, forall_const, implies_true]
      have : ls.any (fun s => !okS s) = true := any_good hd (by rw [ho]; rfl)
      exact hk _ (by rw [this]; simp)
  · intro hI
    have i1 : ¬ (ls.length : Int) < (ls.length : Int) := by omega
    rw [List.take_length] at hI
    simp (maxSteps := 2000000) -implicitDefEqProofs only [i1, Sz.s_alt, Sz.s_alt20, Sz.s_alt2t, Sz.s_alt2f, ↓Sz.s_loopi, ↓Sz.v_pq, ↓Sz.PRE, Sz.POST, Sz.CORE, Nat.reduceDiv, Nat.reduceMod, Int.reduceLT, Int.reduceLE, Int.reduceToNat, Int.reduceAdd, ↓reduceIte, Nat.reduceEqDiff, Nat.reduceAdd, Nat.reduceMul, Nat.reduceSub, Nat.reduceLeDiff, Nat.reduceLT, reduceCtorEq, if_true, eq_self, forall_const, implies_true]
    exact hk _ (by rw [hI]; simp)
def c112 [Inp] : Trans := fun args m k => match args with
  | [.v (.slice p n c), .fn 113 []] => m = [] ∧ ∃ ls : List Stp, inpL p (n * 8) = some (rowV Stp.cs ls) ∧ ls.length = n ∧ n ≤ 1000 ∧ k (.v (.bool (ls.any (fun s => !okS s)))) m
  | _ => False
theorem g164 [Inp] : GOk Tryz.prog [⟨164, false, c164⟩] := GOk.cons c164_ok (g0 _)
theorem c112_ok [Inp] : Contract Tryz.prog 112 false c112 := by
  refine .full fn112 (G := fun J => [⟨164, false, @c164 J⟩]) (fun J => @g164 J) _ fun args m k h => ?_
  unfold c112 at h
  split at h
  case h_2 => exact h.elim
  rename_i p n c
  obtain ⟨rfl, ls, hin, rfl, hn, hk⟩ := h
  refine ⟨by simp, fun J hJ hA => ?_⟩
  rw [← inpL_at hA] at hin
  simp (maxSteps := 2000000) -implicitDefEqProofs only [↓x112, ↓r112, ↓c164, Sz.s_alt, Sz.s_alt20, Sz.s_alt2t, Sz.s_alt2f, ↓Sz.s_loopi, ↓Sz.v_pq, ↓Sz.PRE, Sz.POST, Sz.CORE, Nat.reduceDiv, Nat.reduceMod, Int.reduceLT, Int.reduceLE, Int.reduceToNat, Int.reduceAdd, ↓reduceIte, Nat.reduceEqDiff, Nat.reduceAdd, Nat.reduceMul, Nat.reduceSub, Nat.reduceLeDiff, Nat.reduceLT, reduceCtorEq, if_true, eq_self, forall_const, implies_true]
  refine ⟨ls, hin, rfl, hn, fun r hr => ?_⟩
  have e : decide (r ≥ 0) = ls.any (fun s => !okS s) := by
    cases ha : ls.any (fun s => !okS s) with
    | true => rw [ha] at hr; simpa using hr
    | false => rw [ha] at hr; simp at hr; simpa using hr
  rw [e]
  exact hk
def c45 [Inp] : Trans := fun args m k => match args with
  | [.v (.slice p n c)] => ∃ ls : List Stp, inpL p (n * 8) = some (rowV Stp.cs ls) ∧ ls.length = n ∧ n ≤ 1000 ∧ k (.v (.bool (!ls.any (fun s => !okS s)))) m
  | _ => False
theorem g112 [Inp] : GOk Tryz.prog [⟨112, false, c112⟩] := GOk.cons c112_ok (g0 _)
theorem c45_ok [Inp] : Contract Tryz.prog 45 true c45 := by
  refine .readN fn45 (G := fun J => [⟨112, false, @c112 J⟩]) (fun J => @g112 J) _ fun args m k h => ?_
  unfold c45 at h
  split at h
  case h_2 => exact h.elim
  rename_i p n c
  obtain ⟨ls, hin, rfl, hn, hk⟩ := h
  refine ⟨by simp, fun J hJ us hus hI => ?_⟩
  obtain ⟨u, t1, rfl, hk1, rfl⟩ := hus
  obtain rfl := hk1.1 _ rfl
  simp (maxSteps := 2000000) -implicitDefEqProofs only [↓x45, ↓r45, ↓c112, Sz.s_alt, Sz.s_alt20, Sz.s_alt2t, Sz.s_alt2f, ↓Sz.s_loopi, ↓Sz.v_pq, ↓Sz.PRE, Sz.POST, Sz.CORE, Nat.reduceDiv, Nat.reduceMod, Int.reduceLT, Int.reduceLE, Int.reduceToNat, Int.reduceAdd, ↓reduceIte, Nat.reduceEqDiff, Nat.reduceAdd, Nat.reduceMul, Nat.reduceSub, Nat.reduceLeDiff, Nat.reduceLT, reduceCtorEq, if_true, eq_self, forall_const, implies_true]
  refine ⟨ls, hI _ _ _ hin, rfl, hn, ?_⟩
  exact hk
end Go.Proofs.YtdbjkklhgfhgnaaGreat
