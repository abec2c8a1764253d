/- Layers 49, 10: PlanEmpty's callees, for the second kind of walk: the elder contracts, and Has. -/
import Derived.Test.YtppndeoiifkkkaaPbH
import Derived.Test.YtppndeoiifkkkaaSzN
namespace Go.Proofs.Ytppndeoiifkkkaa
open Go.RowKit Sz
set_option linter.unusedVariables false
set_option linter.unusedSimpArgs false
set_option maxHeartbeats 4000000
set_option maxRecDepth 20000
-- almshouse/almshouseref10.Has (2 parameters)
def x108 : XC := (.seq (.tree (.seq ⟨some 4, none, (.ofA (.mv (.cst (.v (.bool false)))))⟩
  .done))
 (.seq (.seq (.tree (.seq ⟨some 7, none, (.ofA (.mv (.tmp 0)))⟩
  (.seq ⟨some 8, none, (.ofA (.len (.tmp 7)))⟩
  (.seq ⟨some 9, none, (.ofA (.mv (.cst (.v (.int .i64 0)))))⟩
  .done))))
 (.block 0 (.loop (.seq (.tree (.seq ⟨some 10, none, (.ofA (.bin .lss (.tmp 9) (.tmp 8)))⟩
  .done))
 (.seq (.cond (.tmp 10)
 .skip
 (.exit 0))
 (.seq (.block 1 (.seq (.tree (.seq ⟨some 11, none, (.ofA (.isl 1 (.tmp 7) (.tmp 9)))⟩
  (.seq ⟨some 12, none, (.ofA (.load none (.tmp 11)))⟩
  (.seq ⟨some 6, none, (.ofA (.mv (.tmp 12)))⟩
  .done))))
 (.seq (.tree (.seq ⟨some 13, none, (.ofA (.mv (.tmp 6)))⟩
  (.seq ⟨some 14, none, (.ofA (.mv (.tmp 1)))⟩
  (.seq ⟨some 15, none, (.ofA (.bin .eql (.tmp 13) (.tmp 14)))⟩
  .done))))
 (.cond (.tmp 15)
 (.seq (.tree (.seq ⟨some 4, none, (.ofA (.mv (.cst (.v (.bool true)))))⟩
  .done))
 .ret)
 .skip))))
 (.tree (.seq ⟨some 16, none, (.ofA (.bin .add (.tmp 9) (.cst (.v (.int .i64 1)))))⟩
  (.seq ⟨some 9, none, (.ofA (.mv (.tmp 16)))⟩
  .done)))))))))
 (.seq (.tree (.seq ⟨some 4, none, (.ofA (.mv (.cst (.v (.bool false)))))⟩
  .done))
 .ret)))
def r108 : List XR := [.tmp 4]
theorem fn108 : FnX Try.prog 108 [] 17 x108 r108 := ⟨_, Try.func108, by kernel_rfl, by kernel_rfl, by kernel_rfl, by kernel_rfl⟩

theorem isL_of_inv {r : List Sz.Loc} : ∀ {ys us : List Value}, Sz.SV.IsL r (ys.map Sz.SV.of) us → us = ys
  | [], us, h => by simpa only [List.map_nil, Sz.SV.IsL] using h
  | y :: ys, us, h => by
    simp only [List.map_cons, Sz.SV.IsL] at h
    obtain ⟨u, t, rfl, hu, h⟩ := h
    rw [isL_of_inv h]
    congr 1
    cases y <;> simp only [Sz.SV.of, Sz.SV.Is] at hu
    case agg cs =>
      obtain ⟨us, rfl, hus⟩ := hu
      rw [isL_v_inv hus]
    case tuple cs =>
      obtain ⟨us, rfl, hus⟩ := hu
      rw [isL_v_inv hus]
    all_goals exact hu
/-- What the elder walks showed, for plain arguments. -/
theorem bridge [Inp] {f : FuncId} {tr0 : Sy.Trans} (hc : Sy.Contract Try.prog f true tr0) (tr : Sz.Trans)
    (h : ∀ args m k, tr args m k → ∃ (vs0 : List Value) (args0 : List Sy.SV) (R : Sy.SV → Prop), args = vs0.map Sz.SV.of ∧ Sy.SV.IsL [] args0 vs0 ∧ tr0 args0 [] (fun s _ => R s) ∧ ∀ s u r', R s → Sy.SV.Is r' s u → ∃ s', k s' m ∧ s'.plain = true ∧ ∀ r, Sz.SV.Is r s' u) : Sz.Contract Try.prog f true tr := by
  refine ⟨hc.enter, fun args m k base w0 W r vs ht hst ha => ?_⟩
  obtain ⟨vs0, args0, R, rfl, h1, h2, h3⟩ := h args m k ht
  obtain rfl := isL_of_inv ha
  refine (hc.calls args0 [] _ (fun k => W.heap.size ≤ k) W W [] _ h2 St.none h1).mono ?_
  rintro e W1 ⟨s, m', t, u, hR, rfl, hst1, hu, _⟩
  obtain ⟨s', hk, hp, hs'⟩ := h3 s u _ hR hu
  have hb : Below W.heap.size W W1 := hst1.low.below
  exact ⟨s', m, [], u, hk, rfl, by simpa using hst.below hb, by simpa using hs' r, fun _ => Same.below hst hb⟩
def d105 : Sz.Trans := fun args m k => match args with
  | [.v (.int .i64 s), .v (.int .i64 p), .v (.int .i64 n)] => k (.v (.int .i64 (totF s p n))) m
  | _ => False
theorem d105_ok [Inp] : Sz.Contract Try.prog 105 true d105 := by
  refine bridge c105_ok _ fun args m k h => ?_
  unfold d105 at h
  split at h
  · rename_i s p n
    refine ⟨[.int .i64 s, .int .i64 p, .int .i64 n], [.v (.int .i64 s), .v (.int .i64 p), .v (.int .i64 n)], fun x => x = .v (.int .i64 (totF s p n)), rfl, isL_v [_, _, _], rfl, fun x u r' hx hu => ?_⟩
    subst hx
    simp only [Sy.SV.Is] at hu
    subst hu
    exact ⟨_, h, rfl, fun r => by simp only [Sz.SV.Is]⟩
  · exact h.elim
def d42 : Sz.Trans := fun args m k => match args with
  | [] => k (.v (.bool true)) m
  | _ => False
theorem d42_ok [Inp] : Sz.Contract Try.prog 42 true d42 := by
  refine bridge c42_ok _ fun args m k h => ?_
  unfold d42 at h
  split at h
  · refine ⟨[], [], fun x => x = .v (.bool true), rfl, by simp [Sy.SV.IsL], rfl, fun x u r' hx hu => ?_⟩
    subst hx
    simp only [Sy.SV.Is] at hu
    subst hu
    exact ⟨_, h, rfl, fun r => by simp only [Sz.SV.Is]⟩
  · exact h.elim
/-! ### Ledgers and wishes -/
def Wi.cs2 (x : Wi) : List Value := [.int .i64 x.size, .int .i64 x.spare]
theorem Tn.len (t : Tn) : t.cs.length = 5 := rfl
theorem Wi.len (x : Wi) : x.cs2.length = 2 := rfl
def decTz : List Sz.SV → Option (List Tn)
  | [] => some []
  | .v (.bool th) :: .v (.int .i64 ep) :: .v (.int .i64 sz) :: .v (.int .i64 sp) :: .v (.slice A n c) :: r => (decTz r).map (⟨th, ep, sz, sp, A, n, c⟩ :: ·)
  | _ => none
def decWz : List Sz.SV → Option (List Wi)
  | [] => some []
  | .v (.int .i64 s) :: .v (.int .i64 p) :: r => (decWz r).map (⟨s, p⟩ :: ·)
  | _ => none
theorem decTz_inv : ∀ {l : List Sz.SV} {ts : List Tn}, decTz l = some ts → l = (rowV Tn.cs ts).map .v
  | [], ts, h => by simp only [decTz] at h; injection h with h; subst h; rfl
  | a :: l, ts, h => by
    unfold decTz at h
    split at h
    · rename_i heq; cases heq
    · rename_i heq
      cases heq
      obtain ⟨ts', h1, rfl⟩ := Option.map_eq_some_iff.1 h
      rw [decTz_inv h1]
      rfl
    · cases h
theorem decWz_inv : ∀ {l : List Sz.SV} {ts : List Wi}, decWz l = some ts → l = (rowV Wi.cs2 ts).map .v
  | [], ts, h => by simp only [decWz] at h; injection h with h; subst h; rfl
  | a :: l, ts, h => by
    unfold decWz at h
    split at h
    · rename_i heq; cases heq
    · rename_i heq
      cases heq
      obtain ⟨ts', h1, rfl⟩ := Option.map_eq_some_iff.1 h
      rw [decWz_inv h1]
      rfl
    · cases h
theorem decTz_row : ∀ ts : List Tn, decTz ((rowV Tn.cs ts).map .v) = some ts
  | [] => rfl
  | t :: ts => by
    have : (rowV Tn.cs (t :: ts)).map Sz.SV.v = .v (.bool t.there) :: .v (.int .i64 t.epoch) :: .v (.int .i64 t.size) :: .v (.int .i64 t.spare) :: .v (.slice t.A t.n t.c) :: (rowV Tn.cs ts).map Sz.SV.v := rfl
    rw [this]
    simp only [decTz, decTz_row ts, Option.map_some]
theorem decWz_row : ∀ ts : List Wi, decWz ((rowV Wi.cs2 ts).map .v) = some ts
  | [] => rfl
  | t :: ts => by
    have : (rowV Wi.cs2 (t :: ts)).map Sz.SV.v = .v (.int .i64 t.size) :: .v (.int .i64 t.spare) :: (rowV Wi.cs2 ts).map Sz.SV.v := rfl
    rw [this]
    simp only [decWz, decWz_row ts, Option.map_some]
theorem tS_flat : ∀ ts : List Tn, (rowV Tn.cs ts).map Sy.SV.v = ts.flatMap tS
  | [] => rfl
  | t :: ts => by
    have : (rowV Tn.cs (t :: ts)).map Sy.SV.v = tS t ++ (rowV Tn.cs ts).map Sy.SV.v := rfl
    rw [this, tS_flat ts]; rfl
theorem wS_flat : ∀ ts : List Wi, (rowV Wi.cs2 ts).map Sy.SV.v = ts.flatMap wS
  | [] => rfl
  | t :: ts => by
    have : (rowV Wi.cs2 (t :: ts)).map Sy.SV.v = wS t ++ (rowV Wi.cs2 ts).map Sy.SV.v := rfl
    rw [this, wS_flat ts]; rfl
def d47 : Sz.Trans := fun args m k => match args with
  | [.agg (.v (.int .i64 g) :: .v (.int .i64 e) :: l), .agg w] => optK (decTz l) fun ts => optK (decWz w) fun xs => (ts.length = 4 ∧ xs.length = 4) ∧ k (.v (.bool (metF ts xs))) m
  | _ => False
theorem args_led (g e : Int) (ts : List Tn) (xs : List Wi) : Sy.SV.IsL [] [.agg (.v (.int .i64 g) :: .v (.int .i64 e) :: ts.flatMap tS), .agg (xs.flatMap wS)] [.agg (.int .i64 g :: .int .i64 e :: rowV Tn.cs ts).toArray, .agg (rowV Wi.cs2 xs).toArray] := by
  rw [← tS_flat, ← wS_flat]
  exact isL_cons (isL_agg (.int .i64 g :: .int .i64 e :: rowV Tn.cs ts)) (isL_cons (isL_agg (rowV Wi.cs2 xs)) isL_nil)
theorem args_led2 (g e : Int) (ts : List Tn) (xs : List Wi) : [Sz.SV.agg (.v (.int .i64 g) :: .v (.int .i64 e) :: (rowV Tn.cs ts).map .v), .agg ((rowV Wi.cs2 xs).map .v)] = [Value.agg (.int .i64 g :: .int .i64 e :: rowV Tn.cs ts).toArray, .agg (rowV Wi.cs2 xs).toArray].map Sz.SV.of := by
  simp [Sz.SV.of]
theorem d47_ok [Inp] : Sz.Contract Try.prog 47 true d47 := by
  refine bridge c47_ok _ fun args m k h => ?_
  unfold d47 at h
  split at h
  · rename_i g e l w
    obtain ⟨ts, h1, h'⟩ := optK_inv h
    obtain ⟨xs, h2, ⟨l1, l2⟩, hk⟩ := optK_inv h'
    obtain rfl := decTz_inv h1
    obtain rfl := decWz_inv h2
    clear h h' h1 h2
    refine ⟨_, _, fun x => x = .v (.bool (metF ts xs)), args_led2 g e ts xs, args_led g e ts xs, ?_, fun x u r' hx hu => ?_⟩
    · have hc : ∀ K : Sy.SV → Sy.Mem → Prop, c47 [.agg (.v (.int .i64 g) :: .v (.int .i64 e) :: ts.flatMap tS), .agg (xs.flatMap wS)] [] K = ledK (decT (ts.flatMap tS)) (decW (xs.flatMap wS)) fun ts xs => K (.v (.bool (metF ts xs))) [] := fun K => rfl
      rw [hc, decT_flat, decW_flat, ledK_of l1 l2]
    · subst hx
      simp only [Sy.SV.Is] at hu
      subst hu
      exact ⟨_, hk, rfl, fun r => by simp only [Sz.SV.Is]⟩
  · exact h.elim
def d43 : Sz.Trans := fun args m k => match args with
  | [.agg (.v (.int .i64 g) :: .v (.int .i64 e) :: l), .agg w] => optK (decTz l) fun ts => optK (decWz w) fun xs => (ts.length = 4 ∧ xs.length = 4) ∧ if rightF xs = true then (∀ A c, k (.tup [.v (.slice A (planF ts xs).length c), .v (.int .i64 0)]) m) else k (.tup [.v (.slice none 0 0), .v (.int .i64 5)]) m
  | _ => False
theorem d43_ok [Inp] : Sz.Contract Try.prog 43 true d43 := by
  refine bridge c43_ok _ fun args m k h => ?_
  unfold d43 at h
  split at h
  · rename_i g e l w
    obtain ⟨ts, h1, h'⟩ := optK_inv h
    obtain ⟨xs, h2, ⟨l1, l2⟩, hk⟩ := optK_inv h'
    obtain rfl := decTz_inv h1
    obtain rfl := decWz_inv h2
    clear h h' h1 h2
    have hc : ∀ K : Sy.SV → Sy.Mem → Prop, c43 [.agg (.v (.int .i64 g) :: .v (.int .i64 e) :: ts.flatMap tS), .agg (xs.flatMap wS)] [] K = ledK (decT (ts.flatMap tS)) (decW (xs.flatMap wS)) fun ts xs => if rightF xs = true then K (.tup [outV ([] : Sy.Mem).length (planF ts xs), .v (.int .i64 0)]) ([] ++ outM (planF ts xs)) else K (.tup [.v (.slice none 0 0), .v (.int .i64 5)]) [] := fun K => rfl
    by_cases hr : rightF xs = true
    · rw [if_pos hr] at hk
      refine ⟨_, _, fun x => x = .tup [outV 0 (planF ts xs), .v (.int .i64 0)], args_led2 g e ts xs, args_led g e ts xs, ?_, fun x u r' hx hu => ?_⟩
      · rw [hc, decT_flat, decW_flat, ledK_of l1 l2, if_pos hr]
        rfl
      · subst hx
        simp only [Sy.SV.Is, Sy.SV.IsL] at hu
        obtain ⟨us, rfl, u1, t1, rfl, hu1, u2, t2, rfl, rfl, rfl⟩ := hu
        obtain ⟨A, c, rfl⟩ : ∃ A c, u1 = .slice A (planF ts xs).length c := by
          cases hp : planF ts xs with
          | nil => rw [hp] at hu1; simp only [outV, Sy.SV.Is] at hu1; exact ⟨_, _, hu1⟩
          | cons a l =>
            rw [hp] at hu1
            simp only [outV, Sy.SV.Is] at hu1
            obtain ⟨l', cap, _, _, _, rfl⟩ := hu1
            exact ⟨_, _, rfl⟩
        refine ⟨_, hk A c, rfl, fun r => ?_⟩
        simp only [Sz.SV.Is, Sz.SV.IsL]
        exact ⟨_, rfl, _, _, rfl, rfl, _, _, rfl, rfl, rfl⟩
    · rw [if_neg hr] at hk
      refine ⟨_, _, fun x => x = .tup [.v (.slice none 0 0), .v (.int .i64 5)], args_led2 g e ts xs, args_led g e ts xs, ?_, fun x u r' hx hu => ?_⟩
      · rw [hc, decT_flat, decW_flat, ledK_of l1 l2, if_neg hr]
      · subst hx
        simp only [Sy.SV.Is, Sy.SV.IsL] at hu
        obtain ⟨us, rfl, u1, t1, rfl, rfl, u2, t2, rfl, rfl, rfl⟩ := hu
        refine ⟨_, hk, rfl, fun r => ?_⟩
        simp only [Sz.SV.Is, Sz.SV.IsL]
        exact ⟨_, rfl, _, _, rfl, rfl, _, _, rfl, rfl, rfl⟩
  · exact h.elim
/-! ### Has -/
def d108 [Inp] : Sz.Trans := fun args m k => match args with
  | [s, .v (.int .i64 n)] => optK (rdI m s) fun xs => xs.length ≤ 9223372036854775807 ∧ k (.v (.bool (xs.any (· == n)))) m
  | _ => False
theorem d108_ok [Inp] : Sz.Contract Try.prog 108 true d108 := by
  refine .read fn108 (G := fun _ => []) (fun J => @Sz.g0 J _) _ fun args m k h => ?_
  unfold d108 at h
  split at h
  · rename_i s n
    obtain ⟨xs, hxs, hb, hk⟩ := optK_inv h
    refine ⟨by simp, fun J hJ us hus => ?_⟩
    obtain ⟨u, t, rfl, hkn, u2, t2, rfl, hkn2, rfl⟩ := hus
    obtain ⟨p, c, rfl, hin⟩ := rdI_knows hxs hkn
    obtain rfl := hkn2.1 _ rfl
    have w (x : Int) (h1 : -9223372036854775808 ≤ x) (h2 : x ≤ 9223372036854775807) : IntKind.i64.wrap x = x := wrap_id h1 h2
    simp (maxSteps := 2000000) -implicitDefEqProofs only [↓x108, ↓r108, ↓Sz.s_loopi, ↓Sz.v_pq, ↓Sz.PRE, Sz.POST, Sz.of_int, Sz.of_bool, Sz.of_str, Sz.of_sl, Sz.of_p, Sz.of_agg, Int.cast_ofNat_Int, Nat.mul_one, Nat.reduceDiv, Nat.reduceMod, Int.reduceLT, Int.reduceLE, Int.reduceToNat, Int.reduceAdd, decide_true, decide_false, ↓reduceIte, List.map_cons, List.map_nil, List.length_cons, List.length_nil, List.cons_append, List.nil_append, List.getElem?_cons_zero, List.getElem?_cons_succ, List.getElem?_nil, List.take_succ_cons, List.take_zero, List.drop_succ_cons, List.drop_zero, List.all_cons, List.all_nil, List.set_cons_zero, List.set_cons_succ, List.append_nil, Option.map_some, Option.map_none, cond_true, cond_false, Bool.true_eq_false, Bool.false_eq_true, Bool.not_true, Bool.not_false, Nat.reduceEqDiff, Nat.reduceAdd, Nat.reduceMul, Nat.reduceSub, Nat.reduceLeDiff, Nat.reduceLT, true_and, and_true, reduceCtorEq, Nat.zero_add, Nat.add_zero, Nat.zero_mul, Nat.le_refl, Int.toNat_natCast, Bool.and_self, Bool.true_and, Bool.and_true, if_true, eq_self, forall_const, and_self, implies_true]
    refine Sz.TXi_of (TX_count (Sz.g0 _) xs.length (fun x => [(1, .v (.int .i64 n)), (7, .v (.slice p xs.length c)), (8, .v (.int .i64 xs.length)), (9, .v (.int .i64 (x : Int)))]) (fun _ => []) (fun x => (xs.take x).any (· == n) = false) rfl ⟨[], by simp [Sz.NdL, Sz.NdA], by simp only [FitM, ObLe, LeL, Le, List.cons_append, List.nil_append] <;> (try (simp (maxSteps := 2000000) -implicitDefEqProofs only [↓Sz.s_loopi, ↓Sz.v_pq, ↓Sz.PRE, Sz.POST, Sz.of_int, Sz.of_bool, Sz.of_str, Sz.of_sl, Sz.of_p, Sz.of_agg, Int.cast_ofNat_Int, Nat.mul_one, Nat.reduceDiv, Nat.reduceMod, Int.reduceLT, Int.reduceLE, Int.reduceToNat, Int.reduceAdd, decide_true, decide_false, ↓reduceIte, List.map_cons, List.map_nil, List.length_cons, List.length_nil, List.cons_append, List.nil_append, List.getElem?_cons_zero, List.getElem?_cons_succ, List.getElem?_nil, List.take_succ_cons, List.take_zero, List.drop_succ_cons, List.drop_zero, List.all_cons, List.all_nil, List.set_cons_zero, List.set_cons_succ, List.append_nil, Option.map_some, Option.map_none, cond_true, cond_false, Bool.true_eq_false, Bool.false_eq_true, Bool.not_true, Bool.not_false, Nat.reduceEqDiff, Nat.reduceAdd, Nat.reduceMul, Nat.reduceSub, Nat.reduceLeDiff, Nat.reduceLT, true_and, and_true, reduceCtorEq, Nat.zero_add, Nat.add_zero, Nat.zero_mul, Nat.le_refl, Int.toNat_natCast, Bool.and_self, Bool.true_and, Bool.and_true, if_true, eq_self, forall_const, and_self, implies_true])) <;> (try simp), by simp only [FitE, Le, LeL, List.cons_append, List.nil_append] <;> (try (simp (maxSteps := 2000000) -implicitDefEqProofs only [↓Sz.s_loopi, ↓Sz.v_pq, ↓Sz.PRE, Sz.POST, Sz.of_int, Sz.of_bool, Sz.of_str, Sz.of_sl, Sz.of_p, Sz.of_agg, Int.cast_ofNat_Int, Nat.mul_one, Nat.reduceDiv, Nat.reduceMod, Int.reduceLT, Int.reduceLE, Int.reduceToNat, Int.reduceAdd, decide_true, decide_false, ↓reduceIte, List.map_cons, List.map_nil, List.length_cons, List.length_nil, List.cons_append, List.nil_append, List.getElem?_cons_zero, List.getElem?_cons_succ, List.getElem?_nil, List.take_succ_cons, List.take_zero, List.drop_succ_cons, List.drop_zero, List.all_cons, List.all_nil, List.set_cons_zero, List.set_cons_succ, List.append_nil, Option.map_some, Option.map_none, cond_true, cond_false, Bool.true_eq_false, Bool.false_eq_true, Bool.not_true, Bool.not_false, Nat.reduceEqDiff, Nat.reduceAdd, Nat.reduceMul, Nat.reduceSub, Nat.reduceLeDiff, Nat.reduceLT, true_and, and_true, reduceCtorEq, Nat.zero_add, Nat.add_zero, Nat.zero_mul, Nat.le_refl, Int.toNat_natCast, Bool.and_self, Bool.true_and, Bool.and_true, if_true, eq_self, forall_const, and_self, implies_true])) <;> (try simp), keep0 hJ⟩ ?_ ?_)
    · intro x hx hI
      obtain ⟨d, hd⟩ : ∃ d, xs[x]? = some d := ⟨_, List.getElem?_eq_getElem hx⟩
      have f := inpI_at hin hd
      have hp : p.isSome = true := inpL_isSome hin (by omega)
      have i0 : (0 : Int) ≤ (x : Int) := by omega
      have i1 : (x : Int) < (xs.length : Int) := by omega
      have w1 := w ((x : Int) + 1) (by omega) (by omega)
      have hs := any_snoc (· == n) hd
      simp only [hI, Bool.false_or] at hs
      simp (maxSteps := 2000000) -implicitDefEqProofs only [f, hp, i0, i1, w1, ↓Sz.s_loopi, ↓Sz.v_pq, ↓Sz.PRE, Sz.POST, Sz.of_int, Sz.of_bool, Sz.of_str, Sz.of_sl, Sz.of_p, Sz.of_agg, Int.cast_ofNat_Int, Nat.mul_one, Nat.reduceDiv, Nat.reduceMod, Int.reduceLT, Int.reduceLE, Int.reduceToNat, Int.reduceAdd, decide_true, decide_false, ↓reduceIte, List.map_cons, List.map_nil, List.length_cons, List.length_nil, List.cons_append, List.nil_append, List.getElem?_cons_zero, List.getElem?_cons_succ, List.getElem?_nil, List.take_succ_cons, List.take_zero, List.drop_succ_cons, List.drop_zero, List.all_cons, List.all_nil, List.set_cons_zero, List.set_cons_succ, List.append_nil, Option.map_some, Option.map_none, cond_true, cond_false, Bool.true_eq_false, Bool.false_eq_true, Bool.not_true, Bool.not_false, Nat.reduceEqDiff, Nat.reduceAdd, Nat.reduceMul, Nat.reduceSub, Nat.reduceLeDiff, Nat.reduceLT, true_and, and_true, reduceCtorEq, Nat.zero_add, Nat.add_zero, Nat.zero_mul, Nat.le_refl, Int.toNat_natCast, Bool.and_self, Bool.true_and, Bool.and_true, if_true, eq_self, forall_const, and_self, implies_true]
      split
      · rename_i h1
        rw [any_good hd h1] at hk
        exact hk
      · rename_i h1
        have h1 : (d == n) = false := by simpa using h1
        rw [h1] at hs
        exact ⟨hs, ⟨[], by simp [Sz.NdL, Sz.NdA], by simp only [FitM, ObLe, LeL, Le, List.cons_append, List.nil_append] <;> (try (simp (maxSteps := 2000000) -implicitDefEqProofs only [↓Sz.s_loopi, ↓Sz.v_pq, ↓Sz.PRE, Sz.POST, Sz.of_int, Sz.of_bool, Sz.of_str, Sz.of_sl, Sz.of_p, Sz.of_agg, Int.cast_ofNat_Int, Nat.mul_one, Nat.reduceDiv, Nat.reduceMod, Int.reduceLT, Int.reduceLE, Int.reduceToNat, Int.reduceAdd, decide_true, decide_false, ↓reduceIte, List.map_cons, List.map_nil, List.length_cons, List.length_nil, List.cons_append, List.nil_append, List.getElem?_cons_zero, List.getElem?_cons_succ, List.getElem?_nil, List.take_succ_cons, List.take_zero, List.drop_succ_cons, List.drop_zero, List.all_cons, List.all_nil, List.set_cons_zero, List.set_cons_succ, List.append_nil, Option.map_some, Option.map_none, cond_true, cond_false, Bool.true_eq_false, Bool.false_eq_true, Bool.not_true, Bool.not_false, Nat.reduceEqDiff, Nat.reduceAdd, Nat.reduceMul, Nat.reduceSub, Nat.reduceLeDiff, Nat.reduceLT, true_and, and_true, reduceCtorEq, Nat.zero_add, Nat.add_zero, Nat.zero_mul, Nat.le_refl, Int.toNat_natCast, Bool.and_self, Bool.true_and, Bool.and_true, if_true, eq_self, forall_const, and_self, implies_true])) <;> (try simp), by simp only [FitE, Le, LeL, List.cons_append, List.nil_append] <;> (try (simp (maxSteps := 2000000) -implicitDefEqProofs only [↓Sz.s_loopi, ↓Sz.v_pq, ↓Sz.PRE, Sz.POST, Sz.of_int, Sz.of_bool, Sz.of_str, Sz.of_sl, Sz.of_p, Sz.of_agg, Int.cast_ofNat_Int, Nat.mul_one, Nat.reduceDiv, Nat.reduceMod, Int.reduceLT, Int.reduceLE, Int.reduceToNat, Int.reduceAdd, decide_true, decide_false, ↓reduceIte, List.map_cons, List.map_nil, List.length_cons, List.length_nil, List.cons_append, List.nil_append, List.getElem?_cons_zero, List.getElem?_cons_succ, List.getElem?_nil, List.take_succ_cons, List.take_zero, List.drop_succ_cons, List.drop_zero, List.all_cons, List.all_nil, List.set_cons_zero, List.set_cons_succ, List.append_nil, Option.map_some, Option.map_none, cond_true, cond_false, Bool.true_eq_false, Bool.false_eq_true, Bool.not_true, Bool.not_false, Nat.reduceEqDiff, Nat.reduceAdd, Nat.reduceMul, Nat.reduceSub, Nat.reduceLeDiff, Nat.reduceLT, true_and, and_true, reduceCtorEq, Nat.zero_add, Nat.add_zero, Nat.zero_mul, Nat.le_refl, Int.toNat_natCast, Bool.and_self, Bool.true_and, Bool.and_true, if_true, eq_self, forall_const, and_self, implies_true])) <;> (try simp), keep0 hJ⟩⟩
    · intro hI
      have i1 : ¬ (xs.length : Int) < (xs.length : Int) := by omega
      rw [List.take_length] at hI
      rw [hI] at hk
      simp (maxSteps := 2000000) -implicitDefEqProofs only [i1, ↓Sz.s_loopi, ↓Sz.v_pq, ↓Sz.PRE, Sz.POST, Sz.of_int, Sz.of_bool, Sz.of_str, Sz.of_sl, Sz.of_p, Sz.of_agg, Int.cast_ofNat_Int, Nat.mul_one, Nat.reduceDiv, Nat.reduceMod, Int.reduceLT, Int.reduceLE, Int.reduceToNat, Int.reduceAdd, decide_true, decide_false, ↓reduceIte, List.map_cons, List.map_nil, List.length_cons, List.length_nil, List.cons_append, List.nil_append, List.getElem?_cons_zero, List.getElem?_cons_succ, List.getElem?_nil, List.take_succ_cons, List.take_zero, List.drop_succ_cons, List.drop_zero, List.all_cons, List.all_nil, List.set_cons_zero, List.set_cons_succ, List.append_nil, Option.map_some, Option.map_none, cond_true, cond_false, Bool.true_eq_false, Bool.false_eq_true, Bool.not_true, Bool.not_false, Nat.reduceEqDiff, Nat.reduceAdd, Nat.reduceMul, Nat.reduceSub, Nat.reduceLeDiff, Nat.reduceLT, true_and, and_true, reduceCtorEq, Nat.zero_add, Nat.add_zero, Nat.zero_mul, Nat.le_refl, Int.toNat_natCast, Bool.and_self, Bool.true_and, Bool.and_true, if_true, eq_self, forall_const, and_self, implies_true]
      exact hk
  · exact h.elim
end Go.Proofs.Ytppndeoiifkkkaa
