/- Layer 49 (plan): PlanEmpty; by symbolic walks. -/
import Derived.Test.YtppndeoiifkkkaaPeB
namespace Go.Proofs.Ytppndeoiifkkkaa
open Go.RowKit Sz
set_option linter.unusedVariables false
set_option linter.unusedSimpArgs false
set_option maxHeartbeats 4000000
set_option maxRecDepth 20000
-- almshouse/almshouselaw49.PlanEmpty (3 parameters)
def x9 : XC := (.seq (.tree (.seq ⟨some 3, none, (.box (.tmp 0))⟩
  (.seq ⟨some 4, none, (.box (.tmp 1))⟩
  (.seq ⟨some 6, none, (.ofA (.mv (.cst (.v (.bool false)))))⟩
  .done))))
 (.seq (.seq (.tree (.seq ⟨some 11, none, (.call (.cst (.fn 42 [])) [])⟩
  (.seq ⟨some 12, none, (.ofA (.un .not (.tmp 11)))⟩
  .done)))
 (.cond (.tmp 12)
 (.seq (.tree (.seq ⟨some 6, none, (.ofA (.mv (.cst (.v (.bool false)))))⟩
  .done))
 .ret)
 .skip))
 (.seq (.seq (.tree (.seq ⟨some 13, none, (.ofA (.load (some 22) (.tmp 3)))⟩
  (.seq ⟨some 14, none, (.call (.cst (.fn 51 [])) [(.tmp 13), (.cst (.v (.int .i64 30))), (.cst (.v (.int .i64 4)))])⟩
  (.seq ⟨some 15, none, (.ofA (.un .not (.tmp 14)))⟩
  .done))))
 (.cond (.tmp 15)
 (.seq (.tree (.seq ⟨some 6, none, (.ofA (.mv (.cst (.v (.bool true)))))⟩
  .done))
 .ret)
 .skip))
 (.seq (.seq (.tree (.seq ⟨some 16, none, (.ofA (.mv (.tmp 2)))⟩
  .done))
 (.cond (.tmp 16)
 (.seq (.tree (.seq ⟨some 17, none, (.ofA (.faddr 2 (.tmp 3)))⟩
  (.seq ⟨some 18, none, (.ofA (.load (some 20) (.tmp 17)))⟩
  (.seq ⟨some 19, none, (.ofA (.mv (.cst (.v (.int .i64 0)))))⟩
  .done))))
 (.block 0 (.loop (.seq (.tree (.seq ⟨some 20, none, (.ofA (.bin .lss (.tmp 19) (.cst (.v (.int .i64 4)))))⟩
  .done))
 (.seq (.cond (.tmp 20)
 .skip
 (.exit 0))
 (.seq (.block 1 (.seq (.tree (.seq ⟨some 21, none, (.ofA (.mv (.tmp 19)))⟩
  (.seq ⟨some 22, none, (.ofA (.idx 4 5 true (.tmp 18) (.tmp 19)))⟩
  (.seq ⟨some 8, none, (.alloc [(.v (.bool false)), (.v (.int .i64 0)), (.v (.int .i64 0)), (.v (.int .i64 0)), (.v (.slice none 0 0))])⟩
  (.seq ⟨some 7, none, (.ofA (.mv (.tmp 21)))⟩
  (.seq ⟨none, none, (.store 5 (.tmp 8) (.tmp 22))⟩
  .done))))))
 (.tree (.seq ⟨some 23, none, (.ofA (.mv (.tmp 7)))⟩
  (.seq ⟨some 24, none, (.ofA (.faddr 2 (.tmp 8)))⟩
  (.seq ⟨some 25, none, (.ofA (.load none (.tmp 24)))⟩
  (.seq ⟨some 26, none, (.ofA (.faddr 3 (.tmp 8)))⟩
  (.seq ⟨some 27, none, (.ofA (.load none (.tmp 26)))⟩
  (.seq ⟨some 28, none, (.build [(.v (.int .i64 0)), (.v (.int .i64 0))] [(0, 1, (.tmp 25)), (1, 1, (.tmp 27))])⟩
  (.seq ⟨some 29, none, (.ofA (.iarr 4 2 (.tmp 4) (.tmp 23)))⟩
  (.seq ⟨none, none, (.store 2 (.tmp 29) (.tmp 28))⟩
  .done)))))))))))
 (.tree (.seq ⟨some 30, none, (.ofA (.bin .add (.tmp 19) (.cst (.v (.int .i64 1)))))⟩
  (.seq ⟨some 19, none, (.ofA (.mv (.tmp 30)))⟩
  .done)))))))))
 .skip))
 (.seq (.tree (.seq ⟨some 32, none, (.ofA (.load (some 22) (.tmp 3)))⟩
  (.seq ⟨some 33, none, (.ofA (.load (some 8) (.tmp 4)))⟩
  (.seq ⟨some 34, none, (.call (.cst (.fn 43 [])) [(.tmp 32), (.tmp 33)])⟩
  (.seq ⟨some 31, none, (.ofA (.mv (.tmp 34)))⟩
  (.seq ⟨some 35, none, (.ofA (.extract 0 (.tmp 31)))⟩
  (.seq ⟨some 36, none, (.ofA (.extract 1 (.tmp 31)))⟩
  (.seq ⟨some 9, none, (.ofA (.mv (.tmp 35)))⟩
  (.seq ⟨some 10, none, (.ofA (.mv (.tmp 36)))⟩
  .done)))))))))
 (.seq (.seq (.tree (.seq ⟨some 37, none, (.ofA (.mv (.tmp 10)))⟩
  (.seq ⟨some 38, none, (.ofA (.bin .neq (.tmp 37) (.cst (.v (.int .i64 0)))))⟩
  .done)))
 (.cond (.tmp 38)
 (.seq (.tree (.seq ⟨some 39, none, (.ofA (.mv (.tmp 2)))⟩
  (.seq ⟨some 40, none, (.ofA (.un .not (.tmp 39)))⟩
  (.seq ⟨some 41, none, (.ofA (.mv (.tmp 40)))⟩
  (.seq ⟨some 42, some (41, true), (.ofA (.mv (.tmp 9)))⟩
  (.seq ⟨some 43, some (41, true), (.ofA (.len (.tmp 42)))⟩
  (.seq ⟨some 44, some (41, true), (.ofA (.bin .eql (.tmp 43) (.cst (.v (.int .i64 0)))))⟩
  (.seq ⟨some 45, none, (.ofA (.pick (.tmp 41) (.tmp 44) (.cst (.v (.bool false)))))⟩
  (.seq ⟨some 6, none, (.ofA (.mv (.tmp 45)))⟩
  .done)))))))))
 .ret)
 .skip))
 (.seq (.tree (.seq ⟨some 46, none, (.ofA (.mv (.tmp 9)))⟩
  (.seq ⟨some 47, none, (.ofA (.len (.tmp 46)))⟩
  (.seq ⟨some 48, none, (.ofA (.bin .eql (.tmp 47) (.cst (.v (.int .i64 0)))))⟩
  (.seq ⟨some 49, none, (.ofA (.load (some 22) (.tmp 3)))⟩
  (.seq ⟨some 50, none, (.ofA (.load (some 8) (.tmp 4)))⟩
  (.seq ⟨some 51, none, (.call (.cst (.fn 47 [])) [(.tmp 49), (.tmp 50)])⟩
  (.seq ⟨some 52, none, (.ofA (.eqb false (.tmp 48) (.tmp 51)))⟩
  (.seq ⟨some 53, none, (.ofA (.mv (.tmp 52)))⟩
  (.seq ⟨some 54, some (53, true), (.ofA (.mv (.tmp 2)))⟩
  (.seq ⟨some 55, some (53, true), (.ofA (.un .not (.tmp 54)))⟩
  (.seq ⟨some 56, some (53, true), (.ofA (.mv (.tmp 55)))⟩
  (.seq ⟨some 57, some (56, false), (.ofA (.mv (.tmp 9)))⟩
  (.seq ⟨some 58, some (56, false), (.ofA (.len (.tmp 57)))⟩
  (.seq ⟨some 59, some (56, false), (.ofA (.bin .eql (.tmp 58) (.cst (.v (.int .i64 0)))))⟩
  (.seq ⟨some 60, some (53, true), (.ofA (.pick (.tmp 56) (.cst (.v (.bool true))) (.tmp 59)))⟩
  (.seq ⟨some 61, none, (.ofA (.pick (.tmp 53) (.tmp 60) (.cst (.v (.bool false)))))⟩
  (.seq ⟨some 6, none, (.ofA (.mv (.tmp 61)))⟩
  .done))))))))))))))))))
 .ret)))))))
def r9 : List XR := [.tmp 6]
theorem fn9 : FnX Try.prog 9 [] 62 x9 r9 := ⟨_, Try.func9, by kernel_rfl, by kernel_rfl, by kernel_rfl, by kernel_rfl⟩

/-! ### The plain law -/
theorem one_empty (t : Tn) (x : Wi) (i : Int) : ((goneF t x i).length + (sizedF t x i).length + (madeF t x i).length = 0) ↔ metK t x = true := by
  unfold goneF sizedF madeF metK staysB
  cases t.there
  · by_cases h1 : x.size = 0 <;> simp [h1]
  · by_cases h1 : x.size = 0
    · simp [h1]
    · by_cases h2 : t.spare = x.spare
      · by_cases h3 : t.size = x.size
        · simp [h1, h2, h3]
        · have : ¬ x.size = t.size := fun e => h3 e.symm
          simp [h1, h2, h3, this]
      · have : ¬ x.spare = t.spare := fun e => h2 e.symm
        simp [h1, h2, this]
theorem ph_len (F : Tn → Wi → Int → List (List Sy.SV)) (i : Nat) (t : Tn) (ts : List Tn) (x : Wi) (xs : List Wi) : (ph F i (t :: ts) (x :: xs)).length = (F t x (i : Int)).length + (ph F (i + 1) ts xs).length := by
  simp only [ph, List.length_append]
theorem plan_empty : ∀ (ts : List Tn) (xs : List Wi) (i : Nat), ts.length = xs.length → ((ph goneF i ts xs ++ ph sizedF i ts xs ++ ph madeF i ts xs).length = 0 ↔ metF ts xs = true)
  | [], [], i, _ => by simp [ph, metF]
  | t :: ts, x :: xs, i, h => by
    have ih := plan_empty ts xs (i + 1) (by simpa using h)
    have h1 := one_empty t x (i : Int)
    simp only [List.length_append] at ih ⊢
    rw [ph_len, ph_len, ph_len]
    have e : metF (t :: ts) (x :: xs) = (metK t x && metF ts xs) := rfl
    rw [e, Bool.and_eq_true, ← h1, ← ih]
    omega
  | [], _ :: _, i, h => by simp at h
  | _ :: _, [], i, h => by simp at h
theorem plan_len (ts : List Tn) (xs : List Wi) (h : ts.length = xs.length) : (((planF ts xs).length : Int) == 0) = metF ts xs := by
  have := plan_empty ts xs 0 h
  unfold planF
  rw [Bool.eq_iff_iff, ← this]
  simp only [beq_iff_eq]
  omega
def asIs (t : Tn) : Wi := ⟨t.size, t.spare⟩
theorem room_of {t : Tn} (h : totF t.size t.spare 4 ≠ 0) : roomB t.size t.spare = true := by
  unfold totF at h
  split at h
  · rename_i h1; exact h1.1
  · exact (h rfl).elim
theorem own_one {t : Tn} (h : okT t) : rightK (asIs t) = true ∧ metK t (asIs t) = true := by
  unfold rightK metK asIs
  cases hth : t.there
  · obtain ⟨h1, h2⟩ := h.1 hth
    simp [h1, h2]
  · have h1 := room_of (h.2 hth)
    have h2 := (roomB_iff _ _).1 h1
    have h3 : ¬ t.size = 0 := by omega
    simp [h1, h3]
theorem own_all : ∀ (ts : List Tn), (∀ t ∈ ts, okT t) → rightF (ts.map asIs) = true ∧ metF ts (ts.map asIs) = true
  | [], _ => by simp [rightF, metF]
  | t :: ts, h => by
    obtain ⟨h1, h2⟩ := own_one (h t (by simp))
    obtain ⟨h3, h4⟩ := own_all ts (fun t ht => h t (by simp [ht]))
    have e1 : rightF ((t :: ts).map asIs) = (rightK (asIs t) && rightF (ts.map asIs)) := rfl
    have e2 : metF (t :: ts) ((t :: ts).map asIs) = (metK t (asIs t) && metF ts (ts.map asIs)) := rfl
    rw [e1, e2, h1, h2, h3, h4]
    exact ⟨rfl, rfl⟩
/-! ### The walk -/
def G9 (J : Inp) : List Sz.CEntry := [⟨42, true, d42⟩, ⟨43, true, d43⟩, ⟨47, true, d47⟩, ⟨51, true, @d51 J⟩]
theorem g9 (J : Inp) : @Sz.GOk J Try.prog (G9 J) := @Sz.GOk.cons J _ _ _ _ _ (@d42_ok J) (@Sz.GOk.cons J _ _ _ _ _ (@d43_ok J) (@Sz.GOk.cons J _ _ _ _ _ (@d47_ok J) (@Sz.GOk.cons J _ _ _ _ _ (@d51_ok J) (@Sz.g0 J _))))
def d9 [Inp] : Sz.Trans := fun args m k => match args with
  | [.agg (.v (.int .i64 g) :: .v (.int .i64 e) :: l), .agg w, .v (.bool own)] => optK (decTz l) fun ts => optK (decWz w) fun xs => (ts.length = 4 ∧ xs.length = 4 ∧ ∀ t ∈ ts, t.n ≤ 9223372036854775807 ∧ ∃ ys : List Int, ys.length = t.n ∧ inpL t.A t.n = some (ys.map (Value.int .i64))) ∧ k (.v (.bool true)) m
  | _ => False
theorem d9_ok [Inp] : Sz.Contract Try.prog 9 true d9 := by
  refine .readN fn9 (G := G9) g9 _ fun args m k h => ?_
  unfold d9 at h
  split at h
  · rename_i g e l w own
    obtain ⟨ts, h1, h'⟩ := optK_inv h
    obtain ⟨xs, h2, ⟨lt, lx, hbl⟩, hk⟩ := optK_inv h'
    obtain rfl := decTz_inv h1
    obtain rfl := decWz_inv h2
    clear h h' h1 h2
    refine ⟨by simp, fun J hJ us hus hIJ => ?_⟩
    obtain ⟨u, t, rfl, hkn, u2, t2, rfl, hkn2, u3, t3, rfl, hkn3, rfl⟩ := hus
    obtain rfl := hkn.2.1 (.int .i64 g :: .int .i64 e :: rowV Tn.cs ts) (by simp)
    obtain rfl := hkn2.2.1 (rowV Wi.cs2 xs) rfl
    obtain rfl := hkn3.1 _ rfl
    clear hkn hkn2 hkn3
    have hbl : ∀ t ∈ ts, t.n ≤ 9223372036854775807 ∧ ∃ ys : List Int, ys.length = t.n ∧ inpL t.A t.n = some (ys.map (Value.int .i64)) := fun t ht => by
      obtain ⟨a, ys, b, c⟩ := hbl t ht
      exact ⟨a, ys, b, hIJ _ _ _ c⟩
    have hplan := plan_len ts xs (by omega)
    obtain ⟨t0, t1, t2, t3, hts⟩ : ∃ t0 t1 t2 t3, ts = [t0, t1, t2, t3] := by
      match ts, lt with
      | [a, b, c, d], _ => exact ⟨a, b, c, d, rfl⟩
    obtain ⟨x0, x1, x2, x3, hxs⟩ : ∃ x0 x1 x2 x3, xs = [x0, x1, x2, x3] := by
      match xs, lx with
      | [a, b, c, d], _ => exact ⟨a, b, c, d, rfl⟩
    have ht : rowV Tn.cs ts = [.bool t0.there, .int .i64 t0.epoch, .int .i64 t0.size, .int .i64 t0.spare, .slice t0.A t0.n t0.c, .bool t1.there, .int .i64 t1.epoch, .int .i64 t1.size, .int .i64 t1.spare, .slice t1.A t1.n t1.c, .bool t2.there, .int .i64 t2.epoch, .int .i64 t2.size, .int .i64 t2.spare, .slice t2.A t2.n t2.c, .bool t3.there, .int .i64 t3.epoch, .int .i64 t3.size, .int .i64 t3.spare, .slice t3.A t3.n t3.c] := by rw [hts]; rfl
    have hx : rowV Wi.cs2 xs = [.int .i64 x0.size, .int .i64 x0.spare, .int .i64 x1.size, .int .i64 x1.spare, .int .i64 x2.size, .int .i64 x2.spare, .int .i64 x3.size, .int .i64 x3.spare] := by rw [hxs]; rfl
    have dt : decTz [.v (.bool t0.there), .v (.int .i64 t0.epoch), .v (.int .i64 t0.size), .v (.int .i64 t0.spare), .v (.slice t0.A t0.n t0.c), .v (.bool t1.there), .v (.int .i64 t1.epoch), .v (.int .i64 t1.size), .v (.int .i64 t1.spare), .v (.slice t1.A t1.n t1.c), .v (.bool t2.there), .v (.int .i64 t2.epoch), .v (.int .i64 t2.size), .v (.int .i64 t2.spare), .v (.slice t2.A t2.n t2.c), .v (.bool t3.there), .v (.int .i64 t3.epoch), .v (.int .i64 t3.size), .v (.int .i64 t3.spare), .v (.slice t3.A t3.n t3.c)] = some ts := by rw [hts]; rfl
    have dx : decWz [.v (.int .i64 x0.size), .v (.int .i64 x0.spare), .v (.int .i64 x1.size), .v (.int .i64 x1.spare), .v (.int .i64 x2.size), .v (.int .i64 x2.spare), .v (.int .i64 x3.size), .v (.int .i64 x3.spare)] = some xs := by rw [hxs]; rfl
    have dy : decWz [.v (.int .i64 t0.size), .v (.int .i64 t0.spare), .v (.int .i64 t1.size), .v (.int .i64 t1.spare), .v (.int .i64 t2.size), .v (.int .i64 t2.spare), .v (.int .i64 t3.size), .v (.int .i64 t3.spare)] = some (ts.map asIs) := by rw [hts]; rfl
    have ly : (ts.map asIs).length = 4 := by rw [List.length_map, lt]
    have hplan2 := plan_len ts (ts.map asIs) (by omega)
    have hown := own_all ts
    have hbl' := eq_true hbl
    clear hts hxs
    generalize hys : ts.map asIs = ys at dy ly hplan2 hown
    clear hys
    rw [ht, hx]
    clear ht hx
    cases own with
    | false =>
      cases hR : rightF xs with
      | true =>
        simp (maxSteps := 2000000) -implicitDefEqProofs only [↓x9, ↓r9, ↓G9, ↓d42, ↓d51, ↓d43, ↓d47, optK_some, dt, dx, lt, lx, hbl', hR, hplan, bne_self_eq_false, beq_self_eq_true, Sz.v_ext, ↓Sz.s_loopi, ↓Sz.v_pq, ↓Sz.PRE, Sz.POST, Sz.of_int, Sz.of_bool, Sz.of_str, Sz.of_sl, Sz.of_p, Sz.of_agg, Int.cast_ofNat_Int, Nat.mul_one, Nat.reduceDiv, Nat.reduceMod, Int.reduceLT, Int.reduceLE, Int.reduceToNat, Int.reduceAdd, decide_true, decide_false, ↓reduceIte, List.map_cons, List.map_nil, List.length_cons, List.length_nil, List.cons_append, List.nil_append, List.getElem?_cons_zero, List.getElem?_cons_succ, List.getElem?_nil, List.take_succ_cons, List.take_zero, List.drop_succ_cons, List.drop_zero, List.all_cons, List.all_nil, List.set_cons_zero, List.set_cons_succ, List.append_nil, Option.map_some, Option.map_none, cond_true, cond_false, Bool.true_eq_false, Bool.false_eq_true, Bool.not_true, Bool.not_false, Nat.reduceEqDiff, Nat.reduceAdd, Nat.reduceMul, Nat.reduceSub, Nat.reduceLeDiff, Nat.reduceLT, true_and, and_true, reduceCtorEq, Nat.zero_add, Nat.add_zero, Nat.zero_mul, Nat.le_refl, Int.toNat_natCast, Bool.and_self, Bool.true_and, Bool.and_true, if_true, eq_self, forall_const, and_self, implies_true]
        intro r hr
        split <;> exact hk
      | false =>
        simp (maxSteps := 2000000) -implicitDefEqProofs only [↓x9, ↓r9, ↓G9, ↓d42, ↓d51, ↓d43, ↓d47, optK_some, dt, dx, lt, lx, hbl', hR, hplan, bne_self_eq_false, beq_self_eq_true, ↓Sz.s_loopi, ↓Sz.v_pq, ↓Sz.PRE, Sz.POST, Sz.of_int, Sz.of_bool, Sz.of_str, Sz.of_sl, Sz.of_p, Sz.of_agg, Int.cast_ofNat_Int, Nat.mul_one, Nat.reduceDiv, Nat.reduceMod, Int.reduceLT, Int.reduceLE, Int.reduceToNat, Int.reduceAdd, decide_true, decide_false, ↓reduceIte, List.map_cons, List.map_nil, List.length_cons, List.length_nil, List.cons_append, List.nil_append, List.getElem?_cons_zero, List.getElem?_cons_succ, List.getElem?_nil, List.take_succ_cons, List.take_zero, List.drop_succ_cons, List.drop_zero, List.all_cons, List.all_nil, List.set_cons_zero, List.set_cons_succ, List.append_nil, Option.map_some, Option.map_none, cond_true, cond_false, Bool.true_eq_false, Bool.false_eq_true, Bool.not_true, Bool.not_false, Nat.reduceEqDiff, Nat.reduceAdd, Nat.reduceMul, Nat.reduceSub, Nat.reduceLeDiff, Nat.reduceLT, true_and, and_true, reduceCtorEq, Nat.zero_add, Nat.add_zero, Nat.zero_mul, Nat.le_refl, Int.toNat_natCast, Bool.and_self, Bool.true_and, Bool.and_true, if_true, eq_self, forall_const, and_self, implies_true]
        intro r hr
        split <;> exact hk
    | true =>
      simp (maxSteps := 2000000) -implicitDefEqProofs only [↓x9, ↓r9, ↓G9, ↓d42, ↓d51, ↓d43, ↓d47, optK_some, dt, dx, lt, lx, hbl', ↓Sz.s_loopi, ↓Sz.v_pq, ↓Sz.PRE, Sz.POST, Sz.of_int, Sz.of_bool, Sz.of_str, Sz.of_sl, Sz.of_p, Sz.of_agg, Int.cast_ofNat_Int, Nat.mul_one, Nat.reduceDiv, Nat.reduceMod, Int.reduceLT, Int.reduceLE, Int.reduceToNat, Int.reduceAdd, decide_true, decide_false, ↓reduceIte, List.map_cons, List.map_nil, List.length_cons, List.length_nil, List.cons_append, List.nil_append, List.getElem?_cons_zero, List.getElem?_cons_succ, List.getElem?_nil, List.take_succ_cons, List.take_zero, List.drop_succ_cons, List.drop_zero, List.all_cons, List.all_nil, List.set_cons_zero, List.set_cons_succ, List.append_nil, Option.map_some, Option.map_none, cond_true, cond_false, Bool.true_eq_false, Bool.false_eq_true, Bool.not_true, Bool.not_false, Nat.reduceEqDiff, Nat.reduceAdd, Nat.reduceMul, Nat.reduceSub, Nat.reduceLeDiff, Nat.reduceLT, true_and, and_true, reduceCtorEq, Nat.zero_add, Nat.add_zero, Nat.zero_mul, Nat.le_refl, Int.toNat_natCast, Bool.and_self, Bool.true_and, Bool.and_true, if_true, eq_self, forall_const, and_self, implies_true]
      intro r hr
      split
      · exact hk
      · rename_i hrr
        have hrt : r = true := by simpa using hrr
        obtain ⟨hR, hM⟩ := hown (hr hrt)
        rw [hM] at hplan2
        have w (x : Int) (h1 : -9223372036854775808 ≤ x) (h2 : x ≤ 9223372036854775807) : IntKind.i64.wrap x = x := wrap_id h1 h2
        refine Sz.TXi_of (Sz.TX_unroll (g9 _) 5 ?_)
        simp (maxSteps := 2000000) -implicitDefEqProofs only [↓G9, ↓d43, ↓d47, optK_some, dt, dy, lt, ly, hR, hM, hplan2, bne_self_eq_false, beq_self_eq_true, Sz.w_64, ↓Sz.s_loopi, ↓Sz.v_pq, ↓Sz.PRE, Sz.POST, Sz.of_int, Sz.of_bool, Sz.of_str, Sz.of_sl, Sz.of_p, Sz.of_agg, Int.cast_ofNat_Int, Nat.mul_one, Nat.reduceDiv, Nat.reduceMod, Int.reduceLT, Int.reduceLE, Int.reduceToNat, Int.reduceAdd, decide_true, decide_false, ↓reduceIte, List.map_cons, List.map_nil, List.length_cons, List.length_nil, List.cons_append, List.nil_append, List.getElem?_cons_zero, List.getElem?_cons_succ, List.getElem?_nil, List.take_succ_cons, List.take_zero, List.drop_succ_cons, List.drop_zero, List.all_cons, List.all_nil, List.set_cons_zero, List.set_cons_succ, List.append_nil, Option.map_some, Option.map_none, cond_true, cond_false, Bool.true_eq_false, Bool.false_eq_true, Bool.not_true, Bool.not_false, Nat.reduceEqDiff, Nat.reduceAdd, Nat.reduceMul, Nat.reduceSub, Nat.reduceLeDiff, Nat.reduceLT, true_and, and_true, reduceCtorEq, Nat.zero_add, Nat.add_zero, Nat.zero_mul, Nat.le_refl, Int.toNat_natCast, Bool.and_self, Bool.true_and, Bool.and_true, if_true, eq_self, forall_const, and_self, implies_true]
        exact hk
  · exact h.elim
end Go.Proofs.Ytppndeoiifkkkaa
