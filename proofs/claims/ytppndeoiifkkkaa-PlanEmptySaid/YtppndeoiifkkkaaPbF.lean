/- Layer 49 (plan): the document's steps; by symbolic walks, tenant by tenant. -/
import Derived.Test.YtppndeoiifkkkaaPbE
namespace Go.Proofs.Ytppndeoiifkkkaa
open Go.RowKit Sy
set_option linter.unusedVariables false
set_option linter.unusedSimpArgs false
set_option maxHeartbeats 4000000
set_option maxRecDepth 20000
-- almshouse/almshouseref49.Steps (2 parameters)
def x50 : XC := (.seq (.tree (.seq ⟨some 2, none, (.box (.tmp 0))⟩
  (.seq ⟨some 3, none, (.box (.tmp 1))⟩
  (.seq ⟨some 4, none, (.ofA (.mv (.cst (.v (.slice none 0 0)))))⟩
  .done))))
 (.seq (.tree (.seq ⟨some 5, none, (.ofA (.mv (.cst (.v (.slice none 0 0)))))⟩
  (.seq ⟨some 6, none, (.ofA (.mv (.cst (.v (.slice none 0 0)))))⟩
  (.seq ⟨some 7, none, (.ofA (.mv (.cst (.v (.slice none 0 0)))))⟩
  .done))))
 (.seq (.seq (.tree (.seq ⟨some 11, none, (.ofA (.faddr 2 (.tmp 2)))⟩
  (.seq ⟨some 12, none, (.ofA (.load (some 20) (.tmp 11)))⟩
  (.seq ⟨some 13, none, (.ofA (.mv (.cst (.v (.int .i64 0)))))⟩
  .done))))
 (.block 0 (.loop (.seq (.tree (.seq ⟨some 14, none, (.ofA (.bin .lss (.tmp 13) (.cst (.v (.int .i64 4)))))⟩
  .done))
 (.seq (.cond (.tmp 14)
 .skip
 (.exit 0))
 (.seq (.block 1 (.seq (.tree (.seq ⟨some 15, none, (.ofA (.mv (.tmp 13)))⟩
  (.seq ⟨some 16, none, (.ofA (.idx 4 5 true (.tmp 12) (.tmp 13)))⟩
  (.seq ⟨some 9, none, (.alloc [(.v (.bool false)), (.v (.int .i64 0)), (.v (.int .i64 0)), (.v (.int .i64 0)), (.v (.slice none 0 0))])⟩
  (.seq ⟨some 8, none, (.ofA (.mv (.tmp 15)))⟩
  (.seq ⟨none, none, (.store 5 (.tmp 9) (.tmp 16))⟩
  .done))))))
 (.seq (.tree (.seq ⟨some 17, none, (.ofA (.mv (.tmp 8)))⟩
  (.seq ⟨some 18, none, (.ofA (.iarr 4 2 (.tmp 3) (.tmp 17)))⟩
  (.seq ⟨some 19, none, (.ofA (.load (some 2) (.tmp 18)))⟩
  (.seq ⟨some 10, none, (.alloc [(.v (.int .i64 0)), (.v (.int .i64 0))])⟩
  (.seq ⟨none, none, (.store 2 (.tmp 10) (.tmp 19))⟩
  .done))))))
 (.seq (.seq (.tree (.seq ⟨some 20, none, (.ofA (.load (some 5) (.tmp 9)))⟩
  (.seq ⟨some 21, none, (.ofA (.load (some 2) (.tmp 10)))⟩
  (.seq ⟨some 22, none, (.call (.cst (.fn 106 [])) [(.tmp 20), (.tmp 21)])⟩
  .done))))
 (.cond (.tmp 22)
 (.seq (.seq (.tree (.seq ⟨some 23, none, (.ofA (.faddr 2 (.tmp 9)))⟩
  (.seq ⟨some 24, none, (.ofA (.load none (.tmp 23)))⟩
  (.seq ⟨some 25, none, (.ofA (.faddr 0 (.tmp 10)))⟩
  (.seq ⟨some 26, none, (.ofA (.load none (.tmp 25)))⟩
  (.seq ⟨some 27, none, (.ofA (.bin .neq (.tmp 24) (.tmp 26)))⟩
  .done))))))
 (.cond (.tmp 27)
 (.tree (.seq ⟨some 28, none, (.ofA (.mv (.tmp 6)))⟩
  (.seq ⟨some 29, none, (.ofA (.mv (.tmp 8)))⟩
  (.seq ⟨some 30, none, (.ofA (.faddr 0 (.tmp 10)))⟩
  (.seq ⟨some 31, none, (.ofA (.load none (.tmp 30)))⟩
  (.seq ⟨some 32, none, (.build [(.v (.int .i64 0)), (.v (.int .i64 0)), (.v (.int .i64 0)), (.v (.int .i64 0)), (.v (.int .i64 0)), (.v (.int .i64 0)), (.v (.int .i64 0)), (.v (.string ⟨#[]⟩))] [(0, 1, (.cst (.v (.int .i64 2)))), (1, 1, (.tmp 29)), (3, 1, (.tmp 31))])⟩
  (.seq ⟨some 33, none, (.buildSl 8 1 [(.v (.int .i64 0)), (.v (.int .i64 0)), (.v (.int .i64 0)), (.v (.int .i64 0)), (.v (.int .i64 0)), (.v (.int .i64 0)), (.v (.int .i64 0)), (.v (.string ⟨#[]⟩))] [(0, 8, (.tmp 32))])⟩
  (.seq ⟨some 34, none, (.app 8 72 (.tmp 28) (.tmp 33))⟩
  (.seq ⟨some 6, none, (.ofA (.mv (.tmp 34)))⟩
  .done)))))))))
 .skip))
 (.exit 1))
 .skip))
 (.seq (.seq (.tree (.seq ⟨some 35, none, (.ofA (.faddr 0 (.tmp 9)))⟩
  (.seq ⟨some 36, none, (.ofA (.load none (.tmp 35)))⟩
  .done)))
 (.cond (.tmp 36)
 (.tree (.seq ⟨some 37, none, (.ofA (.mv (.tmp 5)))⟩
  (.seq ⟨some 38, none, (.ofA (.mv (.tmp 8)))⟩
  (.seq ⟨some 39, none, (.build [(.v (.int .i64 0)), (.v (.int .i64 0)), (.v (.int .i64 0)), (.v (.int .i64 0)), (.v (.int .i64 0)), (.v (.int .i64 0)), (.v (.int .i64 0)), (.v (.string ⟨#[]⟩))] [(0, 1, (.cst (.v (.int .i64 3)))), (1, 1, (.tmp 38))])⟩
  (.seq ⟨some 40, none, (.buildSl 8 1 [(.v (.int .i64 0)), (.v (.int .i64 0)), (.v (.int .i64 0)), (.v (.int .i64 0)), (.v (.int .i64 0)), (.v (.int .i64 0)), (.v (.int .i64 0)), (.v (.string ⟨#[]⟩))] [(0, 8, (.tmp 39))])⟩
  (.seq ⟨some 41, none, (.app 8 72 (.tmp 37) (.tmp 40))⟩
  (.seq ⟨some 5, none, (.ofA (.mv (.tmp 41)))⟩
  .done)))))))
 .skip))
 (.seq (.tree (.seq ⟨some 42, none, (.ofA (.faddr 0 (.tmp 10)))⟩
  (.seq ⟨some 43, none, (.ofA (.load none (.tmp 42)))⟩
  (.seq ⟨some 44, none, (.ofA (.bin .neq (.tmp 43) (.cst (.v (.int .i64 0)))))⟩
  .done))))
 (.cond (.tmp 44)
 (.tree (.seq ⟨some 45, none, (.ofA (.mv (.tmp 7)))⟩
  (.seq ⟨some 46, none, (.ofA (.mv (.tmp 8)))⟩
  (.seq ⟨some 47, none, (.ofA (.faddr 0 (.tmp 10)))⟩
  (.seq ⟨some 48, none, (.ofA (.load none (.tmp 47)))⟩
  (.seq ⟨some 49, none, (.ofA (.faddr 1 (.tmp 10)))⟩
  (.seq ⟨some 50, none, (.ofA (.load none (.tmp 49)))⟩
  (.seq ⟨some 51, none, (.build [(.v (.int .i64 0)), (.v (.int .i64 0)), (.v (.int .i64 0)), (.v (.int .i64 0)), (.v (.int .i64 0)), (.v (.int .i64 0)), (.v (.int .i64 0)), (.v (.string ⟨#[]⟩))] [(0, 1, (.cst (.v (.int .i64 1)))), (1, 1, (.tmp 46)), (3, 1, (.tmp 48)), (4, 1, (.tmp 50))])⟩
  (.seq ⟨some 52, none, (.buildSl 8 1 [(.v (.int .i64 0)), (.v (.int .i64 0)), (.v (.int .i64 0)), (.v (.int .i64 0)), (.v (.int .i64 0)), (.v (.int .i64 0)), (.v (.int .i64 0)), (.v (.string ⟨#[]⟩))] [(0, 8, (.tmp 51))])⟩
  (.seq ⟨some 53, none, (.app 8 72 (.tmp 45) (.tmp 52))⟩
  (.seq ⟨some 7, none, (.ofA (.mv (.tmp 53)))⟩
  .done)))))))))))
 .skip)))))))
 (.tree (.seq ⟨some 54, none, (.ofA (.bin .add (.tmp 13) (.cst (.v (.int .i64 1)))))⟩
  (.seq ⟨some 13, none, (.ofA (.mv (.tmp 54)))⟩
  .done)))))))))
 (.seq (.tree (.seq ⟨some 55, none, (.ofA (.mv (.tmp 5)))⟩
  (.seq ⟨some 56, none, (.ofA (.mv (.tmp 6)))⟩
  (.seq ⟨some 57, none, (.app 8 72 (.tmp 55) (.tmp 56))⟩
  (.seq ⟨some 58, none, (.ofA (.mv (.tmp 7)))⟩
  (.seq ⟨some 59, none, (.app 8 72 (.tmp 57) (.tmp 58))⟩
  (.seq ⟨some 4, none, (.ofA (.mv (.tmp 59)))⟩
  .done)))))))
 .ret))))
def r50 : List XR := [.tmp 4]
theorem fn50 : FnX Try.prog 50 [] 60 x50 r50 := ⟨_, Try.func50, by kernel_rfl, by kernel_rfl, by kernel_rfl, by kernel_rfl⟩

theorem led_len (ts : List Tn) : (ts.flatMap tS).length = ts.length * 5 := by
  induction ts with
  | nil => rfl
  | cons t ts ih => simp only [List.flatMap_cons, List.length_append, ih, tS, List.length_cons, List.length_nil]; omega
theorem wis_len (ts : List Wi) : (ts.flatMap wS).length = ts.length * 2 := by
  induction ts with
  | nil => rfl
  | cons t ts ih => simp only [List.flatMap_cons, List.length_append, ih, wS, List.length_cons, List.length_nil]; omega
theorem led_at : ∀ (ts : List Tn) (x : Nat) (h : x < ts.length), ((ts.flatMap tS).drop (x * 5)).take 5 = tS ts[x]
  | t :: ts, 0, h => rfl
  | t :: ts, x + 1, h => by
    have e : (x + 1) * 5 = x * 5 + 5 := by omega
    rw [e]
    exact led_at ts x (by simpa using h)
theorem wis_at : ∀ (ts : List Wi) (x : Nat) (h : x < ts.length), ((ts.flatMap wS).drop (x * 2)).take 2 = wS ts[x]
  | t :: ts, 0, h => rfl
  | t :: ts, x + 1, h => by
    have e : (x + 1) * 2 = x * 2 + 2 := by omega
    rw [e]
    exact wis_at ts x (by simpa using h)
theorem ph_step (F : Tn → Wi → Int → List (List SV)) : ∀ (i : Nat) (ts : List Tn) (xs : List Wi) (x : Nat) (h : x < ts.length) (h2 : x < xs.length), ph F i (ts.take (x + 1)) (xs.take (x + 1)) = ph F i (ts.take x) (xs.take x) ++ F ts[x] xs[x] ((i + x : Nat) : Int)
  | i, t :: ts, w :: xs, 0, h, h2 => by simp [ph]
  | i, t :: ts, w :: xs, x + 1, h, h2 => by
    simp only [List.take_succ_cons, ph, List.getElem_cons_succ, List.append_assoc]
    rw [ph_step F (i + 1) ts xs x (by simpa using h) (by simpa using h2)]
    congr 3
    omega
  | i, [], _, x, h, h2 => by simp at h
  | i, _ :: _, [], x, h, h2 => by simp at h2
def Ones (l : List (List SV)) : Prop := ∀ s ∈ l, s.all SV.one = true
theorem Ones.app {k l : List (List SV)} (h : Ones k) (h2 : Ones l) : Ones (k ++ l) := fun s hs => by
  rcases List.mem_append.1 hs with hs | hs
  · exact h s hs
  · exact h2 s hs
theorem goneF_one (t : Tn) (x : Wi) (i : Int) : Ones (goneF t x i) := by
  unfold goneF; split
  · intro s hs; simp at hs; subst hs; rfl
  · intro s hs; simp at hs
theorem sizedF_one (t : Tn) (x : Wi) (i : Int) : Ones (sizedF t x i) := by
  unfold sizedF; split
  · intro s hs; simp at hs; subst hs; rfl
  · intro s hs; simp at hs
theorem madeF_one (t : Tn) (x : Wi) (i : Int) : Ones (madeF t x i) := by
  unfold madeF; split
  · intro s hs; simp at hs; subst hs; rfl
  · intro s hs; simp at hs
theorem ph_one {F : Tn → Wi → Int → List (List SV)} (hF : ∀ t x i, Ones (F t x i)) : ∀ (i : Nat) (ts : List Tn) (xs : List Wi), Ones (ph F i ts xs)
  | i, [], xs => by simp only [ph]; intro s hs; simp at hs
  | i, t :: ts, [] => by simp only [ph]; intro s hs; simp at hs
  | i, t :: ts, x :: xs => by
    simp only [ph]
    exact (hF t x _).app (ph_one hF (i + 1) ts xs)
theorem flat_one : ∀ {l : List (List SV)}, Ones l → l.flatten.all SV.one = true
  | [], h => rfl
  | s :: l, h => by
    simp only [List.flatten_cons, List.all_append, Bool.and_eq_true]
    exact ⟨h s (by simp), flat_one fun x hx => h x (by simp [hx])⟩
def c50 : Trans := fun args m k => match args with
  | [.agg (.v g :: .v e :: l), .agg w] => ledK (decT l) (decW w) fun ts xs => k (outV m.length (planF ts xs)) (m ++ outM (planF ts xs))
  | _ => False
theorem g106 : GOk Try.prog [⟨106, true, c106⟩] := GOk.cons c106_ok g0
/-- The three rows, so far. -/
def rowF (F : Tn → Wi → Int → List (List SV)) (ts : List Tn) (xs : List Wi) (x : Nat) : List (List SV) := ph F 0 (ts.take x) (xs.take x)
/-- What is known of a row that isn't empty. -/
structure RowOk (cs : List SV) (n : Nat) : Prop where
  len : cs.length = n * 8
  pos : n ≠ 0
  le : n ≤ 4
  plain : plainL cs = true
  one : cs.all SV.one = true
theorem RowOk.of {a : List SV} {l : List (List SV)} (h : Good 4 (a :: l)) (h2 : Ones (a :: l)) : RowOk (a :: l).flatten (a :: l).length :=
  ⟨flat_len h, by simp, h.1, flat_plain h, flat_one h2⟩
theorem c50_ok : Contract Try.prog 50 true c50 := by
  refine .fresh fn50 g106 _ fun args m k h => ?_
  unfold c50 at h
  split at h
  · rename_i g e l w
    obtain ⟨t0, t1, t2, t3, x0, x1, x2, x3, d1, d2, hk⟩ := ledK_inv h
    clear h
    have h := hk
    clear hk
    obtain rfl := decT_inv d1
    obtain rfl := decW_inv d2
    clear d1 d2
    obtain ⟨ts, hts⟩ : ∃ ts, ts = [t0, t1, t2, t3] := ⟨_, rfl⟩
    obtain ⟨xs, hxs⟩ : ∃ xs, xs = [x0, x1, x2, x3] := ⟨_, rfl⟩
    rw [← hts, ← hxs] at h ⊢
    have lt : ts.length = 4 := by rw [hts]; rfl
    have lx : xs.length = 4 := by rw [hxs]; rfl
    clear hts hxs t0 t1 t2 t3 x0 x1 x2 x3
    have pL := led_plain ts
    have pW := wis_plain xs
    have LL : (ts.flatMap tS).length = 20 := by rw [led_len, lt]
    have LW : (xs.flatMap wS).length = 8 := by rw [wis_len, lx]
    have tL : (ts.flatMap tS).take 20 = ts.flatMap tS := List.take_of_length_le (by omega)
    refine ⟨[], [], [.agg (.v g :: .v e :: ts.flatMap tS), .agg (xs.flatMap wS)], by simp, trivial, by simp, LeL_plain _ (by simp only [Sy.p_c, Sy.p_agg, Sy.p_v, Sy.p_0, pL, pW, Bool.and_self]), by simp, ?_⟩
    have hA : ∀ x, Good 4 (rowF goneF ts xs x) := fun x => ⟨Nat.le_trans (ph_ok goneF_ok 0 (ts.take x) (xs.take x)).1 (by simp; omega), (ph_ok goneF_ok 0 (ts.take x) (xs.take x)).2⟩
    have hB : ∀ x, Good 4 (rowF sizedF ts xs x) := fun x => ⟨Nat.le_trans (ph_ok sizedF_ok 0 (ts.take x) (xs.take x)).1 (by simp; omega), (ph_ok sizedF_ok 0 (ts.take x) (xs.take x)).2⟩
    have hC : ∀ x, Good 4 (rowF madeF ts xs x) := fun x => ⟨Nat.le_trans (ph_ok madeF_ok 0 (ts.take x) (xs.take x)).1 (by simp; omega), (ph_ok madeF_ok 0 (ts.take x) (xs.take x)).2⟩
    have oA : ∀ x, Ones (rowF goneF ts xs x) := fun x => ph_one goneF_one 0 _ _
    have oB : ∀ x, Ones (rowF sizedF ts xs x) := fun x => ph_one sizedF_one 0 _ _
    have oC : ∀ x, Ones (rowF madeF ts xs x) := fun x => ph_one madeF_one 0 _ _
    have hP : planF ts xs = rowF goneF ts xs 4 ++ rowF sizedF ts xs 4 ++ rowF madeF ts xs 4 := by
      unfold rowF planF
      rw [List.take_of_length_le (by omega), List.take_of_length_le (by omega)]
    have pL' : ∀ g, LeL g (ts.flatMap tS) (ts.flatMap tS) := fun g => LeL_plain g pL
    have pW' : ∀ g, LeL g (xs.flatMap wS) (xs.flatMap wS) := fun g => LeL_plain g pW
    simp (maxSteps := 2000000) -implicitDefEqProofs only [↓x50, ↓r50, LL, LW, tL, ↓Sy.PRE, Sy.POST, Nat.reduceDiv, Nat.reduceMod, Int.reduceLT, Int.reduceLE, Int.reduceToNat, Int.reduceAdd, decide_true, decide_false, ↓reduceIte, List.map_cons, List.map_nil, List.length_cons, List.length_nil, List.cons_append, List.nil_append, List.getElem?_cons_zero, List.getElem?_cons_succ, List.getElem?_nil, List.take_succ_cons, List.take_zero, List.drop_succ_cons, List.drop_zero, List.all_cons, List.all_nil, List.set_cons_zero, List.set_cons_succ, List.append_nil, Option.map_some, Option.map_none, cond_true, cond_false, Bool.true_eq_false, Bool.false_eq_true, Bool.not_true, Bool.not_false, Nat.reduceEqDiff, Nat.reduceAdd, Nat.reduceMul, Nat.reduceSub, Nat.reduceLeDiff, Nat.reduceLT, true_and, and_true, reduceCtorEq, Nat.zero_add, Nat.add_zero, Nat.zero_mul, Nat.le_refl, Int.toNat_natCast, Bool.and_self, Bool.true_and, Bool.and_true, if_true, eq_self, forall_const, and_self, implies_true]
    refine TX_loop g106 (X := { x : Nat // x ≤ 4 }) (fun x => [(3, .ptr 1 0), (5, outV 2 (rowF goneF ts xs x.1)), (6, outV (2 + (outM (rowF goneF ts xs x.1)).length) (rowF sizedF ts xs x.1)), (7, outV (2 + (outM (rowF goneF ts xs x.1)).length + (outM (rowF sizedF ts xs x.1)).length) (rowF madeF ts xs x.1)), (12, .agg (ts.flatMap tS)), (13, .v (.int .i64 (x.1 : Int)))]) (fun x => [⟨true, .v g :: .v e :: ts.flatMap tS⟩, ⟨true, xs.flatMap wS⟩] ++ (outM (rowF goneF ts xs x.1) ++ (outM (rowF sizedF ts xs x.1) ++ outM (rowF madeF ts xs x.1)))) (fun x => 4 - x.1) ⟨0, by omega⟩ ?_ ?_
    · have z : ∀ F, rowF F ts xs 0 = [] := fun F => rfl
      exact ⟨[0, 1], by simp, by simp only [z, outM_nil, FitM, ObLe, LeL, Le, List.append_nil, List.cons_append, List.nil_append]; simp (maxSteps := 2000000) -implicitDefEqProofs only [pL', pW', ↓Sy.PRE, Sy.POST, Nat.reduceDiv, Nat.reduceMod, Int.reduceLT, Int.reduceLE, Int.reduceToNat, Int.reduceAdd, decide_true, decide_false, ↓reduceIte, List.map_cons, List.map_nil, List.length_cons, List.length_nil, List.cons_append, List.nil_append, List.getElem?_cons_zero, List.getElem?_cons_succ, List.getElem?_nil, List.take_succ_cons, List.take_zero, List.drop_succ_cons, List.drop_zero, List.all_cons, List.all_nil, List.set_cons_zero, List.set_cons_succ, List.append_nil, Option.map_some, Option.map_none, cond_true, cond_false, Bool.true_eq_false, Bool.false_eq_true, Bool.not_true, Bool.not_false, Nat.reduceEqDiff, Nat.reduceAdd, Nat.reduceMul, Nat.reduceSub, Nat.reduceLeDiff, Nat.reduceLT, true_and, and_true, reduceCtorEq, Nat.zero_add, Nat.add_zero, Nat.zero_mul, Nat.le_refl, Int.toNat_natCast, Bool.and_self, Bool.true_and, Bool.and_true, if_true, eq_self, forall_const, and_self, implies_true]; try simp, by simp only [z, outV_nil, FitE, Le, LeL, List.cons_append, List.nil_append]; simp (maxSteps := 2000000) -implicitDefEqProofs only [pL', ↓Sy.PRE, Sy.POST, Nat.reduceDiv, Nat.reduceMod, Int.reduceLT, Int.reduceLE, Int.reduceToNat, Int.reduceAdd, decide_true, decide_false, ↓reduceIte, List.map_cons, List.map_nil, List.length_cons, List.length_nil, List.cons_append, List.nil_append, List.getElem?_cons_zero, List.getElem?_cons_succ, List.getElem?_nil, List.take_succ_cons, List.take_zero, List.drop_succ_cons, List.drop_zero, List.all_cons, List.all_nil, List.set_cons_zero, List.set_cons_succ, List.append_nil, Option.map_some, Option.map_none, cond_true, cond_false, Bool.true_eq_false, Bool.false_eq_true, Bool.not_true, Bool.not_false, Nat.reduceEqDiff, Nat.reduceAdd, Nat.reduceMul, Nat.reduceSub, Nat.reduceLeDiff, Nat.reduceLT, true_and, and_true, reduceCtorEq, Nat.zero_add, Nat.add_zero, Nat.zero_mul, Nat.le_refl, Int.toNat_natCast, Bool.and_self, Bool.true_and, Bool.and_true, if_true, eq_self, forall_const, and_self, implies_true]; try simp⟩
    · rintro ⟨x, hx⟩
      have hA := hA x
      have hB := hB x
      have hC := hC x
      have oA := oA x
      have oB := oB x
      have oC := oC x
      by_cases hlt : x < 4
      · have dT := led_at ts x (by omega)
        have dW := wis_at xs x (by omega)
        have sA : rowF goneF ts xs (x + 1) = rowF goneF ts xs x ++ goneF ts[x] xs[x] (x : Int) := by have := ph_step goneF 0 ts xs x (by omega) (by omega); simpa [rowF] using this
        have sB : rowF sizedF ts xs (x + 1) = rowF sizedF ts xs x ++ sizedF ts[x] xs[x] (x : Int) := by have := ph_step sizedF 0 ts xs x (by omega) (by omega); simpa [rowF] using this
        have sC : rowF madeF ts xs (x + 1) = rowF madeF ts xs x ++ madeF ts[x] xs[x] (x : Int) := by have := ph_step madeF 0 ts xs x (by omega) (by omega); simpa [rowF] using this
        generalize rowF goneF ts xs x = a at hA oA sA
        generalize rowF sizedF ts xs x = b at hB oB sB
        generalize rowF madeF ts xs x = c at hC oC sC
        generalize ts[x] = t at dT sA sB sC
        generalize xs[x] = q at dW sA sB sC
        simp only [tS] at dT
        simp only [wS] at dW
        have i0 : (0 : Int) ≤ (x : Int) := by omega
        have i4 : (x : Int) < 4 := by omega
        have w1 : IntKind.i64.wrap ((x : Int) + 1) = (x : Int) + 1 := wrap_id (by omega) (by omega)
        have f5 : x * 5 + 5 ≤ 20 := by omega
        have f2 : x * 2 + 2 ≤ 8 := by omega
        have hm0 : 1 ≤ maxLen := by simp [maxLen]
        rcases a with _ | ⟨ha, ta⟩ <;> rcases b with _ | ⟨hb, tb⟩ <;> rcases c with _ | ⟨hc, tc⟩
        · skip
          skip
          simp only [outV_nil, outM_nil, List.length_nil, Nat.add_zero, List.nil_append, List.append_nil]
          simp only [ outV_nil, outM_nil, List.length_nil, List.length_cons, List.append_nil, List.nil_append, List.cons_append, Nat.add_zero, Nat.zero_add, Nat.reduceAdd]
          simp (maxSteps := 2000000) -implicitDefEqProofs only [↓c106, LL, LW, dT, dW, i0, i4, w1, f5, f2, hm0, tn_eta, spS, ↓Sy.PRE, Sy.POST, Nat.reduceDiv, Nat.reduceMod, Int.reduceLT, Int.reduceLE, Int.reduceToNat, Int.reduceAdd, decide_true, decide_false, ↓reduceIte, List.map_cons, List.map_nil, List.length_cons, List.length_nil, List.cons_append, List.nil_append, List.getElem?_cons_zero, List.getElem?_cons_succ, List.getElem?_nil, List.take_succ_cons, List.take_zero, List.drop_succ_cons, List.drop_zero, List.all_cons, List.all_nil, List.set_cons_zero, List.set_cons_succ, List.append_nil, Option.map_some, Option.map_none, cond_true, cond_false, Bool.true_eq_false, Bool.false_eq_true, Bool.not_true, Bool.not_false, Nat.reduceEqDiff, Nat.reduceAdd, Nat.reduceMul, Nat.reduceSub, Nat.reduceLeDiff, Nat.reduceLT, true_and, and_true, reduceCtorEq, Nat.zero_add, Nat.add_zero, Nat.zero_mul, Nat.le_refl, Int.toNat_natCast, Bool.and_self, Bool.true_and, Bool.and_true, if_true, eq_self, forall_const, and_self, implies_true]
          split
          · rename_i c1
            split
            · rename_i c2
              have eA : rowF goneF ts xs (x + 1) = [] := by rw [sA]; unfold goneF; rw [if_neg (by simp_all)]; rfl
              have MA : outM (rowF goneF ts xs (x + 1)) = [] := by rw [eA]; rfl
              have VA : ∀ k, outV k (rowF goneF ts xs (x + 1)) = .v (.slice none 0 0) := fun k => by rw [eA]; rfl
              have eB : rowF sizedF ts xs (x + 1) = [spS 2 (x : Int) q.size 0] := by rw [sB]; unfold sizedF; rw [if_pos (by simp_all)]; rfl
              have MB : outM (rowF sizedF ts xs (x + 1)) = [⟨true, spS 2 (x : Int) q.size 0⟩] := by rw [eB]; rfl
              have VB : ∀ k, outV k (rowF sizedF ts xs (x + 1)) = .row k 0 1 8 := fun k => by rw [eB]; rfl
              have eC : rowF madeF ts xs (x + 1) = [] := by rw [sC]; unfold madeF; rw [if_neg (by simp_all)]; rfl
              have MC : outM (rowF madeF ts xs (x + 1)) = [] := by rw [eC]; rfl
              have VC : ∀ k, outV k (rowF madeF ts xs (x + 1)) = .v (.slice none 0 0) := fun k => by rw [eC]; rfl
              (refine ⟨⟨x + 1, by omega⟩, by simp only; omega, [0, 1, 5], by simp, ?_, ?_⟩ <;> simp only [MA, MB, MC, FitM, ObLe, LeL, Le, spS, List.append_nil, List.cons_append, List.nil_append, VA, VB, VC, List.length_nil, List.length_cons, Nat.add_zero, Nat.zero_add, Nat.reduceAdd, FitE] <;> (try simp (maxSteps := 2000000) -implicitDefEqProofs only [pL', pW', ↓Sy.PRE, Sy.POST, Nat.reduceDiv, Nat.reduceMod, Int.reduceLT, Int.reduceLE, Int.reduceToNat, Int.reduceAdd, decide_true, decide_false, ↓reduceIte, List.map_cons, List.map_nil, List.length_cons, List.length_nil, List.cons_append, List.nil_append, List.getElem?_cons_zero, List.getElem?_cons_succ, List.getElem?_nil, List.take_succ_cons, List.take_zero, List.drop_succ_cons, List.drop_zero, List.all_cons, List.all_nil, List.set_cons_zero, List.set_cons_succ, List.append_nil, Option.map_some, Option.map_none, cond_true, cond_false, Bool.true_eq_false, Bool.false_eq_true, Bool.not_true, Bool.not_false, Nat.reduceEqDiff, Nat.reduceAdd, Nat.reduceMul, Nat.reduceSub, Nat.reduceLeDiff, Nat.reduceLT, true_and, and_true, reduceCtorEq, Nat.zero_add, Nat.add_zero, Nat.zero_mul, Nat.le_refl, Int.toNat_natCast, Bool.and_self, Bool.true_and, Bool.and_true, if_true, eq_self, forall_const, and_self, implies_true]) <;> try simp)
            · rename_i c2
              have eA : rowF goneF ts xs (x + 1) = [] := by rw [sA]; unfold goneF; rw [if_neg (by simp_all)]; rfl
              have MA : outM (rowF goneF ts xs (x + 1)) = [] := by rw [eA]; rfl
              have VA : ∀ k, outV k (rowF goneF ts xs (x + 1)) = .v (.slice none 0 0) := fun k => by rw [eA]; rfl
              have eB : rowF sizedF ts xs (x + 1) = [] := by rw [sB]; unfold sizedF; rw [if_neg (by simp_all)]; rfl
              have MB : outM (rowF sizedF ts xs (x + 1)) = [] := by rw [eB]; rfl
              have VB : ∀ k, outV k (rowF sizedF ts xs (x + 1)) = .v (.slice none 0 0) := fun k => by rw [eB]; rfl
              have eC : rowF madeF ts xs (x + 1) = [] := by rw [sC]; unfold madeF; rw [if_neg (by simp_all)]; rfl
              have MC : outM (rowF madeF ts xs (x + 1)) = [] := by rw [eC]; rfl
              have VC : ∀ k, outV k (rowF madeF ts xs (x + 1)) = .v (.slice none 0 0) := fun k => by rw [eC]; rfl
              (refine ⟨⟨x + 1, by omega⟩, by simp only; omega, [0, 1], by simp, ?_, ?_⟩ <;> simp only [MA, MB, MC, FitM, ObLe, LeL, Le, spS, List.append_nil, List.cons_append, List.nil_append, VA, VB, VC, List.length_nil, List.length_cons, Nat.add_zero, Nat.zero_add, Nat.reduceAdd, FitE] <;> (try simp (maxSteps := 2000000) -implicitDefEqProofs only [pL', pW', ↓Sy.PRE, Sy.POST, Nat.reduceDiv, Nat.reduceMod, Int.reduceLT, Int.reduceLE, Int.reduceToNat, Int.reduceAdd, decide_true, decide_false, ↓reduceIte, List.map_cons, List.map_nil, List.length_cons, List.length_nil, List.cons_append, List.nil_append, List.getElem?_cons_zero, List.getElem?_cons_succ, List.getElem?_nil, List.take_succ_cons, List.take_zero, List.drop_succ_cons, List.drop_zero, List.all_cons, List.all_nil, List.set_cons_zero, List.set_cons_succ, List.append_nil, Option.map_some, Option.map_none, cond_true, cond_false, Bool.true_eq_false, Bool.false_eq_true, Bool.not_true, Bool.not_false, Nat.reduceEqDiff, Nat.reduceAdd, Nat.reduceMul, Nat.reduceSub, Nat.reduceLeDiff, Nat.reduceLT, true_and, and_true, reduceCtorEq, Nat.zero_add, Nat.add_zero, Nat.zero_mul, Nat.le_refl, Int.toNat_natCast, Bool.and_self, Bool.true_and, Bool.and_true, if_true, eq_self, forall_const, and_self, implies_true]) <;> try simp)
          · rename_i c1
            split
            · rename_i c2
              split
              · rename_i c3
                have eA : rowF goneF ts xs (x + 1) = [spS 3 (x : Int) 0 0] := by rw [sA]; unfold goneF; rw [if_pos (by simp_all)]; rfl
                have MA : outM (rowF goneF ts xs (x + 1)) = [⟨true, spS 3 (x : Int) 0 0⟩] := by rw [eA]; rfl
                have VA : ∀ k, outV k (rowF goneF ts xs (x + 1)) = .row k 0 1 8 := fun k => by rw [eA]; rfl
                have eB : rowF sizedF ts xs (x + 1) = [] := by rw [sB]; unfold sizedF; rw [if_neg (by simp_all)]; rfl
                have MB : outM (rowF sizedF ts xs (x + 1)) = [] := by rw [eB]; rfl
                have VB : ∀ k, outV k (rowF sizedF ts xs (x + 1)) = .v (.slice none 0 0) := fun k => by rw [eB]; rfl
                have eC : rowF madeF ts xs (x + 1) = [spS 1 (x : Int) q.size q.spare] := by rw [sC]; unfold madeF; rw [if_pos (by simp_all)]; rfl
                have MC : outM (rowF madeF ts xs (x + 1)) = [⟨true, spS 1 (x : Int) q.size q.spare⟩] := by rw [eC]; rfl
                have VC : ∀ k, outV k (rowF madeF ts xs (x + 1)) = .row k 0 1 8 := fun k => by rw [eC]; rfl
                (refine ⟨⟨x + 1, by omega⟩, by simp only; omega, [0, 1, 5, 7], by simp, ?_, ?_⟩ <;> simp only [MA, MB, MC, FitM, ObLe, LeL, Le, spS, List.append_nil, List.cons_append, List.nil_append, VA, VB, VC, List.length_nil, List.length_cons, Nat.add_zero, Nat.zero_add, Nat.reduceAdd, FitE] <;> (try simp (maxSteps := 2000000) -implicitDefEqProofs only [pL', pW', ↓Sy.PRE, Sy.POST, Nat.reduceDiv, Nat.reduceMod, Int.reduceLT, Int.reduceLE, Int.reduceToNat, Int.reduceAdd, decide_true, decide_false, ↓reduceIte, List.map_cons, List.map_nil, List.length_cons, List.length_nil, List.cons_append, List.nil_append, List.getElem?_cons_zero, List.getElem?_cons_succ, List.getElem?_nil, List.take_succ_cons, List.take_zero, List.drop_succ_cons, List.drop_zero, List.all_cons, List.all_nil, List.set_cons_zero, List.set_cons_succ, List.append_nil, Option.map_some, Option.map_none, cond_true, cond_false, Bool.true_eq_false, Bool.false_eq_true, Bool.not_true, Bool.not_false, Nat.reduceEqDiff, Nat.reduceAdd, Nat.reduceMul, Nat.reduceSub, Nat.reduceLeDiff, Nat.reduceLT, true_and, and_true, reduceCtorEq, Nat.zero_add, Nat.add_zero, Nat.zero_mul, Nat.le_refl, Int.toNat_natCast, Bool.and_self, Bool.true_and, Bool.and_true, if_true, eq_self, forall_const, and_self, implies_true]) <;> try simp)
              · rename_i c3
                have eA : rowF goneF ts xs (x + 1) = [spS 3 (x : Int) 0 0] := by rw [sA]; unfold goneF; rw [if_pos (by simp_all)]; rfl
                have MA : outM (rowF goneF ts xs (x + 1)) = [⟨true, spS 3 (x : Int) 0 0⟩] := by rw [eA]; rfl
                have VA : ∀ k, outV k (rowF goneF ts xs (x + 1)) = .row k 0 1 8 := fun k => by rw [eA]; rfl
                have eB : rowF sizedF ts xs (x + 1) = [] := by rw [sB]; unfold sizedF; rw [if_neg (by simp_all)]; rfl
                have MB : outM (rowF sizedF ts xs (x + 1)) = [] := by rw [eB]; rfl
                have VB : ∀ k, outV k (rowF sizedF ts xs (x + 1)) = .v (.slice none 0 0) := fun k => by rw [eB]; rfl
                have eC : rowF madeF ts xs (x + 1) = [] := by rw [sC]; unfold madeF; rw [if_neg (by simp_all)]; rfl
                have MC : outM (rowF madeF ts xs (x + 1)) = [] := by rw [eC]; rfl
                have VC : ∀ k, outV k (rowF madeF ts xs (x + 1)) = .v (.slice none 0 0) := fun k => by rw [eC]; rfl
                (refine ⟨⟨x + 1, by omega⟩, by simp only; omega, [0, 1, 5], by simp, ?_, ?_⟩ <;> simp only [MA, MB, MC, FitM, ObLe, LeL, Le, spS, List.append_nil, List.cons_append, List.nil_append, VA, VB, VC, List.length_nil, List.length_cons, Nat.add_zero, Nat.zero_add, Nat.reduceAdd, FitE] <;> (try simp (maxSteps := 2000000) -implicitDefEqProofs only [pL', pW', ↓Sy.PRE, Sy.POST, Nat.reduceDiv, Nat.reduceMod, Int.reduceLT, Int.reduceLE, Int.reduceToNat, Int.reduceAdd, decide_true, decide_false, ↓reduceIte, List.map_cons, List.map_nil, List.length_cons, List.length_nil, List.cons_append, List.nil_append, List.getElem?_cons_zero, List.getElem?_cons_succ, List.getElem?_nil, List.take_succ_cons, List.take_zero, List.drop_succ_cons, List.drop_zero, List.all_cons, List.all_nil, List.set_cons_zero, List.set_cons_succ, List.append_nil, Option.map_some, Option.map_none, cond_true, cond_false, Bool.true_eq_false, Bool.false_eq_true, Bool.not_true, Bool.not_false, Nat.reduceEqDiff, Nat.reduceAdd, Nat.reduceMul, Nat.reduceSub, Nat.reduceLeDiff, Nat.reduceLT, true_and, and_true, reduceCtorEq, Nat.zero_add, Nat.add_zero, Nat.zero_mul, Nat.le_refl, Int.toNat_natCast, Bool.and_self, Bool.true_and, Bool.and_true, if_true, eq_self, forall_const, and_self, implies_true]) <;> try simp)
            · rename_i c2
              split
              · rename_i c3
                have eA : rowF goneF ts xs (x + 1) = [] := by rw [sA]; unfold goneF; rw [if_neg (by simp_all)]; rfl
                have MA : outM (rowF goneF ts xs (x + 1)) = [] := by rw [eA]; rfl
                have VA : ∀ k, outV k (rowF goneF ts xs (x + 1)) = .v (.slice none 0 0) := fun k => by rw [eA]; rfl
                have eB : rowF sizedF ts xs (x + 1) = [] := by rw [sB]; unfold sizedF; rw [if_neg (by simp_all)]; rfl
                have MB : outM (rowF sizedF ts xs (x + 1)) = [] := by rw [eB]; rfl
                have VB : ∀ k, outV k (rowF sizedF ts xs (x + 1)) = .v (.slice none 0 0) := fun k => by rw [eB]; rfl
                have eC : rowF madeF ts xs (x + 1) = [spS 1 (x : Int) q.size q.spare] := by rw [sC]; unfold madeF; rw [if_pos (by simp_all)]; rfl
                have MC : outM (rowF madeF ts xs (x + 1)) = [⟨true, spS 1 (x : Int) q.size q.spare⟩] := by rw [eC]; rfl
                have VC : ∀ k, outV k (rowF madeF ts xs (x + 1)) = .row k 0 1 8 := fun k => by rw [eC]; rfl
                (refine ⟨⟨x + 1, by omega⟩, by simp only; omega, [0, 1, 5], by simp, ?_, ?_⟩ <;> simp only [MA, MB, MC, FitM, ObLe, LeL, Le, spS, List.append_nil, List.cons_append, List.nil_append, VA, VB, VC, List.length_nil, List.length_cons, Nat.add_zero, Nat.zero_add, Nat.reduceAdd, FitE] <;> (try simp (maxSteps := 2000000) -implicitDefEqProofs only [pL', pW', ↓Sy.PRE, Sy.POST, Nat.reduceDiv, Nat.reduceMod, Int.reduceLT, Int.reduceLE, Int.reduceToNat, Int.reduceAdd, decide_true, decide_false, ↓reduceIte, List.map_cons, List.map_nil, List.length_cons, List.length_nil, List.cons_append, List.nil_append, List.getElem?_cons_zero, List.getElem?_cons_succ, List.getElem?_nil, List.take_succ_cons, List.take_zero, List.drop_succ_cons, List.drop_zero, List.all_cons, List.all_nil, List.set_cons_zero, List.set_cons_succ, List.append_nil, Option.map_some, Option.map_none, cond_true, cond_false, Bool.true_eq_false, Bool.false_eq_true, Bool.not_true, Bool.not_false, Nat.reduceEqDiff, Nat.reduceAdd, Nat.reduceMul, Nat.reduceSub, Nat.reduceLeDiff, Nat.reduceLT, true_and, and_true, reduceCtorEq, Nat.zero_add, Nat.add_zero, Nat.zero_mul, Nat.le_refl, Int.toNat_natCast, Bool.and_self, Bool.true_and, Bool.and_true, if_true, eq_self, forall_const, and_self, implies_true]) <;> try simp)
              · rename_i c3
                have eA : rowF goneF ts xs (x + 1) = [] := by rw [sA]; unfold goneF; rw [if_neg (by simp_all)]; rfl
                have MA : outM (rowF goneF ts xs (x + 1)) = [] := by rw [eA]; rfl
                have VA : ∀ k, outV k (rowF goneF ts xs (x + 1)) = .v (.slice none 0 0) := fun k => by rw [eA]; rfl
                have eB : rowF sizedF ts xs (x + 1) = [] := by rw [sB]; unfold sizedF; rw [if_neg (by simp_all)]; rfl
                have MB : outM (rowF sizedF ts xs (x + 1)) = [] := by rw [eB]; rfl
                have VB : ∀ k, outV k (rowF sizedF ts xs (x + 1)) = .v (.slice none 0 0) := fun k => by rw [eB]; rfl
                have eC : rowF madeF ts xs (x + 1) = [] := by rw [sC]; unfold madeF; rw [if_neg (by simp_all)]; rfl
                have MC : outM (rowF madeF ts xs (x + 1)) = [] := by rw [eC]; rfl
                have VC : ∀ k, outV k (rowF madeF ts xs (x + 1)) = .v (.slice none 0 0) := fun k => by rw [eC]; rfl
                (refine ⟨⟨x + 1, by omega⟩, by simp only; omega, [0, 1], by simp, ?_, ?_⟩ <;> simp only [MA, MB, MC, FitM, ObLe, LeL, Le, spS, List.append_nil, List.cons_append, List.nil_append, VA, VB, VC, List.length_nil, List.length_cons, Nat.add_zero, Nat.zero_add, Nat.reduceAdd, FitE] <;> (try simp (maxSteps := 2000000) -implicitDefEqProofs only [pL', pW', ↓Sy.PRE, Sy.POST, Nat.reduceDiv, Nat.reduceMod, Int.reduceLT, Int.reduceLE, Int.reduceToNat, Int.reduceAdd, decide_true, decide_false, ↓reduceIte, List.map_cons, List.map_nil, List.length_cons, List.length_nil, List.cons_append, List.nil_append, List.getElem?_cons_zero, List.getElem?_cons_succ, List.getElem?_nil, List.take_succ_cons, List.take_zero, List.drop_succ_cons, List.drop_zero, List.all_cons, List.all_nil, List.set_cons_zero, List.set_cons_succ, List.append_nil, Option.map_some, Option.map_none, cond_true, cond_false, Bool.true_eq_false, Bool.false_eq_true, Bool.not_true, Bool.not_false, Nat.reduceEqDiff, Nat.reduceAdd, Nat.reduceMul, Nat.reduceSub, Nat.reduceLeDiff, Nat.reduceLT, true_and, and_true, reduceCtorEq, Nat.zero_add, Nat.add_zero, Nat.zero_mul, Nat.le_refl, Int.toNat_natCast, Bool.and_self, Bool.true_and, Bool.and_true, if_true, eq_self, forall_const, and_self, implies_true]) <;> try simp)
        · skip
          skip
          have rC := RowOk.of hC oC
          have vC : ∀ k, outV k (hc :: tc) = .row k 0 (hc :: tc).length 8 := fun k => rfl
          have mC : outM (hc :: tc) = [⟨true, (hc :: tc).flatten⟩] := rfl
          generalize flatC : (hc :: tc).flatten = csC at rC mC
          generalize lenC : (hc :: tc).length = nC at rC vC
          have lC := rC.len
          have zC := rC.pos
          have uC := rC.le
          have kC : csC.take (nC * 8) = csC := List.take_of_length_le (by omega)
          have yC : nC + 1 ≤ maxLen := by simp [maxLen]; omega
          have jC : (nC + 1) * 72 ≤ 140737488355328 := by omega
          have pC : ∀ g, LeL g csC csC := fun g => LeL_plain g rC.plain
          simp only [vC, mC,  outV_nil, outM_nil, List.length_nil, List.length_cons, List.append_nil, List.nil_append, List.cons_append, Nat.add_zero, Nat.zero_add, Nat.reduceAdd]
          simp (maxSteps := 2000000) -implicitDefEqProofs only [↓c106, LL, LW, dT, dW, i0, i4, w1, f5, f2, hm0, tn_eta, spS, lC, kC, yC, jC, ↓Sy.PRE, Sy.POST, Nat.reduceDiv, Nat.reduceMod, Int.reduceLT, Int.reduceLE, Int.reduceToNat, Int.reduceAdd, decide_true, decide_false, ↓reduceIte, List.map_cons, List.map_nil, List.length_cons, List.length_nil, List.cons_append, List.nil_append, List.getElem?_cons_zero, List.getElem?_cons_succ, List.getElem?_nil, List.take_succ_cons, List.take_zero, List.drop_succ_cons, List.drop_zero, List.all_cons, List.all_nil, List.set_cons_zero, List.set_cons_succ, List.append_nil, Option.map_some, Option.map_none, cond_true, cond_false, Bool.true_eq_false, Bool.false_eq_true, Bool.not_true, Bool.not_false, Nat.reduceEqDiff, Nat.reduceAdd, Nat.reduceMul, Nat.reduceSub, Nat.reduceLeDiff, Nat.reduceLT, true_and, and_true, reduceCtorEq, Nat.zero_add, Nat.add_zero, Nat.zero_mul, Nat.le_refl, Int.toNat_natCast, Bool.and_self, Bool.true_and, Bool.and_true, if_true, eq_self, forall_const, and_self, implies_true]
          split
          · rename_i c1
            split
            · rename_i c2
              have eA : rowF goneF ts xs (x + 1) = [] := by rw [sA]; unfold goneF; rw [if_neg (by simp_all)]; rfl
              have MA : outM (rowF goneF ts xs (x + 1)) = [] := by rw [eA]; rfl
              have VA : ∀ k, outV k (rowF goneF ts xs (x + 1)) = .v (.slice none 0 0) := fun k => by rw [eA]; rfl
              have eB : rowF sizedF ts xs (x + 1) = [spS 2 (x : Int) q.size 0] := by rw [sB]; unfold sizedF; rw [if_pos (by simp_all)]; rfl
              have MB : outM (rowF sizedF ts xs (x + 1)) = [⟨true, spS 2 (x : Int) q.size 0⟩] := by rw [eB]; rfl
              have VB : ∀ k, outV k (rowF sizedF ts xs (x + 1)) = .row k 0 1 8 := fun k => by rw [eB]; rfl
              have eC : rowF madeF ts xs (x + 1) = hc :: tc := by rw [sC]; unfold madeF; rw [if_neg (by simp_all)]; exact List.append_nil _
              have MC : outM (rowF madeF ts xs (x + 1)) = [⟨true, csC⟩] := by rw [eC, mC]
              have VC : ∀ k, outV k (rowF madeF ts xs (x + 1)) = .row k 0 nC 8 := fun k => by rw [eC, vC]
              (refine ⟨⟨x + 1, by omega⟩, by simp only; omega, [0, 1, 6, 2], by simp, ?_, ?_⟩ <;> simp only [MA, MB, MC, FitM, ObLe, LeL, Le, spS, List.append_nil, List.cons_append, List.nil_append, VA, VB, VC, List.length_nil, List.length_cons, Nat.add_zero, Nat.zero_add, Nat.reduceAdd, FitE] <;> (try simp (maxSteps := 2000000) -implicitDefEqProofs only [pL', pW', pC, ↓Sy.PRE, Sy.POST, Nat.reduceDiv, Nat.reduceMod, Int.reduceLT, Int.reduceLE, Int.reduceToNat, Int.reduceAdd, decide_true, decide_false, ↓reduceIte, List.map_cons, List.map_nil, List.length_cons, List.length_nil, List.cons_append, List.nil_append, List.getElem?_cons_zero, List.getElem?_cons_succ, List.getElem?_nil, List.take_succ_cons, List.take_zero, List.drop_succ_cons, List.drop_zero, List.all_cons, List.all_nil, List.set_cons_zero, List.set_cons_succ, List.append_nil, Option.map_some, Option.map_none, cond_true, cond_false, Bool.true_eq_false, Bool.false_eq_true, Bool.not_true, Bool.not_false, Nat.reduceEqDiff, Nat.reduceAdd, Nat.reduceMul, Nat.reduceSub, Nat.reduceLeDiff, Nat.reduceLT, true_and, and_true, reduceCtorEq, Nat.zero_add, Nat.add_zero, Nat.zero_mul, Nat.le_refl, Int.toNat_natCast, Bool.and_self, Bool.true_and, Bool.and_true, if_true, eq_self, forall_const, and_self, implies_true]) <;> try simp)
            · rename_i c2
              have eA : rowF goneF ts xs (x + 1) = [] := by rw [sA]; unfold goneF; rw [if_neg (by simp_all)]; rfl
              have MA : outM (rowF goneF ts xs (x + 1)) = [] := by rw [eA]; rfl
              have VA : ∀ k, outV k (rowF goneF ts xs (x + 1)) = .v (.slice none 0 0) := fun k => by rw [eA]; rfl
              have eB : rowF sizedF ts xs (x + 1) = [] := by rw [sB]; unfold sizedF; rw [if_neg (by simp_all)]; rfl
              have MB : outM (rowF sizedF ts xs (x + 1)) = [] := by rw [eB]; rfl
              have VB : ∀ k, outV k (rowF sizedF ts xs (x + 1)) = .v (.slice none 0 0) := fun k => by rw [eB]; rfl
              have eC : rowF madeF ts xs (x + 1) = hc :: tc := by rw [sC]; unfold madeF; rw [if_neg (by simp_all)]; exact List.append_nil _
              have MC : outM (rowF madeF ts xs (x + 1)) = [⟨true, csC⟩] := by rw [eC, mC]
              have VC : ∀ k, outV k (rowF madeF ts xs (x + 1)) = .row k 0 nC 8 := fun k => by rw [eC, vC]
              (refine ⟨⟨x + 1, by omega⟩, by simp only; omega, [0, 1, 2], by simp, ?_, ?_⟩ <;> simp only [MA, MB, MC, FitM, ObLe, LeL, Le, spS, List.append_nil, List.cons_append, List.nil_append, VA, VB, VC, List.length_nil, List.length_cons, Nat.add_zero, Nat.zero_add, Nat.reduceAdd, FitE] <;> (try simp (maxSteps := 2000000) -implicitDefEqProofs only [pL', pW', pC, ↓Sy.PRE, Sy.POST, Nat.reduceDiv, Nat.reduceMod, Int.reduceLT, Int.reduceLE, Int.reduceToNat, Int.reduceAdd, decide_true, decide_false, ↓reduceIte, List.map_cons, List.map_nil, List.length_cons, List.length_nil, List.cons_append, List.nil_append, List.getElem?_cons_zero, List.getElem?_cons_succ, List.getElem?_nil, List.take_succ_cons, List.take_zero, List.drop_succ_cons, List.drop_zero, List.all_cons, List.all_nil, List.set_cons_zero, List.set_cons_succ, List.append_nil, Option.map_some, Option.map_none, cond_true, cond_false, Bool.true_eq_false, Bool.false_eq_true, Bool.not_true, Bool.not_false, Nat.reduceEqDiff, Nat.reduceAdd, Nat.reduceMul, Nat.reduceSub, Nat.reduceLeDiff, Nat.reduceLT, true_and, and_true, reduceCtorEq, Nat.zero_add, Nat.add_zero, Nat.zero_mul, Nat.le_refl, Int.toNat_natCast, Bool.and_self, Bool.true_and, Bool.and_true, if_true, eq_self, forall_const, and_self, implies_true]) <;> try simp)
          · rename_i c1
            split
            · rename_i c2
              split
              · rename_i c3
                have eA : rowF goneF ts xs (x + 1) = [spS 3 (x : Int) 0 0] := by rw [sA]; unfold goneF; rw [if_pos (by simp_all)]; rfl
                have MA : outM (rowF goneF ts xs (x + 1)) = [⟨true, spS 3 (x : Int) 0 0⟩] := by rw [eA]; rfl
                have VA : ∀ k, outV k (rowF goneF ts xs (x + 1)) = .row k 0 1 8 := fun k => by rw [eA]; rfl
                have eB : rowF sizedF ts xs (x + 1) = [] := by rw [sB]; unfold sizedF; rw [if_neg (by simp_all)]; rfl
                have MB : outM (rowF sizedF ts xs (x + 1)) = [] := by rw [eB]; rfl
                have VB : ∀ k, outV k (rowF sizedF ts xs (x + 1)) = .v (.slice none 0 0) := fun k => by rw [eB]; rfl
                have eC : rowF madeF ts xs (x + 1) = (hc :: tc) ++ [spS 1 (x : Int) q.size q.spare] := by rw [sC]; unfold madeF; rw [if_pos (by simp_all)]
                have MC : outM (rowF madeF ts xs (x + 1)) = [⟨true, csC ++ spS 1 (x : Int) q.size q.spare⟩] := by rw [eC, outM_app, ← flatC]
                have VC : ∀ k, outV k (rowF madeF ts xs (x + 1)) = .row k 0 (nC + 1) 8 := fun k => by rw [eC, outV_app, ← lenC]
                have PC : ∀ g, LeL g (csC ++ spS 1 (x : Int) q.size q.spare) (csC ++ spS 1 (x : Int) q.size q.spare) := fun g => LeL_plain g (plainL_app rC.plain rfl)
                simp only [spS] at PC
                (refine ⟨⟨x + 1, by omega⟩, by simp only; omega, [0, 1, 6, 8], by simp, ?_, ?_⟩ <;> simp only [MA, MB, MC, FitM, ObLe, LeL, Le, spS, List.append_nil, List.cons_append, List.nil_append, VA, VB, VC, List.length_nil, List.length_cons, Nat.add_zero, Nat.zero_add, Nat.reduceAdd, FitE] <;> (try simp (maxSteps := 2000000) -implicitDefEqProofs only [pL', pW', PC, ↓Sy.PRE, Sy.POST, Nat.reduceDiv, Nat.reduceMod, Int.reduceLT, Int.reduceLE, Int.reduceToNat, Int.reduceAdd, decide_true, decide_false, ↓reduceIte, List.map_cons, List.map_nil, List.length_cons, List.length_nil, List.cons_append, List.nil_append, List.getElem?_cons_zero, List.getElem?_cons_succ, List.getElem?_nil, List.take_succ_cons, List.take_zero, List.drop_succ_cons, List.drop_zero, List.all_cons, List.all_nil, List.set_cons_zero, List.set_cons_succ, List.append_nil, Option.map_some, Option.map_none, cond_true, cond_false, Bool.true_eq_false, Bool.false_eq_true, Bool.not_true, Bool.not_false, Nat.reduceEqDiff, Nat.reduceAdd, Nat.reduceMul, Nat.reduceSub, Nat.reduceLeDiff, Nat.reduceLT, true_and, and_true, reduceCtorEq, Nat.zero_add, Nat.add_zero, Nat.zero_mul, Nat.le_refl, Int.toNat_natCast, Bool.and_self, Bool.true_and, Bool.and_true, if_true, eq_self, forall_const, and_self, implies_true]) <;> try simp)
              · rename_i c3
                have eA : rowF goneF ts xs (x + 1) = [spS 3 (x : Int) 0 0] := by rw [sA]; unfold goneF; rw [if_pos (by simp_all)]; rfl
                have MA : outM (rowF goneF ts xs (x + 1)) = [⟨true, spS 3 (x : Int) 0 0⟩] := by rw [eA]; rfl
                have VA : ∀ k, outV k (rowF goneF ts xs (x + 1)) = .row k 0 1 8 := fun k => by rw [eA]; rfl
                have eB : rowF sizedF ts xs (x + 1) = [] := by rw [sB]; unfold sizedF; rw [if_neg (by simp_all)]; rfl
                have MB : outM (rowF sizedF ts xs (x + 1)) = [] := by rw [eB]; rfl
                have VB : ∀ k, outV k (rowF sizedF ts xs (x + 1)) = .v (.slice none 0 0) := fun k => by rw [eB]; rfl
                have eC : rowF madeF ts xs (x + 1) = hc :: tc := by rw [sC]; unfold madeF; rw [if_neg (by simp_all)]; exact List.append_nil _
                have MC : outM (rowF madeF ts xs (x + 1)) = [⟨true, csC⟩] := by rw [eC, mC]
                have VC : ∀ k, outV k (rowF madeF ts xs (x + 1)) = .row k 0 nC 8 := fun k => by rw [eC, vC]
                (refine ⟨⟨x + 1, by omega⟩, by simp only; omega, [0, 1, 6, 2], by simp, ?_, ?_⟩ <;> simp only [MA, MB, MC, FitM, ObLe, LeL, Le, spS, List.append_nil, List.cons_append, List.nil_append, VA, VB, VC, List.length_nil, List.length_cons, Nat.add_zero, Nat.zero_add, Nat.reduceAdd, FitE] <;> (try simp (maxSteps := 2000000) -implicitDefEqProofs only [pL', pW', pC, ↓Sy.PRE, Sy.POST, Nat.reduceDiv, Nat.reduceMod, Int.reduceLT, Int.reduceLE, Int.reduceToNat, Int.reduceAdd, decide_true, decide_false, ↓reduceIte, List.map_cons, List.map_nil, List.length_cons, List.length_nil, List.cons_append, List.nil_append, List.getElem?_cons_zero, List.getElem?_cons_succ, List.getElem?_nil, List.take_succ_cons, List.take_zero, List.drop_succ_cons, List.drop_zero, List.all_cons, List.all_nil, List.set_cons_zero, List.set_cons_succ, List.append_nil, Option.map_some, Option.map_none, cond_true, cond_false, Bool.true_eq_false, Bool.false_eq_true, Bool.not_true, Bool.not_false, Nat.reduceEqDiff, Nat.reduceAdd, Nat.reduceMul, Nat.reduceSub, Nat.reduceLeDiff, Nat.reduceLT, true_and, and_true, reduceCtorEq, Nat.zero_add, Nat.add_zero, Nat.zero_mul, Nat.le_refl, Int.toNat_natCast, Bool.and_self, Bool.true_and, Bool.and_true, if_true, eq_self, forall_const, and_self, implies_true]) <;> try simp)
            · rename_i c2
              split
              · rename_i c3
                have eA : rowF goneF ts xs (x + 1) = [] := by rw [sA]; unfold goneF; rw [if_neg (by simp_all)]; rfl
                have MA : outM (rowF goneF ts xs (x + 1)) = [] := by rw [eA]; rfl
                have VA : ∀ k, outV k (rowF goneF ts xs (x + 1)) = .v (.slice none 0 0) := fun k => by rw [eA]; rfl
                have eB : rowF sizedF ts xs (x + 1) = [] := by rw [sB]; unfold sizedF; rw [if_neg (by simp_all)]; rfl
                have MB : outM (rowF sizedF ts xs (x + 1)) = [] := by rw [eB]; rfl
                have VB : ∀ k, outV k (rowF sizedF ts xs (x + 1)) = .v (.slice none 0 0) := fun k => by rw [eB]; rfl
                have eC : rowF madeF ts xs (x + 1) = (hc :: tc) ++ [spS 1 (x : Int) q.size q.spare] := by rw [sC]; unfold madeF; rw [if_pos (by simp_all)]
                have MC : outM (rowF madeF ts xs (x + 1)) = [⟨true, csC ++ spS 1 (x : Int) q.size q.spare⟩] := by rw [eC, outM_app, ← flatC]
                have VC : ∀ k, outV k (rowF madeF ts xs (x + 1)) = .row k 0 (nC + 1) 8 := fun k => by rw [eC, outV_app, ← lenC]
                have PC : ∀ g, LeL g (csC ++ spS 1 (x : Int) q.size q.spare) (csC ++ spS 1 (x : Int) q.size q.spare) := fun g => LeL_plain g (plainL_app rC.plain rfl)
                simp only [spS] at PC
                (refine ⟨⟨x + 1, by omega⟩, by simp only; omega, [0, 1, 6], by simp, ?_, ?_⟩ <;> simp only [MA, MB, MC, FitM, ObLe, LeL, Le, spS, List.append_nil, List.cons_append, List.nil_append, VA, VB, VC, List.length_nil, List.length_cons, Nat.add_zero, Nat.zero_add, Nat.reduceAdd, FitE] <;> (try simp (maxSteps := 2000000) -implicitDefEqProofs only [pL', pW', PC, ↓Sy.PRE, Sy.POST, Nat.reduceDiv, Nat.reduceMod, Int.reduceLT, Int.reduceLE, Int.reduceToNat, Int.reduceAdd, decide_true, decide_false, ↓reduceIte, List.map_cons, List.map_nil, List.length_cons, List.length_nil, List.cons_append, List.nil_append, List.getElem?_cons_zero, List.getElem?_cons_succ, List.getElem?_nil, List.take_succ_cons, List.take_zero, List.drop_succ_cons, List.drop_zero, List.all_cons, List.all_nil, List.set_cons_zero, List.set_cons_succ, List.append_nil, Option.map_some, Option.map_none, cond_true, cond_false, Bool.true_eq_false, Bool.false_eq_true, Bool.not_true, Bool.not_false, Nat.reduceEqDiff, Nat.reduceAdd, Nat.reduceMul, Nat.reduceSub, Nat.reduceLeDiff, Nat.reduceLT, true_and, and_true, reduceCtorEq, Nat.zero_add, Nat.add_zero, Nat.zero_mul, Nat.le_refl, Int.toNat_natCast, Bool.and_self, Bool.true_and, Bool.and_true, if_true, eq_self, forall_const, and_self, implies_true]) <;> try simp)
              · rename_i c3
                have eA : rowF goneF ts xs (x + 1) = [] := by rw [sA]; unfold goneF; rw [if_neg (by simp_all)]; rfl
                have MA : outM (rowF goneF ts xs (x + 1)) = [] := by rw [eA]; rfl
                have VA : ∀ k, outV k (rowF goneF ts xs (x + 1)) = .v (.slice none 0 0) := fun k => by rw [eA]; rfl
                have eB : rowF sizedF ts xs (x + 1) = [] := by rw [sB]; unfold sizedF; rw [if_neg (by simp_all)]; rfl
                have MB : outM (rowF sizedF ts xs (x + 1)) = [] := by rw [eB]; rfl
                have VB : ∀ k, outV k (rowF sizedF ts xs (x + 1)) = .v (.slice none 0 0) := fun k => by rw [eB]; rfl
                have eC : rowF madeF ts xs (x + 1) = hc :: tc := by rw [sC]; unfold madeF; rw [if_neg (by simp_all)]; exact List.append_nil _
                have MC : outM (rowF madeF ts xs (x + 1)) = [⟨true, csC⟩] := by rw [eC, mC]
                have VC : ∀ k, outV k (rowF madeF ts xs (x + 1)) = .row k 0 nC 8 := fun k => by rw [eC, vC]
                (refine ⟨⟨x + 1, by omega⟩, by simp only; omega, [0, 1, 2], by simp, ?_, ?_⟩ <;> simp only [MA, MB, MC, FitM, ObLe, LeL, Le, spS, List.append_nil, List.cons_append, List.nil_append, VA, VB, VC, List.length_nil, List.length_cons, Nat.add_zero, Nat.zero_add, Nat.reduceAdd, FitE] <;> (try simp (maxSteps := 2000000) -implicitDefEqProofs only [pL', pW', pC, ↓Sy.PRE, Sy.POST, Nat.reduceDiv, Nat.reduceMod, Int.reduceLT, Int.reduceLE, Int.reduceToNat, Int.reduceAdd, decide_true, decide_false, ↓reduceIte, List.map_cons, List.map_nil, List.length_cons, List.length_nil, List.cons_append, List.nil_append, List.getElem?_cons_zero, List.getElem?_cons_succ, List.getElem?_nil, List.take_succ_cons, List.take_zero, List.drop_succ_cons, List.drop_zero, List.all_cons, List.all_nil, List.set_cons_zero, List.set_cons_succ, List.append_nil, Option.map_some, Option.map_none, cond_true, cond_false, Bool.true_eq_false, Bool.false_eq_true, Bool.not_true, Bool.not_false, Nat.reduceEqDiff, Nat.reduceAdd, Nat.reduceMul, Nat.reduceSub, Nat.reduceLeDiff, Nat.reduceLT, true_and, and_true, reduceCtorEq, Nat.zero_add, Nat.add_zero, Nat.zero_mul, Nat.le_refl, Int.toNat_natCast, Bool.and_self, Bool.true_and, Bool.and_true, if_true, eq_self, forall_const, and_self, implies_true]) <;> try simp)
        · skip
          have rB := RowOk.of hB oB
          have vB : ∀ k, outV k (hb :: tb) = .row k 0 (hb :: tb).length 8 := fun k => rfl
          have mB : outM (hb :: tb) = [⟨true, (hb :: tb).flatten⟩] := rfl
          generalize flatB : (hb :: tb).flatten = csB at rB mB
          generalize lenB : (hb :: tb).length = nB at rB vB
          have lB := rB.len
          have zB := rB.pos
          have uB := rB.le
          have kB : csB.take (nB * 8) = csB := List.take_of_length_le (by omega)
          have yB : nB + 1 ≤ maxLen := by simp [maxLen]; omega
          have jB : (nB + 1) * 72 ≤ 140737488355328 := by omega
          have pB : ∀ g, LeL g csB csB := fun g => LeL_plain g rB.plain
          simp only [outV_nil, outM_nil, List.length_nil, Nat.add_zero, List.nil_append, List.append_nil]
          simp only [vB, mB,  outV_nil, outM_nil, List.length_nil, List.length_cons, List.append_nil, List.nil_append, List.cons_append, Nat.add_zero, Nat.zero_add, Nat.reduceAdd]
          simp (maxSteps := 2000000) -implicitDefEqProofs only [↓c106, LL, LW, dT, dW, i0, i4, w1, f5, f2, hm0, tn_eta, spS, lB, kB, yB, jB, ↓Sy.PRE, Sy.POST, Nat.reduceDiv, Nat.reduceMod, Int.reduceLT, Int.reduceLE, Int.reduceToNat, Int.reduceAdd, decide_true, decide_false, ↓reduceIte, List.map_cons, List.map_nil, List.length_cons, List.length_nil, List.cons_append, List.nil_append, List.getElem?_cons_zero, List.getElem?_cons_succ, List.getElem?_nil, List.take_succ_cons, List.take_zero, List.drop_succ_cons, List.drop_zero, List.all_cons, List.all_nil, List.set_cons_zero, List.set_cons_succ, List.append_nil, Option.map_some, Option.map_none, cond_true, cond_false, Bool.true_eq_false, Bool.false_eq_true, Bool.not_true, Bool.not_false, Nat.reduceEqDiff, Nat.reduceAdd, Nat.reduceMul, Nat.reduceSub, Nat.reduceLeDiff, Nat.reduceLT, true_and, and_true, reduceCtorEq, Nat.zero_add, Nat.add_zero, Nat.zero_mul, Nat.le_refl, Int.toNat_natCast, Bool.and_self, Bool.true_and, Bool.and_true, if_true, eq_self, forall_const, and_self, implies_true]
          split
          · rename_i c1
            split
            · rename_i c2
              have eA : rowF goneF ts xs (x + 1) = [] := by rw [sA]; unfold goneF; rw [if_neg (by simp_all)]; rfl
              have MA : outM (rowF goneF ts xs (x + 1)) = [] := by rw [eA]; rfl
              have VA : ∀ k, outV k (rowF goneF ts xs (x + 1)) = .v (.slice none 0 0) := fun k => by rw [eA]; rfl
              have eB : rowF sizedF ts xs (x + 1) = (hb :: tb) ++ [spS 2 (x : Int) q.size 0] := by rw [sB]; unfold sizedF; rw [if_pos (by simp_all)]
              have MB : outM (rowF sizedF ts xs (x + 1)) = [⟨true, csB ++ spS 2 (x : Int) q.size 0⟩] := by rw [eB, outM_app, ← flatB]
              have VB : ∀ k, outV k (rowF sizedF ts xs (x + 1)) = .row k 0 (nB + 1) 8 := fun k => by rw [eB, outV_app, ← lenB]
              have PB : ∀ g, LeL g (csB ++ spS 2 (x : Int) q.size 0) (csB ++ spS 2 (x : Int) q.size 0) := fun g => LeL_plain g (plainL_app rB.plain rfl)
              simp only [spS] at PB
              have eC : rowF madeF ts xs (x + 1) = [] := by rw [sC]; unfold madeF; rw [if_neg (by simp_all)]; rfl
              have MC : outM (rowF madeF ts xs (x + 1)) = [] := by rw [eC]; rfl
              have VC : ∀ k, outV k (rowF madeF ts xs (x + 1)) = .v (.slice none 0 0) := fun k => by rw [eC]; rfl
              (refine ⟨⟨x + 1, by omega⟩, by simp only; omega, [0, 1, 6], by simp, ?_, ?_⟩ <;> simp only [MA, MB, MC, FitM, ObLe, LeL, Le, spS, List.append_nil, List.cons_append, List.nil_append, VA, VB, VC, List.length_nil, List.length_cons, Nat.add_zero, Nat.zero_add, Nat.reduceAdd, FitE] <;> (try simp (maxSteps := 2000000) -implicitDefEqProofs only [pL', pW', PB, ↓Sy.PRE, Sy.POST, Nat.reduceDiv, Nat.reduceMod, Int.reduceLT, Int.reduceLE, Int.reduceToNat, Int.reduceAdd, decide_true, decide_false, ↓reduceIte, List.map_cons, List.map_nil, List.length_cons, List.length_nil, List.cons_append, List.nil_append, List.getElem?_cons_zero, List.getElem?_cons_succ, List.getElem?_nil, List.take_succ_cons, List.take_zero, List.drop_succ_cons, List.drop_zero, List.all_cons, List.all_nil, List.set_cons_zero, List.set_cons_succ, List.append_nil, Option.map_some, Option.map_none, cond_true, cond_false, Bool.true_eq_false, Bool.false_eq_true, Bool.not_true, Bool.not_false, Nat.reduceEqDiff, Nat.reduceAdd, Nat.reduceMul, Nat.reduceSub, Nat.reduceLeDiff, Nat.reduceLT, true_and, and_true, reduceCtorEq, Nat.zero_add, Nat.add_zero, Nat.zero_mul, Nat.le_refl, Int.toNat_natCast, Bool.and_self, Bool.true_and, Bool.and_true, if_true, eq_self, forall_const, and_self, implies_true]) <;> try simp)
            · rename_i c2
              have eA : rowF goneF ts xs (x + 1) = [] := by rw [sA]; unfold goneF; rw [if_neg (by simp_all)]; rfl
              have MA : outM (rowF goneF ts xs (x + 1)) = [] := by rw [eA]; rfl
              have VA : ∀ k, outV k (rowF goneF ts xs (x + 1)) = .v (.slice none 0 0) := fun k => by rw [eA]; rfl
              have eB : rowF sizedF ts xs (x + 1) = hb :: tb := by rw [sB]; unfold sizedF; rw [if_neg (by simp_all)]; exact List.append_nil _
              have MB : outM (rowF sizedF ts xs (x + 1)) = [⟨true, csB⟩] := by rw [eB, mB]
              have VB : ∀ k, outV k (rowF sizedF ts xs (x + 1)) = .row k 0 nB 8 := fun k => by rw [eB, vB]
              have eC : rowF madeF ts xs (x + 1) = [] := by rw [sC]; unfold madeF; rw [if_neg (by simp_all)]; rfl
              have MC : outM (rowF madeF ts xs (x + 1)) = [] := by rw [eC]; rfl
              have VC : ∀ k, outV k (rowF madeF ts xs (x + 1)) = .v (.slice none 0 0) := fun k => by rw [eC]; rfl
              (refine ⟨⟨x + 1, by omega⟩, by simp only; omega, [0, 1, 2], by simp, ?_, ?_⟩ <;> simp only [MA, MB, MC, FitM, ObLe, LeL, Le, spS, List.append_nil, List.cons_append, List.nil_append, VA, VB, VC, List.length_nil, List.length_cons, Nat.add_zero, Nat.zero_add, Nat.reduceAdd, FitE] <;> (try simp (maxSteps := 2000000) -implicitDefEqProofs only [pL', pW', pB, ↓Sy.PRE, Sy.POST, Nat.reduceDiv, Nat.reduceMod, Int.reduceLT, Int.reduceLE, Int.reduceToNat, Int.reduceAdd, decide_true, decide_false, ↓reduceIte, List.map_cons, List.map_nil, List.length_cons, List.length_nil, List.cons_append, List.nil_append, List.getElem?_cons_zero, List.getElem?_cons_succ, List.getElem?_nil, List.take_succ_cons, List.take_zero, List.drop_succ_cons, List.drop_zero, List.all_cons, List.all_nil, List.set_cons_zero, List.set_cons_succ, List.append_nil, Option.map_some, Option.map_none, cond_true, cond_false, Bool.true_eq_false, Bool.false_eq_true, Bool.not_true, Bool.not_false, Nat.reduceEqDiff, Nat.reduceAdd, Nat.reduceMul, Nat.reduceSub, Nat.reduceLeDiff, Nat.reduceLT, true_and, and_true, reduceCtorEq, Nat.zero_add, Nat.add_zero, Nat.zero_mul, Nat.le_refl, Int.toNat_natCast, Bool.and_self, Bool.true_and, Bool.and_true, if_true, eq_self, forall_const, and_self, implies_true]) <;> try simp)
          · rename_i c1
            split
            · rename_i c2
              split
              · rename_i c3
                have eA : rowF goneF ts xs (x + 1) = [spS 3 (x : Int) 0 0] := by rw [sA]; unfold goneF; rw [if_pos (by simp_all)]; rfl
                have MA : outM (rowF goneF ts xs (x + 1)) = [⟨true, spS 3 (x : Int) 0 0⟩] := by rw [eA]; rfl
                have VA : ∀ k, outV k (rowF goneF ts xs (x + 1)) = .row k 0 1 8 := fun k => by rw [eA]; rfl
                have eB : rowF sizedF ts xs (x + 1) = hb :: tb := by rw [sB]; unfold sizedF; rw [if_neg (by simp_all)]; exact List.append_nil _
                have MB : outM (rowF sizedF ts xs (x + 1)) = [⟨true, csB⟩] := by rw [eB, mB]
                have VB : ∀ k, outV k (rowF sizedF ts xs (x + 1)) = .row k 0 nB 8 := fun k => by rw [eB, vB]
                have eC : rowF madeF ts xs (x + 1) = [spS 1 (x : Int) q.size q.spare] := by rw [sC]; unfold madeF; rw [if_pos (by simp_all)]; rfl
                have MC : outM (rowF madeF ts xs (x + 1)) = [⟨true, spS 1 (x : Int) q.size q.spare⟩] := by rw [eC]; rfl
                have VC : ∀ k, outV k (rowF madeF ts xs (x + 1)) = .row k 0 1 8 := fun k => by rw [eC]; rfl
                (refine ⟨⟨x + 1, by omega⟩, by simp only; omega, [0, 1, 6, 2, 8], by simp, ?_, ?_⟩ <;> simp only [MA, MB, MC, FitM, ObLe, LeL, Le, spS, List.append_nil, List.cons_append, List.nil_append, VA, VB, VC, List.length_nil, List.length_cons, Nat.add_zero, Nat.zero_add, Nat.reduceAdd, FitE] <;> (try simp (maxSteps := 2000000) -implicitDefEqProofs only [pL', pW', pB, ↓Sy.PRE, Sy.POST, Nat.reduceDiv, Nat.reduceMod, Int.reduceLT, Int.reduceLE, Int.reduceToNat, Int.reduceAdd, decide_true, decide_false, ↓reduceIte, List.map_cons, List.map_nil, List.length_cons, List.length_nil, List.cons_append, List.nil_append, List.getElem?_cons_zero, List.getElem?_cons_succ, List.getElem?_nil, List.take_succ_cons, List.take_zero, List.drop_succ_cons, List.drop_zero, List.all_cons, List.all_nil, List.set_cons_zero, List.set_cons_succ, List.append_nil, Option.map_some, Option.map_none, cond_true, cond_false, Bool.true_eq_false, Bool.false_eq_true, Bool.not_true, Bool.not_false, Nat.reduceEqDiff, Nat.reduceAdd, Nat.reduceMul, Nat.reduceSub, Nat.reduceLeDiff, Nat.reduceLT, true_and, and_true, reduceCtorEq, Nat.zero_add, Nat.add_zero, Nat.zero_mul, Nat.le_refl, Int.toNat_natCast, Bool.and_self, Bool.true_and, Bool.and_true, if_true, eq_self, forall_const, and_self, implies_true]) <;> try simp)
              · rename_i c3
                have eA : rowF goneF ts xs (x + 1) = [spS 3 (x : Int) 0 0] := by rw [sA]; unfold goneF; rw [if_pos (by simp_all)]; rfl
                have MA : outM (rowF goneF ts xs (x + 1)) = [⟨true, spS 3 (x : Int) 0 0⟩] := by rw [eA]; rfl
                have VA : ∀ k, outV k (rowF goneF ts xs (x + 1)) = .row k 0 1 8 := fun k => by rw [eA]; rfl
                have eB : rowF sizedF ts xs (x + 1) = hb :: tb := by rw [sB]; unfold sizedF; rw [if_neg (by simp_all)]; exact List.append_nil _
                have MB : outM (rowF sizedF ts xs (x + 1)) = [⟨true, csB⟩] := by rw [eB, mB]
                have VB : ∀ k, outV k (rowF sizedF ts xs (x + 1)) = .row k 0 nB 8 := fun k => by rw [eB, vB]
                have eC : rowF madeF ts xs (x + 1) = [] := by rw [sC]; unfold madeF; rw [if_neg (by simp_all)]; rfl
                have MC : outM (rowF madeF ts xs (x + 1)) = [] := by rw [eC]; rfl
                have VC : ∀ k, outV k (rowF madeF ts xs (x + 1)) = .v (.slice none 0 0) := fun k => by rw [eC]; rfl
                (refine ⟨⟨x + 1, by omega⟩, by simp only; omega, [0, 1, 6, 2], by simp, ?_, ?_⟩ <;> simp only [MA, MB, MC, FitM, ObLe, LeL, Le, spS, List.append_nil, List.cons_append, List.nil_append, VA, VB, VC, List.length_nil, List.length_cons, Nat.add_zero, Nat.zero_add, Nat.reduceAdd, FitE] <;> (try simp (maxSteps := 2000000) -implicitDefEqProofs only [pL', pW', pB, ↓Sy.PRE, Sy.POST, Nat.reduceDiv, Nat.reduceMod, Int.reduceLT, Int.reduceLE, Int.reduceToNat, Int.reduceAdd, decide_true, decide_false, ↓reduceIte, List.map_cons, List.map_nil, List.length_cons, List.length_nil, List.cons_append, List.nil_append, List.getElem?_cons_zero, List.getElem?_cons_succ, List.getElem?_nil, List.take_succ_cons, List.take_zero, List.drop_succ_cons, List.drop_zero, List.all_cons, List.all_nil, List.set_cons_zero, List.set_cons_succ, List.append_nil, Option.map_some, Option.map_none, cond_true, cond_false, Bool.true_eq_false, Bool.false_eq_true, Bool.not_true, Bool.not_false, Nat.reduceEqDiff, Nat.reduceAdd, Nat.reduceMul, Nat.reduceSub, Nat.reduceLeDiff, Nat.reduceLT, true_and, and_true, reduceCtorEq, Nat.zero_add, Nat.add_zero, Nat.zero_mul, Nat.le_refl, Int.toNat_natCast, Bool.and_self, Bool.true_and, Bool.and_true, if_true, eq_self, forall_const, and_self, implies_true]) <;> try simp)
            · rename_i c2
              split
              · rename_i c3
                have eA : rowF goneF ts xs (x + 1) = [] := by rw [sA]; unfold goneF; rw [if_neg (by simp_all)]; rfl
                have MA : outM (rowF goneF ts xs (x + 1)) = [] := by rw [eA]; rfl
                have VA : ∀ k, outV k (rowF goneF ts xs (x + 1)) = .v (.slice none 0 0) := fun k => by rw [eA]; rfl
                have eB : rowF sizedF ts xs (x + 1) = hb :: tb := by rw [sB]; unfold sizedF; rw [if_neg (by simp_all)]; exact List.append_nil _
                have MB : outM (rowF sizedF ts xs (x + 1)) = [⟨true, csB⟩] := by rw [eB, mB]
                have VB : ∀ k, outV k (rowF sizedF ts xs (x + 1)) = .row k 0 nB 8 := fun k => by rw [eB, vB]
                have eC : rowF madeF ts xs (x + 1) = [spS 1 (x : Int) q.size q.spare] := by rw [sC]; unfold madeF; rw [if_pos (by simp_all)]; rfl
                have MC : outM (rowF madeF ts xs (x + 1)) = [⟨true, spS 1 (x : Int) q.size q.spare⟩] := by rw [eC]; rfl
                have VC : ∀ k, outV k (rowF madeF ts xs (x + 1)) = .row k 0 1 8 := fun k => by rw [eC]; rfl
                (refine ⟨⟨x + 1, by omega⟩, by simp only; omega, [0, 1, 2, 6], by simp, ?_, ?_⟩ <;> simp only [MA, MB, MC, FitM, ObLe, LeL, Le, spS, List.append_nil, List.cons_append, List.nil_append, VA, VB, VC, List.length_nil, List.length_cons, Nat.add_zero, Nat.zero_add, Nat.reduceAdd, FitE] <;> (try simp (maxSteps := 2000000) -implicitDefEqProofs only [pL', pW', pB, ↓Sy.PRE, Sy.POST, Nat.reduceDiv, Nat.reduceMod, Int.reduceLT, Int.reduceLE, Int.reduceToNat, Int.reduceAdd, decide_true, decide_false, ↓reduceIte, List.map_cons, List.map_nil, List.length_cons, List.length_nil, List.cons_append, List.nil_append, List.getElem?_cons_zero, List.getElem?_cons_succ, List.getElem?_nil, List.take_succ_cons, List.take_zero, List.drop_succ_cons, List.drop_zero, List.all_cons, List.all_nil, List.set_cons_zero, List.set_cons_succ, List.append_nil, Option.map_some, Option.map_none, cond_true, cond_false, Bool.true_eq_false, Bool.false_eq_true, Bool.not_true, Bool.not_false, Nat.reduceEqDiff, Nat.reduceAdd, Nat.reduceMul, Nat.reduceSub, Nat.reduceLeDiff, Nat.reduceLT, true_and, and_true, reduceCtorEq, Nat.zero_add, Nat.add_zero, Nat.zero_mul, Nat.le_refl, Int.toNat_natCast, Bool.and_self, Bool.true_and, Bool.and_true, if_true, eq_self, forall_const, and_self, implies_true]) <;> try simp)
              · rename_i c3
                have eA : rowF goneF ts xs (x + 1) = [] := by rw [sA]; unfold goneF; rw [if_neg (by simp_all)]; rfl
                have MA : outM (rowF goneF ts xs (x + 1)) = [] := by rw [eA]; rfl
                have VA : ∀ k, outV k (rowF goneF ts xs (x + 1)) = .v (.slice none 0 0) := fun k => by rw [eA]; rfl
                have eB : rowF sizedF ts xs (x + 1) = hb :: tb := by rw [sB]; unfold sizedF; rw [if_neg (by simp_all)]; exact List.append_nil _
                have MB : outM (rowF sizedF ts xs (x + 1)) = [⟨true, csB⟩] := by rw [eB, mB]
                have VB : ∀ k, outV k (rowF sizedF ts xs (x + 1)) = .row k 0 nB 8 := fun k => by rw [eB, vB]
                have eC : rowF madeF ts xs (x + 1) = [] := by rw [sC]; unfold madeF; rw [if_neg (by simp_all)]; rfl
                have MC : outM (rowF madeF ts xs (x + 1)) = [] := by rw [eC]; rfl
                have VC : ∀ k, outV k (rowF madeF ts xs (x + 1)) = .v (.slice none 0 0) := fun k => by rw [eC]; rfl
                (refine ⟨⟨x + 1, by omega⟩, by simp only; omega, [0, 1, 2], by simp, ?_, ?_⟩ <;> simp only [MA, MB, MC, FitM, ObLe, LeL, Le, spS, List.append_nil, List.cons_append, List.nil_append, VA, VB, VC, List.length_nil, List.length_cons, Nat.add_zero, Nat.zero_add, Nat.reduceAdd, FitE] <;> (try simp (maxSteps := 2000000) -implicitDefEqProofs only [pL', pW', pB, ↓Sy.PRE, Sy.POST, Nat.reduceDiv, Nat.reduceMod, Int.reduceLT, Int.reduceLE, Int.reduceToNat, Int.reduceAdd, decide_true, decide_false, ↓reduceIte, List.map_cons, List.map_nil, List.length_cons, List.length_nil, List.cons_append, List.nil_append, List.getElem?_cons_zero, List.getElem?_cons_succ, List.getElem?_nil, List.take_succ_cons, List.take_zero, List.drop_succ_cons, List.drop_zero, List.all_cons, List.all_nil, List.set_cons_zero, List.set_cons_succ, List.append_nil, Option.map_some, Option.map_none, cond_true, cond_false, Bool.true_eq_false, Bool.false_eq_true, Bool.not_true, Bool.not_false, Nat.reduceEqDiff, Nat.reduceAdd, Nat.reduceMul, Nat.reduceSub, Nat.reduceLeDiff, Nat.reduceLT, true_and, and_true, reduceCtorEq, Nat.zero_add, Nat.add_zero, Nat.zero_mul, Nat.le_refl, Int.toNat_natCast, Bool.and_self, Bool.true_and, Bool.and_true, if_true, eq_self, forall_const, and_self, implies_true]) <;> try simp)
        · skip
          have rB := RowOk.of hB oB
          have vB : ∀ k, outV k (hb :: tb) = .row k 0 (hb :: tb).length 8 := fun k => rfl
          have mB : outM (hb :: tb) = [⟨true, (hb :: tb).flatten⟩] := rfl
          generalize flatB : (hb :: tb).flatten = csB at rB mB
          generalize lenB : (hb :: tb).length = nB at rB vB
          have lB := rB.len
          have zB := rB.pos
          have uB := rB.le
          have kB : csB.take (nB * 8) = csB := List.take_of_length_le (by omega)
          have yB : nB + 1 ≤ maxLen := by simp [maxLen]; omega
          have jB : (nB + 1) * 72 ≤ 140737488355328 := by omega
          have pB : ∀ g, LeL g csB csB := fun g => LeL_plain g rB.plain
          have rC := RowOk.of hC oC
          have vC : ∀ k, outV k (hc :: tc) = .row k 0 (hc :: tc).length 8 := fun k => rfl
          have mC : outM (hc :: tc) = [⟨true, (hc :: tc).flatten⟩] := rfl
          generalize flatC : (hc :: tc).flatten = csC at rC mC
          generalize lenC : (hc :: tc).length = nC at rC vC
          have lC := rC.len
          have zC := rC.pos
          have uC := rC.le
          have kC : csC.take (nC * 8) = csC := List.take_of_length_le (by omega)
          have yC : nC + 1 ≤ maxLen := by simp [maxLen]; omega
          have jC : (nC + 1) * 72 ≤ 140737488355328 := by omega
          have pC : ∀ g, LeL g csC csC := fun g => LeL_plain g rC.plain
          simp only [vB, mB, vC, mC,  outV_nil, outM_nil, List.length_nil, List.length_cons, List.append_nil, List.nil_append, List.cons_append, Nat.add_zero, Nat.zero_add, Nat.reduceAdd]
          simp (maxSteps := 2000000) -implicitDefEqProofs only [↓c106, LL, LW, dT, dW, i0, i4, w1, f5, f2, hm0, tn_eta, spS, lB, kB, yB, jB, lC, kC, yC, jC, ↓Sy.PRE, Sy.POST, Nat.reduceDiv, Nat.reduceMod, Int.reduceLT, Int.reduceLE, Int.reduceToNat, Int.reduceAdd, decide_true, decide_false, ↓reduceIte, List.map_cons, List.map_nil, List.length_cons, List.length_nil, List.cons_append, List.nil_append, List.getElem?_cons_zero, List.getElem?_cons_succ, List.getElem?_nil, List.take_succ_cons, List.take_zero, List.drop_succ_cons, List.drop_zero, List.all_cons, List.all_nil, List.set_cons_zero, List.set_cons_succ, List.append_nil, Option.map_some, Option.map_none, cond_true, cond_false, Bool.true_eq_false, Bool.false_eq_true, Bool.not_true, Bool.not_false, Nat.reduceEqDiff, Nat.reduceAdd, Nat.reduceMul, Nat.reduceSub, Nat.reduceLeDiff, Nat.reduceLT, true_and, and_true, reduceCtorEq, Nat.zero_add, Nat.add_zero, Nat.zero_mul, Nat.le_refl, Int.toNat_natCast, Bool.and_self, Bool.true_and, Bool.and_true, if_true, eq_self, forall_const, and_self, implies_true]
          split
          · rename_i c1
            split
            · rename_i c2
              have eA : rowF goneF ts xs (x + 1) = [] := by rw [sA]; unfold goneF; rw [if_neg (by simp_all)]; rfl
              have MA : outM (rowF goneF ts xs (x + 1)) = [] := by rw [eA]; rfl
              have VA : ∀ k, outV k (rowF goneF ts xs (x + 1)) = .v (.slice none 0 0) := fun k => by rw [eA]; rfl
              have eB : rowF sizedF ts xs (x + 1) = (hb :: tb) ++ [spS 2 (x : Int) q.size 0] := by rw [sB]; unfold sizedF; rw [if_pos (by simp_all)]
              have MB : outM (rowF sizedF ts xs (x + 1)) = [⟨true, csB ++ spS 2 (x : Int) q.size 0⟩] := by rw [eB, outM_app, ← flatB]
              have VB : ∀ k, outV k (rowF sizedF ts xs (x + 1)) = .row k 0 (nB + 1) 8 := fun k => by rw [eB, outV_app, ← lenB]
              have PB : ∀ g, LeL g (csB ++ spS 2 (x : Int) q.size 0) (csB ++ spS 2 (x : Int) q.size 0) := fun g => LeL_plain g (plainL_app rB.plain rfl)
              simp only [spS] at PB
              have eC : rowF madeF ts xs (x + 1) = hc :: tc := by rw [sC]; unfold madeF; rw [if_neg (by simp_all)]; exact List.append_nil _
              have MC : outM (rowF madeF ts xs (x + 1)) = [⟨true, csC⟩] := by rw [eC, mC]
              have VC : ∀ k, outV k (rowF madeF ts xs (x + 1)) = .row k 0 nC 8 := fun k => by rw [eC, vC]
              (refine ⟨⟨x + 1, by omega⟩, by simp only; omega, [0, 1, 7, 3], by simp, ?_, ?_⟩ <;> simp only [MA, MB, MC, FitM, ObLe, LeL, Le, spS, List.append_nil, List.cons_append, List.nil_append, VA, VB, VC, List.length_nil, List.length_cons, Nat.add_zero, Nat.zero_add, Nat.reduceAdd, FitE] <;> (try simp (maxSteps := 2000000) -implicitDefEqProofs only [pL', pW', pC, PB, ↓Sy.PRE, Sy.POST, Nat.reduceDiv, Nat.reduceMod, Int.reduceLT, Int.reduceLE, Int.reduceToNat, Int.reduceAdd, decide_true, decide_false, ↓reduceIte, List.map_cons, List.map_nil, List.length_cons, List.length_nil, List.cons_append, List.nil_append, List.getElem?_cons_zero, List.getElem?_cons_succ, List.getElem?_nil, List.take_succ_cons, List.take_zero, List.drop_succ_cons, List.drop_zero, List.all_cons, List.all_nil, List.set_cons_zero, List.set_cons_succ, List.append_nil, Option.map_some, Option.map_none, cond_true, cond_false, Bool.true_eq_false, Bool.false_eq_true, Bool.not_true, Bool.not_false, Nat.reduceEqDiff, Nat.reduceAdd, Nat.reduceMul, Nat.reduceSub, Nat.reduceLeDiff, Nat.reduceLT, true_and, and_true, reduceCtorEq, Nat.zero_add, Nat.add_zero, Nat.zero_mul, Nat.le_refl, Int.toNat_natCast, Bool.and_self, Bool.true_and, Bool.and_true, if_true, eq_self, forall_const, and_self, implies_true]) <;> try simp)
            · rename_i c2
              have eA : rowF goneF ts xs (x + 1) = [] := by rw [sA]; unfold goneF; rw [if_neg (by simp_all)]; rfl
              have MA : outM (rowF goneF ts xs (x + 1)) = [] := by rw [eA]; rfl
              have VA : ∀ k, outV k (rowF goneF ts xs (x + 1)) = .v (.slice none 0 0) := fun k => by rw [eA]; rfl
              have eB : rowF sizedF ts xs (x + 1) = hb :: tb := by rw [sB]; unfold sizedF; rw [if_neg (by simp_all)]; exact List.append_nil _
              have MB : outM (rowF sizedF ts xs (x + 1)) = [⟨true, csB⟩] := by rw [eB, mB]
              have VB : ∀ k, outV k (rowF sizedF ts xs (x + 1)) = .row k 0 nB 8 := fun k => by rw [eB, vB]
              have eC : rowF madeF ts xs (x + 1) = hc :: tc := by rw [sC]; unfold madeF; rw [if_neg (by simp_all)]; exact List.append_nil _
              have MC : outM (rowF madeF ts xs (x + 1)) = [⟨true, csC⟩] := by rw [eC, mC]
              have VC : ∀ k, outV k (rowF madeF ts xs (x + 1)) = .row k 0 nC 8 := fun k => by rw [eC, vC]
              (refine ⟨⟨x + 1, by omega⟩, by simp only; omega, [0, 1, 2, 3], by simp, ?_, ?_⟩ <;> simp only [MA, MB, MC, FitM, ObLe, LeL, Le, spS, List.append_nil, List.cons_append, List.nil_append, VA, VB, VC, List.length_nil, List.length_cons, Nat.add_zero, Nat.zero_add, Nat.reduceAdd, FitE] <;> (try simp (maxSteps := 2000000) -implicitDefEqProofs only [pL', pW', pB, pC, ↓Sy.PRE, Sy.POST, Nat.reduceDiv, Nat.reduceMod, Int.reduceLT, Int.reduceLE, Int.reduceToNat, Int.reduceAdd, decide_true, decide_false, ↓reduceIte, List.map_cons, List.map_nil, List.length_cons, List.length_nil, List.cons_append, List.nil_append, List.getElem?_cons_zero, List.getElem?_cons_succ, List.getElem?_nil, List.take_succ_cons, List.take_zero, List.drop_succ_cons, List.drop_zero, List.all_cons, List.all_nil, List.set_cons_zero, List.set_cons_succ, List.append_nil, Option.map_some, Option.map_none, cond_true, cond_false, Bool.true_eq_false, Bool.false_eq_true, Bool.not_true, Bool.not_false, Nat.reduceEqDiff, Nat.reduceAdd, Nat.reduceMul, Nat.reduceSub, Nat.reduceLeDiff, Nat.reduceLT, true_and, and_true, reduceCtorEq, Nat.zero_add, Nat.add_zero, Nat.zero_mul, Nat.le_refl, Int.toNat_natCast, Bool.and_self, Bool.true_and, Bool.and_true, if_true, eq_self, forall_const, and_self, implies_true]) <;> try simp)
          · rename_i c1
            split
            · rename_i c2
              split
              · rename_i c3
                have eA : rowF goneF ts xs (x + 1) = [spS 3 (x : Int) 0 0] := by rw [sA]; unfold goneF; rw [if_pos (by simp_all)]; rfl
                have MA : outM (rowF goneF ts xs (x + 1)) = [⟨true, spS 3 (x : Int) 0 0⟩] := by rw [eA]; rfl
                have VA : ∀ k, outV k (rowF goneF ts xs (x + 1)) = .row k 0 1 8 := fun k => by rw [eA]; rfl
                have eB : rowF sizedF ts xs (x + 1) = hb :: tb := by rw [sB]; unfold sizedF; rw [if_neg (by simp_all)]; exact List.append_nil _
                have MB : outM (rowF sizedF ts xs (x + 1)) = [⟨true, csB⟩] := by rw [eB, mB]
                have VB : ∀ k, outV k (rowF sizedF ts xs (x + 1)) = .row k 0 nB 8 := fun k => by rw [eB, vB]
                have eC : rowF madeF ts xs (x + 1) = (hc :: tc) ++ [spS 1 (x : Int) q.size q.spare] := by rw [sC]; unfold madeF; rw [if_pos (by simp_all)]
                have MC : outM (rowF madeF ts xs (x + 1)) = [⟨true, csC ++ spS 1 (x : Int) q.size q.spare⟩] := by rw [eC, outM_app, ← flatC]
                have VC : ∀ k, outV k (rowF madeF ts xs (x + 1)) = .row k 0 (nC + 1) 8 := fun k => by rw [eC, outV_app, ← lenC]
                have PC : ∀ g, LeL g (csC ++ spS 1 (x : Int) q.size q.spare) (csC ++ spS 1 (x : Int) q.size q.spare) := fun g => LeL_plain g (plainL_app rC.plain rfl)
                simp only [spS] at PC
                (refine ⟨⟨x + 1, by omega⟩, by simp only; omega, [0, 1, 7, 2, 9], by simp, ?_, ?_⟩ <;> simp only [MA, MB, MC, FitM, ObLe, LeL, Le, spS, List.append_nil, List.cons_append, List.nil_append, VA, VB, VC, List.length_nil, List.length_cons, Nat.add_zero, Nat.zero_add, Nat.reduceAdd, FitE] <;> (try simp (maxSteps := 2000000) -implicitDefEqProofs only [pL', pW', pB, PC, ↓Sy.PRE, Sy.POST, Nat.reduceDiv, Nat.reduceMod, Int.reduceLT, Int.reduceLE, Int.reduceToNat, Int.reduceAdd, decide_true, decide_false, ↓reduceIte, List.map_cons, List.map_nil, List.length_cons, List.length_nil, List.cons_append, List.nil_append, List.getElem?_cons_zero, List.getElem?_cons_succ, List.getElem?_nil, List.take_succ_cons, List.take_zero, List.drop_succ_cons, List.drop_zero, List.all_cons, List.all_nil, List.set_cons_zero, List.set_cons_succ, List.append_nil, Option.map_some, Option.map_none, cond_true, cond_false, Bool.true_eq_false, Bool.false_eq_true, Bool.not_true, Bool.not_false, Nat.reduceEqDiff, Nat.reduceAdd, Nat.reduceMul, Nat.reduceSub, Nat.reduceLeDiff, Nat.reduceLT, true_and, and_true, reduceCtorEq, Nat.zero_add, Nat.add_zero, Nat.zero_mul, Nat.le_refl, Int.toNat_natCast, Bool.and_self, Bool.true_and, Bool.and_true, if_true, eq_self, forall_const, and_self, implies_true]) <;> try simp)
              · rename_i c3
                have eA : rowF goneF ts xs (x + 1) = [spS 3 (x : Int) 0 0] := by rw [sA]; unfold goneF; rw [if_pos (by simp_all)]; rfl
                have MA : outM (rowF goneF ts xs (x + 1)) = [⟨true, spS 3 (x : Int) 0 0⟩] := by rw [eA]; rfl
                have VA : ∀ k, outV k (rowF goneF ts xs (x + 1)) = .row k 0 1 8 := fun k => by rw [eA]; rfl
                have eB : rowF sizedF ts xs (x + 1) = hb :: tb := by rw [sB]; unfold sizedF; rw [if_neg (by simp_all)]; exact List.append_nil _
                have MB : outM (rowF sizedF ts xs (x + 1)) = [⟨true, csB⟩] := by rw [eB, mB]
                have VB : ∀ k, outV k (rowF sizedF ts xs (x + 1)) = .row k 0 nB 8 := fun k => by rw [eB, vB]
                have eC : rowF madeF ts xs (x + 1) = hc :: tc := by rw [sC]; unfold madeF; rw [if_neg (by simp_all)]; exact List.append_nil _
                have MC : outM (rowF madeF ts xs (x + 1)) = [⟨true, csC⟩] := by rw [eC, mC]
                have VC : ∀ k, outV k (rowF madeF ts xs (x + 1)) = .row k 0 nC 8 := fun k => by rw [eC, vC]
                (refine ⟨⟨x + 1, by omega⟩, by simp only; omega, [0, 1, 7, 2, 3], by simp, ?_, ?_⟩ <;> simp only [MA, MB, MC, FitM, ObLe, LeL, Le, spS, List.append_nil, List.cons_append, List.nil_append, VA, VB, VC, List.length_nil, List.length_cons, Nat.add_zero, Nat.zero_add, Nat.reduceAdd, FitE] <;> (try simp (maxSteps := 2000000) -implicitDefEqProofs only [pL', pW', pB, pC, ↓Sy.PRE, Sy.POST, Nat.reduceDiv, Nat.reduceMod, Int.reduceLT, Int.reduceLE, Int.reduceToNat, Int.reduceAdd, decide_true, decide_false, ↓reduceIte, List.map_cons, List.map_nil, List.length_cons, List.length_nil, List.cons_append, List.nil_append, List.getElem?_cons_zero, List.getElem?_cons_succ, List.getElem?_nil, List.take_succ_cons, List.take_zero, List.drop_succ_cons, List.drop_zero, List.all_cons, List.all_nil, List.set_cons_zero, List.set_cons_succ, List.append_nil, Option.map_some, Option.map_none, cond_true, cond_false, Bool.true_eq_false, Bool.false_eq_true, Bool.not_true, Bool.not_false, Nat.reduceEqDiff, Nat.reduceAdd, Nat.reduceMul, Nat.reduceSub, Nat.reduceLeDiff, Nat.reduceLT, true_and, and_true, reduceCtorEq, Nat.zero_add, Nat.add_zero, Nat.zero_mul, Nat.le_refl, Int.toNat_natCast, Bool.and_self, Bool.true_and, Bool.and_true, if_true, eq_self, forall_const, and_self, implies_true]) <;> try simp)
            · rename_i c2
              split
              · rename_i c3
                have eA : rowF goneF ts xs (x + 1) = [] := by rw [sA]; unfold goneF; rw [if_neg (by simp_all)]; rfl
                have MA : outM (rowF goneF ts xs (x + 1)) = [] := by rw [eA]; rfl
                have VA : ∀ k, outV k (rowF goneF ts xs (x + 1)) = .v (.slice none 0 0) := fun k => by rw [eA]; rfl
                have eB : rowF sizedF ts xs (x + 1) = hb :: tb := by rw [sB]; unfold sizedF; rw [if_neg (by simp_all)]; exact List.append_nil _
                have MB : outM (rowF sizedF ts xs (x + 1)) = [⟨true, csB⟩] := by rw [eB, mB]
                have VB : ∀ k, outV k (rowF sizedF ts xs (x + 1)) = .row k 0 nB 8 := fun k => by rw [eB, vB]
                have eC : rowF madeF ts xs (x + 1) = (hc :: tc) ++ [spS 1 (x : Int) q.size q.spare] := by rw [sC]; unfold madeF; rw [if_pos (by simp_all)]
                have MC : outM (rowF madeF ts xs (x + 1)) = [⟨true, csC ++ spS 1 (x : Int) q.size q.spare⟩] := by rw [eC, outM_app, ← flatC]
                have VC : ∀ k, outV k (rowF madeF ts xs (x + 1)) = .row k 0 (nC + 1) 8 := fun k => by rw [eC, outV_app, ← lenC]
                have PC : ∀ g, LeL g (csC ++ spS 1 (x : Int) q.size q.spare) (csC ++ spS 1 (x : Int) q.size q.spare) := fun g => LeL_plain g (plainL_app rC.plain rfl)
                simp only [spS] at PC
                (refine ⟨⟨x + 1, by omega⟩, by simp only; omega, [0, 1, 2, 7], by simp, ?_, ?_⟩ <;> simp only [MA, MB, MC, FitM, ObLe, LeL, Le, spS, List.append_nil, List.cons_append, List.nil_append, VA, VB, VC, List.length_nil, List.length_cons, Nat.add_zero, Nat.zero_add, Nat.reduceAdd, FitE] <;> (try simp (maxSteps := 2000000) -implicitDefEqProofs only [pL', pW', pB, PC, ↓Sy.PRE, Sy.POST, Nat.reduceDiv, Nat.reduceMod, Int.reduceLT, Int.reduceLE, Int.reduceToNat, Int.reduceAdd, decide_true, decide_false, ↓reduceIte, List.map_cons, List.map_nil, List.length_cons, List.length_nil, List.cons_append, List.nil_append, List.getElem?_cons_zero, List.getElem?_cons_succ, List.getElem?_nil, List.take_succ_cons, List.take_zero, List.drop_succ_cons, List.drop_zero, List.all_cons, List.all_nil, List.set_cons_zero, List.set_cons_succ, List.append_nil, Option.map_some, Option.map_none, cond_true, cond_false, Bool.true_eq_false, Bool.false_eq_true, Bool.not_true, Bool.not_false, Nat.reduceEqDiff, Nat.reduceAdd, Nat.reduceMul, Nat.reduceSub, Nat.reduceLeDiff, Nat.reduceLT, true_and, and_true, reduceCtorEq, Nat.zero_add, Nat.add_zero, Nat.zero_mul, Nat.le_refl, Int.toNat_natCast, Bool.and_self, Bool.true_and, Bool.and_true, if_true, eq_self, forall_const, and_self, implies_true]) <;> try simp)
              · rename_i c3
                have eA : rowF goneF ts xs (x + 1) = [] := by rw [sA]; unfold goneF; rw [if_neg (by simp_all)]; rfl
                have MA : outM (rowF goneF ts xs (x + 1)) = [] := by rw [eA]; rfl
                have VA : ∀ k, outV k (rowF goneF ts xs (x + 1)) = .v (.slice none 0 0) := fun k => by rw [eA]; rfl
                have eB : rowF sizedF ts xs (x + 1) = hb :: tb := by rw [sB]; unfold sizedF; rw [if_neg (by simp_all)]; exact List.append_nil _
                have MB : outM (rowF sizedF ts xs (x + 1)) = [⟨true, csB⟩] := by rw [eB, mB]
                have VB : ∀ k, outV k (rowF sizedF ts xs (x + 1)) = .row k 0 nB 8 := fun k => by rw [eB, vB]
                have eC : rowF madeF ts xs (x + 1) = hc :: tc := by rw [sC]; unfold madeF; rw [if_neg (by simp_all)]; exact List.append_nil _
                have MC : outM (rowF madeF ts xs (x + 1)) = [⟨true, csC⟩] := by rw [eC, mC]
                have VC : ∀ k, outV k (rowF madeF ts xs (x + 1)) = .row k 0 nC 8 := fun k => by rw [eC, vC]
                (refine ⟨⟨x + 1, by omega⟩, by simp only; omega, [0, 1, 2, 3], by simp, ?_, ?_⟩ <;> simp only [MA, MB, MC, FitM, ObLe, LeL, Le, spS, List.append_nil, List.cons_append, List.nil_append, VA, VB, VC, List.length_nil, List.length_cons, Nat.add_zero, Nat.zero_add, Nat.reduceAdd, FitE] <;> (try simp (maxSteps := 2000000) -implicitDefEqProofs only [pL', pW', pB, pC, ↓Sy.PRE, Sy.POST, Nat.reduceDiv, Nat.reduceMod, Int.reduceLT, Int.reduceLE, Int.reduceToNat, Int.reduceAdd, decide_true, decide_false, ↓reduceIte, List.map_cons, List.map_nil, List.length_cons, List.length_nil, List.cons_append, List.nil_append, List.getElem?_cons_zero, List.getElem?_cons_succ, List.getElem?_nil, List.take_succ_cons, List.take_zero, List.drop_succ_cons, List.drop_zero, List.all_cons, List.all_nil, List.set_cons_zero, List.set_cons_succ, List.append_nil, Option.map_some, Option.map_none, cond_true, cond_false, Bool.true_eq_false, Bool.false_eq_true, Bool.not_true, Bool.not_false, Nat.reduceEqDiff, Nat.reduceAdd, Nat.reduceMul, Nat.reduceSub, Nat.reduceLeDiff, Nat.reduceLT, true_and, and_true, reduceCtorEq, Nat.zero_add, Nat.add_zero, Nat.zero_mul, Nat.le_refl, Int.toNat_natCast, Bool.and_self, Bool.true_and, Bool.and_true, if_true, eq_self, forall_const, and_self, implies_true]) <;> try simp)
        · have rA := RowOk.of hA oA
          have vA : ∀ k, outV k (ha :: ta) = .row k 0 (ha :: ta).length 8 := fun k => rfl
          have mA : outM (ha :: ta) = [⟨true, (ha :: ta).flatten⟩] := rfl
          generalize flatA : (ha :: ta).flatten = csA at rA mA
          generalize lenA : (ha :: ta).length = nA at rA vA
          have lA := rA.len
          have zA := rA.pos
          have uA := rA.le
          have kA : csA.take (nA * 8) = csA := List.take_of_length_le (by omega)
          have yA : nA + 1 ≤ maxLen := by simp [maxLen]; omega
          have jA : (nA + 1) * 72 ≤ 140737488355328 := by omega
          have pA : ∀ g, LeL g csA csA := fun g => LeL_plain g rA.plain
          skip
          simp only [outV_nil, outM_nil, List.length_nil, Nat.add_zero, List.nil_append, List.append_nil]
          simp only [vA, mA,  outV_nil, outM_nil, List.length_nil, List.length_cons, List.append_nil, List.nil_append, List.cons_append, Nat.add_zero, Nat.zero_add, Nat.reduceAdd]
          simp (maxSteps := 2000000) -implicitDefEqProofs only [↓c106, LL, LW, dT, dW, i0, i4, w1, f5, f2, hm0, tn_eta, spS, lA, kA, yA, jA, ↓Sy.PRE, Sy.POST, Nat.reduceDiv, Nat.reduceMod, Int.reduceLT, Int.reduceLE, Int.reduceToNat, Int.reduceAdd, decide_true, decide_false, ↓reduceIte, List.map_cons, List.map_nil, List.length_cons, List.length_nil, List.cons_append, List.nil_append, List.getElem?_cons_zero, List.getElem?_cons_succ, List.getElem?_nil, List.take_succ_cons, List.take_zero, List.drop_succ_cons, List.drop_zero, List.all_cons, List.all_nil, List.set_cons_zero, List.set_cons_succ, List.append_nil, Option.map_some, Option.map_none, cond_true, cond_false, Bool.true_eq_false, Bool.false_eq_true, Bool.not_true, Bool.not_false, Nat.reduceEqDiff, Nat.reduceAdd, Nat.reduceMul, Nat.reduceSub, Nat.reduceLeDiff, Nat.reduceLT, true_and, and_true, reduceCtorEq, Nat.zero_add, Nat.add_zero, Nat.zero_mul, Nat.le_refl, Int.toNat_natCast, Bool.and_self, Bool.true_and, Bool.and_true, if_true, eq_self, forall_const, and_self, implies_true]
          split
          · rename_i c1
            split
            · rename_i c2
              have eA : rowF goneF ts xs (x + 1) = ha :: ta := by rw [sA]; unfold goneF; rw [if_neg (by simp_all)]; exact List.append_nil _
              have MA : outM (rowF goneF ts xs (x + 1)) = [⟨true, csA⟩] := by rw [eA, mA]
              have VA : ∀ k, outV k (rowF goneF ts xs (x + 1)) = .row k 0 nA 8 := fun k => by rw [eA, vA]
              have eB : rowF sizedF ts xs (x + 1) = [spS 2 (x : Int) q.size 0] := by rw [sB]; unfold sizedF; rw [if_pos (by simp_all)]; rfl
              have MB : outM (rowF sizedF ts xs (x + 1)) = [⟨true, spS 2 (x : Int) q.size 0⟩] := by rw [eB]; rfl
              have VB : ∀ k, outV k (rowF sizedF ts xs (x + 1)) = .row k 0 1 8 := fun k => by rw [eB]; rfl
              have eC : rowF madeF ts xs (x + 1) = [] := by rw [sC]; unfold madeF; rw [if_neg (by simp_all)]; rfl
              have MC : outM (rowF madeF ts xs (x + 1)) = [] := by rw [eC]; rfl
              have VC : ∀ k, outV k (rowF madeF ts xs (x + 1)) = .v (.slice none 0 0) := fun k => by rw [eC]; rfl
              (refine ⟨⟨x + 1, by omega⟩, by simp only; omega, [0, 1, 2, 6], by simp, ?_, ?_⟩ <;> simp only [MA, MB, MC, FitM, ObLe, LeL, Le, spS, List.append_nil, List.cons_append, List.nil_append, VA, VB, VC, List.length_nil, List.length_cons, Nat.add_zero, Nat.zero_add, Nat.reduceAdd, FitE] <;> (try simp (maxSteps := 2000000) -implicitDefEqProofs only [pL', pW', pA, ↓Sy.PRE, Sy.POST, Nat.reduceDiv, Nat.reduceMod, Int.reduceLT, Int.reduceLE, Int.reduceToNat, Int.reduceAdd, decide_true, decide_false, ↓reduceIte, List.map_cons, List.map_nil, List.length_cons, List.length_nil, List.cons_append, List.nil_append, List.getElem?_cons_zero, List.getElem?_cons_succ, List.getElem?_nil, List.take_succ_cons, List.take_zero, List.drop_succ_cons, List.drop_zero, List.all_cons, List.all_nil, List.set_cons_zero, List.set_cons_succ, List.append_nil, Option.map_some, Option.map_none, cond_true, cond_false, Bool.true_eq_false, Bool.false_eq_true, Bool.not_true, Bool.not_false, Nat.reduceEqDiff, Nat.reduceAdd, Nat.reduceMul, Nat.reduceSub, Nat.reduceLeDiff, Nat.reduceLT, true_and, and_true, reduceCtorEq, Nat.zero_add, Nat.add_zero, Nat.zero_mul, Nat.le_refl, Int.toNat_natCast, Bool.and_self, Bool.true_and, Bool.and_true, if_true, eq_self, forall_const, and_self, implies_true]) <;> try simp)
            · rename_i c2
              have eA : rowF goneF ts xs (x + 1) = ha :: ta := by rw [sA]; unfold goneF; rw [if_neg (by simp_all)]; exact List.append_nil _
              have MA : outM (rowF goneF ts xs (x + 1)) = [⟨true, csA⟩] := by rw [eA, mA]
              have VA : ∀ k, outV k (rowF goneF ts xs (x + 1)) = .row k 0 nA 8 := fun k => by rw [eA, vA]
              have eB : rowF sizedF ts xs (x + 1) = [] := by rw [sB]; unfold sizedF; rw [if_neg (by simp_all)]; rfl
              have MB : outM (rowF sizedF ts xs (x + 1)) = [] := by rw [eB]; rfl
              have VB : ∀ k, outV k (rowF sizedF ts xs (x + 1)) = .v (.slice none 0 0) := fun k => by rw [eB]; rfl
              have eC : rowF madeF ts xs (x + 1) = [] := by rw [sC]; unfold madeF; rw [if_neg (by simp_all)]; rfl
              have MC : outM (rowF madeF ts xs (x + 1)) = [] := by rw [eC]; rfl
              have VC : ∀ k, outV k (rowF madeF ts xs (x + 1)) = .v (.slice none 0 0) := fun k => by rw [eC]; rfl
              (refine ⟨⟨x + 1, by omega⟩, by simp only; omega, [0, 1, 2], by simp, ?_, ?_⟩ <;> simp only [MA, MB, MC, FitM, ObLe, LeL, Le, spS, List.append_nil, List.cons_append, List.nil_append, VA, VB, VC, List.length_nil, List.length_cons, Nat.add_zero, Nat.zero_add, Nat.reduceAdd, FitE] <;> (try simp (maxSteps := 2000000) -implicitDefEqProofs only [pL', pW', pA, ↓Sy.PRE, Sy.POST, Nat.reduceDiv, Nat.reduceMod, Int.reduceLT, Int.reduceLE, Int.reduceToNat, Int.reduceAdd, decide_true, decide_false, ↓reduceIte, List.map_cons, List.map_nil, List.length_cons, List.length_nil, List.cons_append, List.nil_append, List.getElem?_cons_zero, List.getElem?_cons_succ, List.getElem?_nil, List.take_succ_cons, List.take_zero, List.drop_succ_cons, List.drop_zero, List.all_cons, List.all_nil, List.set_cons_zero, List.set_cons_succ, List.append_nil, Option.map_some, Option.map_none, cond_true, cond_false, Bool.true_eq_false, Bool.false_eq_true, Bool.not_true, Bool.not_false, Nat.reduceEqDiff, Nat.reduceAdd, Nat.reduceMul, Nat.reduceSub, Nat.reduceLeDiff, Nat.reduceLT, true_and, and_true, reduceCtorEq, Nat.zero_add, Nat.add_zero, Nat.zero_mul, Nat.le_refl, Int.toNat_natCast, Bool.and_self, Bool.true_and, Bool.and_true, if_true, eq_self, forall_const, and_self, implies_true]) <;> try simp)
          · rename_i c1
            split
            · rename_i c2
              split
              · rename_i c3
                have eA : rowF goneF ts xs (x + 1) = (ha :: ta) ++ [spS 3 (x : Int) 0 0] := by rw [sA]; unfold goneF; rw [if_pos (by simp_all)]
                have MA : outM (rowF goneF ts xs (x + 1)) = [⟨true, csA ++ spS 3 (x : Int) 0 0⟩] := by rw [eA, outM_app, ← flatA]
                have VA : ∀ k, outV k (rowF goneF ts xs (x + 1)) = .row k 0 (nA + 1) 8 := fun k => by rw [eA, outV_app, ← lenA]
                have PA : ∀ g, LeL g (csA ++ spS 3 (x : Int) 0 0) (csA ++ spS 3 (x : Int) 0 0) := fun g => LeL_plain g (plainL_app rA.plain rfl)
                simp only [spS] at PA
                have eB : rowF sizedF ts xs (x + 1) = [] := by rw [sB]; unfold sizedF; rw [if_neg (by simp_all)]; rfl
                have MB : outM (rowF sizedF ts xs (x + 1)) = [] := by rw [eB]; rfl
                have VB : ∀ k, outV k (rowF sizedF ts xs (x + 1)) = .v (.slice none 0 0) := fun k => by rw [eB]; rfl
                have eC : rowF madeF ts xs (x + 1) = [spS 1 (x : Int) q.size q.spare] := by rw [sC]; unfold madeF; rw [if_pos (by simp_all)]; rfl
                have MC : outM (rowF madeF ts xs (x + 1)) = [⟨true, spS 1 (x : Int) q.size q.spare⟩] := by rw [eC]; rfl
                have VC : ∀ k, outV k (rowF madeF ts xs (x + 1)) = .row k 0 1 8 := fun k => by rw [eC]; rfl
                (refine ⟨⟨x + 1, by omega⟩, by simp only; omega, [0, 1, 6, 8], by simp, ?_, ?_⟩ <;> simp only [MA, MB, MC, FitM, ObLe, LeL, Le, spS, List.append_nil, List.cons_append, List.nil_append, VA, VB, VC, List.length_nil, List.length_cons, Nat.add_zero, Nat.zero_add, Nat.reduceAdd, FitE] <;> (try simp (maxSteps := 2000000) -implicitDefEqProofs only [pL', pW', PA, ↓Sy.PRE, Sy.POST, Nat.reduceDiv, Nat.reduceMod, Int.reduceLT, Int.reduceLE, Int.reduceToNat, Int.reduceAdd, decide_true, decide_false, ↓reduceIte, List.map_cons, List.map_nil, List.length_cons, List.length_nil, List.cons_append, List.nil_append, List.getElem?_cons_zero, List.getElem?_cons_succ, List.getElem?_nil, List.take_succ_cons, List.take_zero, List.drop_succ_cons, List.drop_zero, List.all_cons, List.all_nil, List.set_cons_zero, List.set_cons_succ, List.append_nil, Option.map_some, Option.map_none, cond_true, cond_false, Bool.true_eq_false, Bool.false_eq_true, Bool.not_true, Bool.not_false, Nat.reduceEqDiff, Nat.reduceAdd, Nat.reduceMul, Nat.reduceSub, Nat.reduceLeDiff, Nat.reduceLT, true_and, and_true, reduceCtorEq, Nat.zero_add, Nat.add_zero, Nat.zero_mul, Nat.le_refl, Int.toNat_natCast, Bool.and_self, Bool.true_and, Bool.and_true, if_true, eq_self, forall_const, and_self, implies_true]) <;> try simp)
              · rename_i c3
                have eA : rowF goneF ts xs (x + 1) = (ha :: ta) ++ [spS 3 (x : Int) 0 0] := by rw [sA]; unfold goneF; rw [if_pos (by simp_all)]
                have MA : outM (rowF goneF ts xs (x + 1)) = [⟨true, csA ++ spS 3 (x : Int) 0 0⟩] := by rw [eA, outM_app, ← flatA]
                have VA : ∀ k, outV k (rowF goneF ts xs (x + 1)) = .row k 0 (nA + 1) 8 := fun k => by rw [eA, outV_app, ← lenA]
                have PA : ∀ g, LeL g (csA ++ spS 3 (x : Int) 0 0) (csA ++ spS 3 (x : Int) 0 0) := fun g => LeL_plain g (plainL_app rA.plain rfl)
                simp only [spS] at PA
                have eB : rowF sizedF ts xs (x + 1) = [] := by rw [sB]; unfold sizedF; rw [if_neg (by simp_all)]; rfl
                have MB : outM (rowF sizedF ts xs (x + 1)) = [] := by rw [eB]; rfl
                have VB : ∀ k, outV k (rowF sizedF ts xs (x + 1)) = .v (.slice none 0 0) := fun k => by rw [eB]; rfl
                have eC : rowF madeF ts xs (x + 1) = [] := by rw [sC]; unfold madeF; rw [if_neg (by simp_all)]; rfl
                have MC : outM (rowF madeF ts xs (x + 1)) = [] := by rw [eC]; rfl
                have VC : ∀ k, outV k (rowF madeF ts xs (x + 1)) = .v (.slice none 0 0) := fun k => by rw [eC]; rfl
                (refine ⟨⟨x + 1, by omega⟩, by simp only; omega, [0, 1, 6], by simp, ?_, ?_⟩ <;> simp only [MA, MB, MC, FitM, ObLe, LeL, Le, spS, List.append_nil, List.cons_append, List.nil_append, VA, VB, VC, List.length_nil, List.length_cons, Nat.add_zero, Nat.zero_add, Nat.reduceAdd, FitE] <;> (try simp (maxSteps := 2000000) -implicitDefEqProofs only [pL', pW', PA, ↓Sy.PRE, Sy.POST, Nat.reduceDiv, Nat.reduceMod, Int.reduceLT, Int.reduceLE, Int.reduceToNat, Int.reduceAdd, decide_true, decide_false, ↓reduceIte, List.map_cons, List.map_nil, List.length_cons, List.length_nil, List.cons_append, List.nil_append, List.getElem?_cons_zero, List.getElem?_cons_succ, List.getElem?_nil, List.take_succ_cons, List.take_zero, List.drop_succ_cons, List.drop_zero, List.all_cons, List.all_nil, List.set_cons_zero, List.set_cons_succ, List.append_nil, Option.map_some, Option.map_none, cond_true, cond_false, Bool.true_eq_false, Bool.false_eq_true, Bool.not_true, Bool.not_false, Nat.reduceEqDiff, Nat.reduceAdd, Nat.reduceMul, Nat.reduceSub, Nat.reduceLeDiff, Nat.reduceLT, true_and, and_true, reduceCtorEq, Nat.zero_add, Nat.add_zero, Nat.zero_mul, Nat.le_refl, Int.toNat_natCast, Bool.and_self, Bool.true_and, Bool.and_true, if_true, eq_self, forall_const, and_self, implies_true]) <;> try simp)
            · rename_i c2
              split
              · rename_i c3
                have eA : rowF goneF ts xs (x + 1) = ha :: ta := by rw [sA]; unfold goneF; rw [if_neg (by simp_all)]; exact List.append_nil _
                have MA : outM (rowF goneF ts xs (x + 1)) = [⟨true, csA⟩] := by rw [eA, mA]
                have VA : ∀ k, outV k (rowF goneF ts xs (x + 1)) = .row k 0 nA 8 := fun k => by rw [eA, vA]
                have eB : rowF sizedF ts xs (x + 1) = [] := by rw [sB]; unfold sizedF; rw [if_neg (by simp_all)]; rfl
                have MB : outM (rowF sizedF ts xs (x + 1)) = [] := by rw [eB]; rfl
                have VB : ∀ k, outV k (rowF sizedF ts xs (x + 1)) = .v (.slice none 0 0) := fun k => by rw [eB]; rfl
                have eC : rowF madeF ts xs (x + 1) = [spS 1 (x : Int) q.size q.spare] := by rw [sC]; unfold madeF; rw [if_pos (by simp_all)]; rfl
                have MC : outM (rowF madeF ts xs (x + 1)) = [⟨true, spS 1 (x : Int) q.size q.spare⟩] := by rw [eC]; rfl
                have VC : ∀ k, outV k (rowF madeF ts xs (x + 1)) = .row k 0 1 8 := fun k => by rw [eC]; rfl
                (refine ⟨⟨x + 1, by omega⟩, by simp only; omega, [0, 1, 2, 6], by simp, ?_, ?_⟩ <;> simp only [MA, MB, MC, FitM, ObLe, LeL, Le, spS, List.append_nil, List.cons_append, List.nil_append, VA, VB, VC, List.length_nil, List.length_cons, Nat.add_zero, Nat.zero_add, Nat.reduceAdd, FitE] <;> (try simp (maxSteps := 2000000) -implicitDefEqProofs only [pL', pW', pA, ↓Sy.PRE, Sy.POST, Nat.reduceDiv, Nat.reduceMod, Int.reduceLT, Int.reduceLE, Int.reduceToNat, Int.reduceAdd, decide_true, decide_false, ↓reduceIte, List.map_cons, List.map_nil, List.length_cons, List.length_nil, List.cons_append, List.nil_append, List.getElem?_cons_zero, List.getElem?_cons_succ, List.getElem?_nil, List.take_succ_cons, List.take_zero, List.drop_succ_cons, List.drop_zero, List.all_cons, List.all_nil, List.set_cons_zero, List.set_cons_succ, List.append_nil, Option.map_some, Option.map_none, cond_true, cond_false, Bool.true_eq_false, Bool.false_eq_true, Bool.not_true, Bool.not_false, Nat.reduceEqDiff, Nat.reduceAdd, Nat.reduceMul, Nat.reduceSub, Nat.reduceLeDiff, Nat.reduceLT, true_and, and_true, reduceCtorEq, Nat.zero_add, Nat.add_zero, Nat.zero_mul, Nat.le_refl, Int.toNat_natCast, Bool.and_self, Bool.true_and, Bool.and_true, if_true, eq_self, forall_const, and_self, implies_true]) <;> try simp)
              · rename_i c3
                have eA : rowF goneF ts xs (x + 1) = ha :: ta := by rw [sA]; unfold goneF; rw [if_neg (by simp_all)]; exact List.append_nil _
                have MA : outM (rowF goneF ts xs (x + 1)) = [⟨true, csA⟩] := by rw [eA, mA]
                have VA : ∀ k, outV k (rowF goneF ts xs (x + 1)) = .row k 0 nA 8 := fun k => by rw [eA, vA]
                have eB : rowF sizedF ts xs (x + 1) = [] := by rw [sB]; unfold sizedF; rw [if_neg (by simp_all)]; rfl
                have MB : outM (rowF sizedF ts xs (x + 1)) = [] := by rw [eB]; rfl
                have VB : ∀ k, outV k (rowF sizedF ts xs (x + 1)) = .v (.slice none 0 0) := fun k => by rw [eB]; rfl
                have eC : rowF madeF ts xs (x + 1) = [] := by rw [sC]; unfold madeF; rw [if_neg (by simp_all)]; rfl
                have MC : outM (rowF madeF ts xs (x + 1)) = [] := by rw [eC]; rfl
                have VC : ∀ k, outV k (rowF madeF ts xs (x + 1)) = .v (.slice none 0 0) := fun k => by rw [eC]; rfl
                (refine ⟨⟨x + 1, by omega⟩, by simp only; omega, [0, 1, 2], by simp, ?_, ?_⟩ <;> simp only [MA, MB, MC, FitM, ObLe, LeL, Le, spS, List.append_nil, List.cons_append, List.nil_append, VA, VB, VC, List.length_nil, List.length_cons, Nat.add_zero, Nat.zero_add, Nat.reduceAdd, FitE] <;> (try simp (maxSteps := 2000000) -implicitDefEqProofs only [pL', pW', pA, ↓Sy.PRE, Sy.POST, Nat.reduceDiv, Nat.reduceMod, Int.reduceLT, Int.reduceLE, Int.reduceToNat, Int.reduceAdd, decide_true, decide_false, ↓reduceIte, List.map_cons, List.map_nil, List.length_cons, List.length_nil, List.cons_append, List.nil_append, List.getElem?_cons_zero, List.getElem?_cons_succ, List.getElem?_nil, List.take_succ_cons, List.take_zero, List.drop_succ_cons, List.drop_zero, List.all_cons, List.all_nil, List.set_cons_zero, List.set_cons_succ, List.append_nil, Option.map_some, Option.map_none, cond_true, cond_false, Bool.true_eq_false, Bool.false_eq_true, Bool.not_true, Bool.not_false, Nat.reduceEqDiff, Nat.reduceAdd, Nat.reduceMul, Nat.reduceSub, Nat.reduceLeDiff, Nat.reduceLT, true_and, and_true, reduceCtorEq, Nat.zero_add, Nat.add_zero, Nat.zero_mul, Nat.le_refl, Int.toNat_natCast, Bool.and_self, Bool.true_and, Bool.and_true, if_true, eq_self, forall_const, and_self, implies_true]) <;> try simp)
        · have rA := RowOk.of hA oA
          have vA : ∀ k, outV k (ha :: ta) = .row k 0 (ha :: ta).length 8 := fun k => rfl
          have mA : outM (ha :: ta) = [⟨true, (ha :: ta).flatten⟩] := rfl
          generalize flatA : (ha :: ta).flatten = csA at rA mA
          generalize lenA : (ha :: ta).length = nA at rA vA
          have lA := rA.len
          have zA := rA.pos
          have uA := rA.le
          have kA : csA.take (nA * 8) = csA := List.take_of_length_le (by omega)
          have yA : nA + 1 ≤ maxLen := by simp [maxLen]; omega
          have jA : (nA + 1) * 72 ≤ 140737488355328 := by omega
          have pA : ∀ g, LeL g csA csA := fun g => LeL_plain g rA.plain
          skip
          have rC := RowOk.of hC oC
          have vC : ∀ k, outV k (hc :: tc) = .row k 0 (hc :: tc).length 8 := fun k => rfl
          have mC : outM (hc :: tc) = [⟨true, (hc :: tc).flatten⟩] := rfl
          generalize flatC : (hc :: tc).flatten = csC at rC mC
          generalize lenC : (hc :: tc).length = nC at rC vC
          have lC := rC.len
          have zC := rC.pos
          have uC := rC.le
          have kC : csC.take (nC * 8) = csC := List.take_of_length_le (by omega)
          have yC : nC + 1 ≤ maxLen := by simp [maxLen]; omega
          have jC : (nC + 1) * 72 ≤ 140737488355328 := by omega
          have pC : ∀ g, LeL g csC csC := fun g => LeL_plain g rC.plain
          simp only [vA, mA, vC, mC,  outV_nil, outM_nil, List.length_nil, List.length_cons, List.append_nil, List.nil_append, List.cons_append, Nat.add_zero, Nat.zero_add, Nat.reduceAdd]
          simp (maxSteps := 2000000) -implicitDefEqProofs only [↓c106, LL, LW, dT, dW, i0, i4, w1, f5, f2, hm0, tn_eta, spS, lA, kA, yA, jA, lC, kC, yC, jC, ↓Sy.PRE, Sy.POST, Nat.reduceDiv, Nat.reduceMod, Int.reduceLT, Int.reduceLE, Int.reduceToNat, Int.reduceAdd, decide_true, decide_false, ↓reduceIte, List.map_cons, List.map_nil, List.length_cons, List.length_nil, List.cons_append, List.nil_append, List.getElem?_cons_zero, List.getElem?_cons_succ, List.getElem?_nil, List.take_succ_cons, List.take_zero, List.drop_succ_cons, List.drop_zero, List.all_cons, List.all_nil, List.set_cons_zero, List.set_cons_succ, List.append_nil, Option.map_some, Option.map_none, cond_true, cond_false, Bool.true_eq_false, Bool.false_eq_true, Bool.not_true, Bool.not_false, Nat.reduceEqDiff, Nat.reduceAdd, Nat.reduceMul, Nat.reduceSub, Nat.reduceLeDiff, Nat.reduceLT, true_and, and_true, reduceCtorEq, Nat.zero_add, Nat.add_zero, Nat.zero_mul, Nat.le_refl, Int.toNat_natCast, Bool.and_self, Bool.true_and, Bool.and_true, if_true, eq_self, forall_const, and_self, implies_true]
          split
          · rename_i c1
            split
            · rename_i c2
              have eA : rowF goneF ts xs (x + 1) = ha :: ta := by rw [sA]; unfold goneF; rw [if_neg (by simp_all)]; exact List.append_nil _
              have MA : outM (rowF goneF ts xs (x + 1)) = [⟨true, csA⟩] := by rw [eA, mA]
              have VA : ∀ k, outV k (rowF goneF ts xs (x + 1)) = .row k 0 nA 8 := fun k => by rw [eA, vA]
              have eB : rowF sizedF ts xs (x + 1) = [spS 2 (x : Int) q.size 0] := by rw [sB]; unfold sizedF; rw [if_pos (by simp_all)]; rfl
              have MB : outM (rowF sizedF ts xs (x + 1)) = [⟨true, spS 2 (x : Int) q.size 0⟩] := by rw [eB]; rfl
              have VB : ∀ k, outV k (rowF sizedF ts xs (x + 1)) = .row k 0 1 8 := fun k => by rw [eB]; rfl
              have eC : rowF madeF ts xs (x + 1) = hc :: tc := by rw [sC]; unfold madeF; rw [if_neg (by simp_all)]; exact List.append_nil _
              have MC : outM (rowF madeF ts xs (x + 1)) = [⟨true, csC⟩] := by rw [eC, mC]
              have VC : ∀ k, outV k (rowF madeF ts xs (x + 1)) = .row k 0 nC 8 := fun k => by rw [eC, vC]
              (refine ⟨⟨x + 1, by omega⟩, by simp only; omega, [0, 1, 2, 7, 3], by simp, ?_, ?_⟩ <;> simp only [MA, MB, MC, FitM, ObLe, LeL, Le, spS, List.append_nil, List.cons_append, List.nil_append, VA, VB, VC, List.length_nil, List.length_cons, Nat.add_zero, Nat.zero_add, Nat.reduceAdd, FitE] <;> (try simp (maxSteps := 2000000) -implicitDefEqProofs only [pL', pW', pA, pC, ↓Sy.PRE, Sy.POST, Nat.reduceDiv, Nat.reduceMod, Int.reduceLT, Int.reduceLE, Int.reduceToNat, Int.reduceAdd, decide_true, decide_false, ↓reduceIte, List.map_cons, List.map_nil, List.length_cons, List.length_nil, List.cons_append, List.nil_append, List.getElem?_cons_zero, List.getElem?_cons_succ, List.getElem?_nil, List.take_succ_cons, List.take_zero, List.drop_succ_cons, List.drop_zero, List.all_cons, List.all_nil, List.set_cons_zero, List.set_cons_succ, List.append_nil, Option.map_some, Option.map_none, cond_true, cond_false, Bool.true_eq_false, Bool.false_eq_true, Bool.not_true, Bool.not_false, Nat.reduceEqDiff, Nat.reduceAdd, Nat.reduceMul, Nat.reduceSub, Nat.reduceLeDiff, Nat.reduceLT, true_and, and_true, reduceCtorEq, Nat.zero_add, Nat.add_zero, Nat.zero_mul, Nat.le_refl, Int.toNat_natCast, Bool.and_self, Bool.true_and, Bool.and_true, if_true, eq_self, forall_const, and_self, implies_true]) <;> try simp)
            · rename_i c2
              have eA : rowF goneF ts xs (x + 1) = ha :: ta := by rw [sA]; unfold goneF; rw [if_neg (by simp_all)]; exact List.append_nil _
              have MA : outM (rowF goneF ts xs (x + 1)) = [⟨true, csA⟩] := by rw [eA, mA]
              have VA : ∀ k, outV k (rowF goneF ts xs (x + 1)) = .row k 0 nA 8 := fun k => by rw [eA, vA]
              have eB : rowF sizedF ts xs (x + 1) = [] := by rw [sB]; unfold sizedF; rw [if_neg (by simp_all)]; rfl
              have MB : outM (rowF sizedF ts xs (x + 1)) = [] := by rw [eB]; rfl
              have VB : ∀ k, outV k (rowF sizedF ts xs (x + 1)) = .v (.slice none 0 0) := fun k => by rw [eB]; rfl
              have eC : rowF madeF ts xs (x + 1) = hc :: tc := by rw [sC]; unfold madeF; rw [if_neg (by simp_all)]; exact List.append_nil _
              have MC : outM (rowF madeF ts xs (x + 1)) = [⟨true, csC⟩] := by rw [eC, mC]
              have VC : ∀ k, outV k (rowF madeF ts xs (x + 1)) = .row k 0 nC 8 := fun k => by rw [eC, vC]
              (refine ⟨⟨x + 1, by omega⟩, by simp only; omega, [0, 1, 2, 3], by simp, ?_, ?_⟩ <;> simp only [MA, MB, MC, FitM, ObLe, LeL, Le, spS, List.append_nil, List.cons_append, List.nil_append, VA, VB, VC, List.length_nil, List.length_cons, Nat.add_zero, Nat.zero_add, Nat.reduceAdd, FitE] <;> (try simp (maxSteps := 2000000) -implicitDefEqProofs only [pL', pW', pA, pC, ↓Sy.PRE, Sy.POST, Nat.reduceDiv, Nat.reduceMod, Int.reduceLT, Int.reduceLE, Int.reduceToNat, Int.reduceAdd, decide_true, decide_false, ↓reduceIte, List.map_cons, List.map_nil, List.length_cons, List.length_nil, List.cons_append, List.nil_append, List.getElem?_cons_zero, List.getElem?_cons_succ, List.getElem?_nil, List.take_succ_cons, List.take_zero, List.drop_succ_cons, List.drop_zero, List.all_cons, List.all_nil, List.set_cons_zero, List.set_cons_succ, List.append_nil, Option.map_some, Option.map_none, cond_true, cond_false, Bool.true_eq_false, Bool.false_eq_true, Bool.not_true, Bool.not_false, Nat.reduceEqDiff, Nat.reduceAdd, Nat.reduceMul, Nat.reduceSub, Nat.reduceLeDiff, Nat.reduceLT, true_and, and_true, reduceCtorEq, Nat.zero_add, Nat.add_zero, Nat.zero_mul, Nat.le_refl, Int.toNat_natCast, Bool.and_self, Bool.true_and, Bool.and_true, if_true, eq_self, forall_const, and_self, implies_true]) <;> try simp)
          · rename_i c1
            split
            · rename_i c2
              split
              · rename_i c3
                have eA : rowF goneF ts xs (x + 1) = (ha :: ta) ++ [spS 3 (x : Int) 0 0] := by rw [sA]; unfold goneF; rw [if_pos (by simp_all)]
                have MA : outM (rowF goneF ts xs (x + 1)) = [⟨true, csA ++ spS 3 (x : Int) 0 0⟩] := by rw [eA, outM_app, ← flatA]
                have VA : ∀ k, outV k (rowF goneF ts xs (x + 1)) = .row k 0 (nA + 1) 8 := fun k => by rw [eA, outV_app, ← lenA]
                have PA : ∀ g, LeL g (csA ++ spS 3 (x : Int) 0 0) (csA ++ spS 3 (x : Int) 0 0) := fun g => LeL_plain g (plainL_app rA.plain rfl)
                simp only [spS] at PA
                have eB : rowF sizedF ts xs (x + 1) = [] := by rw [sB]; unfold sizedF; rw [if_neg (by simp_all)]; rfl
                have MB : outM (rowF sizedF ts xs (x + 1)) = [] := by rw [eB]; rfl
                have VB : ∀ k, outV k (rowF sizedF ts xs (x + 1)) = .v (.slice none 0 0) := fun k => by rw [eB]; rfl
                have eC : rowF madeF ts xs (x + 1) = (hc :: tc) ++ [spS 1 (x : Int) q.size q.spare] := by rw [sC]; unfold madeF; rw [if_pos (by simp_all)]
                have MC : outM (rowF madeF ts xs (x + 1)) = [⟨true, csC ++ spS 1 (x : Int) q.size q.spare⟩] := by rw [eC, outM_app, ← flatC]
                have VC : ∀ k, outV k (rowF madeF ts xs (x + 1)) = .row k 0 (nC + 1) 8 := fun k => by rw [eC, outV_app, ← lenC]
                have PC : ∀ g, LeL g (csC ++ spS 1 (x : Int) q.size q.spare) (csC ++ spS 1 (x : Int) q.size q.spare) := fun g => LeL_plain g (plainL_app rC.plain rfl)
                simp only [spS] at PC
                (refine ⟨⟨x + 1, by omega⟩, by simp only; omega, [0, 1, 7, 9], by simp, ?_, ?_⟩ <;> simp only [MA, MB, MC, FitM, ObLe, LeL, Le, spS, List.append_nil, List.cons_append, List.nil_append, VA, VB, VC, List.length_nil, List.length_cons, Nat.add_zero, Nat.zero_add, Nat.reduceAdd, FitE] <;> (try simp (maxSteps := 2000000) -implicitDefEqProofs only [pL', pW', PA, PC, ↓Sy.PRE, Sy.POST, Nat.reduceDiv, Nat.reduceMod, Int.reduceLT, Int.reduceLE, Int.reduceToNat, Int.reduceAdd, decide_true, decide_false, ↓reduceIte, List.map_cons, List.map_nil, List.length_cons, List.length_nil, List.cons_append, List.nil_append, List.getElem?_cons_zero, List.getElem?_cons_succ, List.getElem?_nil, List.take_succ_cons, List.take_zero, List.drop_succ_cons, List.drop_zero, List.all_cons, List.all_nil, List.set_cons_zero, List.set_cons_succ, List.append_nil, Option.map_some, Option.map_none, cond_true, cond_false, Bool.true_eq_false, Bool.false_eq_true, Bool.not_true, Bool.not_false, Nat.reduceEqDiff, Nat.reduceAdd, Nat.reduceMul, Nat.reduceSub, Nat.reduceLeDiff, Nat.reduceLT, true_and, and_true, reduceCtorEq, Nat.zero_add, Nat.add_zero, Nat.zero_mul, Nat.le_refl, Int.toNat_natCast, Bool.and_self, Bool.true_and, Bool.and_true, if_true, eq_self, forall_const, and_self, implies_true]) <;> try simp)
              · rename_i c3
                have eA : rowF goneF ts xs (x + 1) = (ha :: ta) ++ [spS 3 (x : Int) 0 0] := by rw [sA]; unfold goneF; rw [if_pos (by simp_all)]
                have MA : outM (rowF goneF ts xs (x + 1)) = [⟨true, csA ++ spS 3 (x : Int) 0 0⟩] := by rw [eA, outM_app, ← flatA]
                have VA : ∀ k, outV k (rowF goneF ts xs (x + 1)) = .row k 0 (nA + 1) 8 := fun k => by rw [eA, outV_app, ← lenA]
                have PA : ∀ g, LeL g (csA ++ spS 3 (x : Int) 0 0) (csA ++ spS 3 (x : Int) 0 0) := fun g => LeL_plain g (plainL_app rA.plain rfl)
                simp only [spS] at PA
                have eB : rowF sizedF ts xs (x + 1) = [] := by rw [sB]; unfold sizedF; rw [if_neg (by simp_all)]; rfl
                have MB : outM (rowF sizedF ts xs (x + 1)) = [] := by rw [eB]; rfl
                have VB : ∀ k, outV k (rowF sizedF ts xs (x + 1)) = .v (.slice none 0 0) := fun k => by rw [eB]; rfl
                have eC : rowF madeF ts xs (x + 1) = hc :: tc := by rw [sC]; unfold madeF; rw [if_neg (by simp_all)]; exact List.append_nil _
                have MC : outM (rowF madeF ts xs (x + 1)) = [⟨true, csC⟩] := by rw [eC, mC]
                have VC : ∀ k, outV k (rowF madeF ts xs (x + 1)) = .row k 0 nC 8 := fun k => by rw [eC, vC]
                (refine ⟨⟨x + 1, by omega⟩, by simp only; omega, [0, 1, 7, 3], by simp, ?_, ?_⟩ <;> simp only [MA, MB, MC, FitM, ObLe, LeL, Le, spS, List.append_nil, List.cons_append, List.nil_append, VA, VB, VC, List.length_nil, List.length_cons, Nat.add_zero, Nat.zero_add, Nat.reduceAdd, FitE] <;> (try simp (maxSteps := 2000000) -implicitDefEqProofs only [pL', pW', pC, PA, ↓Sy.PRE, Sy.POST, Nat.reduceDiv, Nat.reduceMod, Int.reduceLT, Int.reduceLE, Int.reduceToNat, Int.reduceAdd, decide_true, decide_false, ↓reduceIte, List.map_cons, List.map_nil, List.length_cons, List.length_nil, List.cons_append, List.nil_append, List.getElem?_cons_zero, List.getElem?_cons_succ, List.getElem?_nil, List.take_succ_cons, List.take_zero, List.drop_succ_cons, List.drop_zero, List.all_cons, List.all_nil, List.set_cons_zero, List.set_cons_succ, List.append_nil, Option.map_some, Option.map_none, cond_true, cond_false, Bool.true_eq_false, Bool.false_eq_true, Bool.not_true, Bool.not_false, Nat.reduceEqDiff, Nat.reduceAdd, Nat.reduceMul, Nat.reduceSub, Nat.reduceLeDiff, Nat.reduceLT, true_and, and_true, reduceCtorEq, Nat.zero_add, Nat.add_zero, Nat.zero_mul, Nat.le_refl, Int.toNat_natCast, Bool.and_self, Bool.true_and, Bool.and_true, if_true, eq_self, forall_const, and_self, implies_true]) <;> try simp)
            · rename_i c2
              split
              · rename_i c3
                have eA : rowF goneF ts xs (x + 1) = ha :: ta := by rw [sA]; unfold goneF; rw [if_neg (by simp_all)]; exact List.append_nil _
                have MA : outM (rowF goneF ts xs (x + 1)) = [⟨true, csA⟩] := by rw [eA, mA]
                have VA : ∀ k, outV k (rowF goneF ts xs (x + 1)) = .row k 0 nA 8 := fun k => by rw [eA, vA]
                have eB : rowF sizedF ts xs (x + 1) = [] := by rw [sB]; unfold sizedF; rw [if_neg (by simp_all)]; rfl
                have MB : outM (rowF sizedF ts xs (x + 1)) = [] := by rw [eB]; rfl
                have VB : ∀ k, outV k (rowF sizedF ts xs (x + 1)) = .v (.slice none 0 0) := fun k => by rw [eB]; rfl
                have eC : rowF madeF ts xs (x + 1) = (hc :: tc) ++ [spS 1 (x : Int) q.size q.spare] := by rw [sC]; unfold madeF; rw [if_pos (by simp_all)]
                have MC : outM (rowF madeF ts xs (x + 1)) = [⟨true, csC ++ spS 1 (x : Int) q.size q.spare⟩] := by rw [eC, outM_app, ← flatC]
                have VC : ∀ k, outV k (rowF madeF ts xs (x + 1)) = .row k 0 (nC + 1) 8 := fun k => by rw [eC, outV_app, ← lenC]
                have PC : ∀ g, LeL g (csC ++ spS 1 (x : Int) q.size q.spare) (csC ++ spS 1 (x : Int) q.size q.spare) := fun g => LeL_plain g (plainL_app rC.plain rfl)
                simp only [spS] at PC
                (refine ⟨⟨x + 1, by omega⟩, by simp only; omega, [0, 1, 2, 7], by simp, ?_, ?_⟩ <;> simp only [MA, MB, MC, FitM, ObLe, LeL, Le, spS, List.append_nil, List.cons_append, List.nil_append, VA, VB, VC, List.length_nil, List.length_cons, Nat.add_zero, Nat.zero_add, Nat.reduceAdd, FitE] <;> (try simp (maxSteps := 2000000) -implicitDefEqProofs only [pL', pW', pA, PC, ↓Sy.PRE, Sy.POST, Nat.reduceDiv, Nat.reduceMod, Int.reduceLT, Int.reduceLE, Int.reduceToNat, Int.reduceAdd, decide_true, decide_false, ↓reduceIte, List.map_cons, List.map_nil, List.length_cons, List.length_nil, List.cons_append, List.nil_append, List.getElem?_cons_zero, List.getElem?_cons_succ, List.getElem?_nil, List.take_succ_cons, List.take_zero, List.drop_succ_cons, List.drop_zero, List.all_cons, List.all_nil, List.set_cons_zero, List.set_cons_succ, List.append_nil, Option.map_some, Option.map_none, cond_true, cond_false, Bool.true_eq_false, Bool.false_eq_true, Bool.not_true, Bool.not_false, Nat.reduceEqDiff, Nat.reduceAdd, Nat.reduceMul, Nat.reduceSub, Nat.reduceLeDiff, Nat.reduceLT, true_and, and_true, reduceCtorEq, Nat.zero_add, Nat.add_zero, Nat.zero_mul, Nat.le_refl, Int.toNat_natCast, Bool.and_self, Bool.true_and, Bool.and_true, if_true, eq_self, forall_const, and_self, implies_true]) <;> try simp)
              · rename_i c3
                have eA : rowF goneF ts xs (x + 1) = ha :: ta := by rw [sA]; unfold goneF; rw [if_neg (by simp_all)]; exact List.append_nil _
                have MA : outM (rowF goneF ts xs (x + 1)) = [⟨true, csA⟩] := by rw [eA, mA]
                have VA : ∀ k, outV k (rowF goneF ts xs (x + 1)) = .row k 0 nA 8 := fun k => by rw [eA, vA]
                have eB : rowF sizedF ts xs (x + 1) = [] := by rw [sB]; unfold sizedF; rw [if_neg (by simp_all)]; rfl
                have MB : outM (rowF sizedF ts xs (x + 1)) = [] := by rw [eB]; rfl
                have VB : ∀ k, outV k (rowF sizedF ts xs (x + 1)) = .v (.slice none 0 0) := fun k => by rw [eB]; rfl
                have eC : rowF madeF ts xs (x + 1) = hc :: tc := by rw [sC]; unfold madeF; rw [if_neg (by simp_all)]; exact List.append_nil _
                have MC : outM (rowF madeF ts xs (x + 1)) = [⟨true, csC⟩] := by rw [eC, mC]
                have VC : ∀ k, outV k (rowF madeF ts xs (x + 1)) = .row k 0 nC 8 := fun k => by rw [eC, vC]
                (refine ⟨⟨x + 1, by omega⟩, by simp only; omega, [0, 1, 2, 3], by simp, ?_, ?_⟩ <;> simp only [MA, MB, MC, FitM, ObLe, LeL, Le, spS, List.append_nil, List.cons_append, List.nil_append, VA, VB, VC, List.length_nil, List.length_cons, Nat.add_zero, Nat.zero_add, Nat.reduceAdd, FitE] <;> (try simp (maxSteps := 2000000) -implicitDefEqProofs only [pL', pW', pA, pC, ↓Sy.PRE, Sy.POST, Nat.reduceDiv, Nat.reduceMod, Int.reduceLT, Int.reduceLE, Int.reduceToNat, Int.reduceAdd, decide_true, decide_false, ↓reduceIte, List.map_cons, List.map_nil, List.length_cons, List.length_nil, List.cons_append, List.nil_append, List.getElem?_cons_zero, List.getElem?_cons_succ, List.getElem?_nil, List.take_succ_cons, List.take_zero, List.drop_succ_cons, List.drop_zero, List.all_cons, List.all_nil, List.set_cons_zero, List.set_cons_succ, List.append_nil, Option.map_some, Option.map_none, cond_true, cond_false, Bool.true_eq_false, Bool.false_eq_true, Bool.not_true, Bool.not_false, Nat.reduceEqDiff, Nat.reduceAdd, Nat.reduceMul, Nat.reduceSub, Nat.reduceLeDiff, Nat.reduceLT, true_and, and_true, reduceCtorEq, Nat.zero_add, Nat.add_zero, Nat.zero_mul, Nat.le_refl, Int.toNat_natCast, Bool.and_self, Bool.true_and, Bool.and_true, if_true, eq_self, forall_const, and_self, implies_true]) <;> try simp)
        · have rA := RowOk.of hA oA
          have vA : ∀ k, outV k (ha :: ta) = .row k 0 (ha :: ta).length 8 := fun k => rfl
          have mA : outM (ha :: ta) = [⟨true, (ha :: ta).flatten⟩] := rfl
          generalize flatA : (ha :: ta).flatten = csA at rA mA
          generalize lenA : (ha :: ta).length = nA at rA vA
          have lA := rA.len
          have zA := rA.pos
          have uA := rA.le
          have kA : csA.take (nA * 8) = csA := List.take_of_length_le (by omega)
          have yA : nA + 1 ≤ maxLen := by simp [maxLen]; omega
          have jA : (nA + 1) * 72 ≤ 140737488355328 := by omega
          have pA : ∀ g, LeL g csA csA := fun g => LeL_plain g rA.plain
          have rB := RowOk.of hB oB
          have vB : ∀ k, outV k (hb :: tb) = .row k 0 (hb :: tb).length 8 := fun k => rfl
          have mB : outM (hb :: tb) = [⟨true, (hb :: tb).flatten⟩] := rfl
          generalize flatB : (hb :: tb).flatten = csB at rB mB
          generalize lenB : (hb :: tb).length = nB at rB vB
          have lB := rB.len
          have zB := rB.pos
          have uB := rB.le
          have kB : csB.take (nB * 8) = csB := List.take_of_length_le (by omega)
          have yB : nB + 1 ≤ maxLen := by simp [maxLen]; omega
          have jB : (nB + 1) * 72 ≤ 140737488355328 := by omega
          have pB : ∀ g, LeL g csB csB := fun g => LeL_plain g rB.plain
          simp only [outV_nil, outM_nil, List.length_nil, Nat.add_zero, List.nil_append, List.append_nil]
          simp only [vA, mA, vB, mB,  outV_nil, outM_nil, List.length_nil, List.length_cons, List.append_nil, List.nil_append, List.cons_append, Nat.add_zero, Nat.zero_add, Nat.reduceAdd]
          simp (maxSteps := 2000000) -implicitDefEqProofs only [↓c106, LL, LW, dT, dW, i0, i4, w1, f5, f2, hm0, tn_eta, spS, lA, kA, yA, jA, lB, kB, yB, jB, ↓Sy.PRE, Sy.POST, Nat.reduceDiv, Nat.reduceMod, Int.reduceLT, Int.reduceLE, Int.reduceToNat, Int.reduceAdd, decide_true, decide_false, ↓reduceIte, List.map_cons, List.map_nil, List.length_cons, List.length_nil, List.cons_append, List.nil_append, List.getElem?_cons_zero, List.getElem?_cons_succ, List.getElem?_nil, List.take_succ_cons, List.take_zero, List.drop_succ_cons, List.drop_zero, List.all_cons, List.all_nil, List.set_cons_zero, List.set_cons_succ, List.append_nil, Option.map_some, Option.map_none, cond_true, cond_false, Bool.true_eq_false, Bool.false_eq_true, Bool.not_true, Bool.not_false, Nat.reduceEqDiff, Nat.reduceAdd, Nat.reduceMul, Nat.reduceSub, Nat.reduceLeDiff, Nat.reduceLT, true_and, and_true, reduceCtorEq, Nat.zero_add, Nat.add_zero, Nat.zero_mul, Nat.le_refl, Int.toNat_natCast, Bool.and_self, Bool.true_and, Bool.and_true, if_true, eq_self, forall_const, and_self, implies_true]
          split
          · rename_i c1
            split
            · rename_i c2
              have eA : rowF goneF ts xs (x + 1) = ha :: ta := by rw [sA]; unfold goneF; rw [if_neg (by simp_all)]; exact List.append_nil _
              have MA : outM (rowF goneF ts xs (x + 1)) = [⟨true, csA⟩] := by rw [eA, mA]
              have VA : ∀ k, outV k (rowF goneF ts xs (x + 1)) = .row k 0 nA 8 := fun k => by rw [eA, vA]
              have eB : rowF sizedF ts xs (x + 1) = (hb :: tb) ++ [spS 2 (x : Int) q.size 0] := by rw [sB]; unfold sizedF; rw [if_pos (by simp_all)]
              have MB : outM (rowF sizedF ts xs (x + 1)) = [⟨true, csB ++ spS 2 (x : Int) q.size 0⟩] := by rw [eB, outM_app, ← flatB]
              have VB : ∀ k, outV k (rowF sizedF ts xs (x + 1)) = .row k 0 (nB + 1) 8 := fun k => by rw [eB, outV_app, ← lenB]
              have PB : ∀ g, LeL g (csB ++ spS 2 (x : Int) q.size 0) (csB ++ spS 2 (x : Int) q.size 0) := fun g => LeL_plain g (plainL_app rB.plain rfl)
              simp only [spS] at PB
              have eC : rowF madeF ts xs (x + 1) = [] := by rw [sC]; unfold madeF; rw [if_neg (by simp_all)]; rfl
              have MC : outM (rowF madeF ts xs (x + 1)) = [] := by rw [eC]; rfl
              have VC : ∀ k, outV k (rowF madeF ts xs (x + 1)) = .v (.slice none 0 0) := fun k => by rw [eC]; rfl
              (refine ⟨⟨x + 1, by omega⟩, by simp only; omega, [0, 1, 2, 7], by simp, ?_, ?_⟩ <;> simp only [MA, MB, MC, FitM, ObLe, LeL, Le, spS, List.append_nil, List.cons_append, List.nil_append, VA, VB, VC, List.length_nil, List.length_cons, Nat.add_zero, Nat.zero_add, Nat.reduceAdd, FitE] <;> (try simp (maxSteps := 2000000) -implicitDefEqProofs only [pL', pW', pA, PB, ↓Sy.PRE, Sy.POST, Nat.reduceDiv, Nat.reduceMod, Int.reduceLT, Int.reduceLE, Int.reduceToNat, Int.reduceAdd, decide_true, decide_false, ↓reduceIte, List.map_cons, List.map_nil, List.length_cons, List.length_nil, List.cons_append, List.nil_append, List.getElem?_cons_zero, List.getElem?_cons_succ, List.getElem?_nil, List.take_succ_cons, List.take_zero, List.drop_succ_cons, List.drop_zero, List.all_cons, List.all_nil, List.set_cons_zero, List.set_cons_succ, List.append_nil, Option.map_some, Option.map_none, cond_true, cond_false, Bool.true_eq_false, Bool.false_eq_true, Bool.not_true, Bool.not_false, Nat.reduceEqDiff, Nat.reduceAdd, Nat.reduceMul, Nat.reduceSub, Nat.reduceLeDiff, Nat.reduceLT, true_and, and_true, reduceCtorEq, Nat.zero_add, Nat.add_zero, Nat.zero_mul, Nat.le_refl, Int.toNat_natCast, Bool.and_self, Bool.true_and, Bool.and_true, if_true, eq_self, forall_const, and_self, implies_true]) <;> try simp)
            · rename_i c2
              have eA : rowF goneF ts xs (x + 1) = ha :: ta := by rw [sA]; unfold goneF; rw [if_neg (by simp_all)]; exact List.append_nil _
              have MA : outM (rowF goneF ts xs (x + 1)) = [⟨true, csA⟩] := by rw [eA, mA]
              have VA : ∀ k, outV k (rowF goneF ts xs (x + 1)) = .row k 0 nA 8 := fun k => by rw [eA, vA]
              have eB : rowF sizedF ts xs (x + 1) = hb :: tb := by rw [sB]; unfold sizedF; rw [if_neg (by simp_all)]; exact List.append_nil _
              have MB : outM (rowF sizedF ts xs (x + 1)) = [⟨true, csB⟩] := by rw [eB, mB]
              have VB : ∀ k, outV k (rowF sizedF ts xs (x + 1)) = .row k 0 nB 8 := fun k => by rw [eB, vB]
              have eC : rowF madeF ts xs (x + 1) = [] := by rw [sC]; unfold madeF; rw [if_neg (by simp_all)]; rfl
              have MC : outM (rowF madeF ts xs (x + 1)) = [] := by rw [eC]; rfl
              have VC : ∀ k, outV k (rowF madeF ts xs (x + 1)) = .v (.slice none 0 0) := fun k => by rw [eC]; rfl
              (refine ⟨⟨x + 1, by omega⟩, by simp only; omega, [0, 1, 2, 3], by simp, ?_, ?_⟩ <;> simp only [MA, MB, MC, FitM, ObLe, LeL, Le, spS, List.append_nil, List.cons_append, List.nil_append, VA, VB, VC, List.length_nil, List.length_cons, Nat.add_zero, Nat.zero_add, Nat.reduceAdd, FitE] <;> (try simp (maxSteps := 2000000) -implicitDefEqProofs only [pL', pW', pA, pB, ↓Sy.PRE, Sy.POST, Nat.reduceDiv, Nat.reduceMod, Int.reduceLT, Int.reduceLE, Int.reduceToNat, Int.reduceAdd, decide_true, decide_false, ↓reduceIte, List.map_cons, List.map_nil, List.length_cons, List.length_nil, List.cons_append, List.nil_append, List.getElem?_cons_zero, List.getElem?_cons_succ, List.getElem?_nil, List.take_succ_cons, List.take_zero, List.drop_succ_cons, List.drop_zero, List.all_cons, List.all_nil, List.set_cons_zero, List.set_cons_succ, List.append_nil, Option.map_some, Option.map_none, cond_true, cond_false, Bool.true_eq_false, Bool.false_eq_true, Bool.not_true, Bool.not_false, Nat.reduceEqDiff, Nat.reduceAdd, Nat.reduceMul, Nat.reduceSub, Nat.reduceLeDiff, Nat.reduceLT, true_and, and_true, reduceCtorEq, Nat.zero_add, Nat.add_zero, Nat.zero_mul, Nat.le_refl, Int.toNat_natCast, Bool.and_self, Bool.true_and, Bool.and_true, if_true, eq_self, forall_const, and_self, implies_true]) <;> try simp)
          · rename_i c1
            split
            · rename_i c2
              split
              · rename_i c3
                have eA : rowF goneF ts xs (x + 1) = (ha :: ta) ++ [spS 3 (x : Int) 0 0] := by rw [sA]; unfold goneF; rw [if_pos (by simp_all)]
                have MA : outM (rowF goneF ts xs (x + 1)) = [⟨true, csA ++ spS 3 (x : Int) 0 0⟩] := by rw [eA, outM_app, ← flatA]
                have VA : ∀ k, outV k (rowF goneF ts xs (x + 1)) = .row k 0 (nA + 1) 8 := fun k => by rw [eA, outV_app, ← lenA]
                have PA : ∀ g, LeL g (csA ++ spS 3 (x : Int) 0 0) (csA ++ spS 3 (x : Int) 0 0) := fun g => LeL_plain g (plainL_app rA.plain rfl)
                simp only [spS] at PA
                have eB : rowF sizedF ts xs (x + 1) = hb :: tb := by rw [sB]; unfold sizedF; rw [if_neg (by simp_all)]; exact List.append_nil _
                have MB : outM (rowF sizedF ts xs (x + 1)) = [⟨true, csB⟩] := by rw [eB, mB]
                have VB : ∀ k, outV k (rowF sizedF ts xs (x + 1)) = .row k 0 nB 8 := fun k => by rw [eB, vB]
                have eC : rowF madeF ts xs (x + 1) = [spS 1 (x : Int) q.size q.spare] := by rw [sC]; unfold madeF; rw [if_pos (by simp_all)]; rfl
                have MC : outM (rowF madeF ts xs (x + 1)) = [⟨true, spS 1 (x : Int) q.size q.spare⟩] := by rw [eC]; rfl
                have VC : ∀ k, outV k (rowF madeF ts xs (x + 1)) = .row k 0 1 8 := fun k => by rw [eC]; rfl
                (refine ⟨⟨x + 1, by omega⟩, by simp only; omega, [0, 1, 7, 3, 9], by simp, ?_, ?_⟩ <;> simp only [MA, MB, MC, FitM, ObLe, LeL, Le, spS, List.append_nil, List.cons_append, List.nil_append, VA, VB, VC, List.length_nil, List.length_cons, Nat.add_zero, Nat.zero_add, Nat.reduceAdd, FitE] <;> (try simp (maxSteps := 2000000) -implicitDefEqProofs only [pL', pW', pB, PA, ↓Sy.PRE, Sy.POST, Nat.reduceDiv, Nat.reduceMod, Int.reduceLT, Int.reduceLE, Int.reduceToNat, Int.reduceAdd, decide_true, decide_false, ↓reduceIte, List.map_cons, List.map_nil, List.length_cons, List.length_nil, List.cons_append, List.nil_append, List.getElem?_cons_zero, List.getElem?_cons_succ, List.getElem?_nil, List.take_succ_cons, List.take_zero, List.drop_succ_cons, List.drop_zero, List.all_cons, List.all_nil, List.set_cons_zero, List.set_cons_succ, List.append_nil, Option.map_some, Option.map_none, cond_true, cond_false, Bool.true_eq_false, Bool.false_eq_true, Bool.not_true, Bool.not_false, Nat.reduceEqDiff, Nat.reduceAdd, Nat.reduceMul, Nat.reduceSub, Nat.reduceLeDiff, Nat.reduceLT, true_and, and_true, reduceCtorEq, Nat.zero_add, Nat.add_zero, Nat.zero_mul, Nat.le_refl, Int.toNat_natCast, Bool.and_self, Bool.true_and, Bool.and_true, if_true, eq_self, forall_const, and_self, implies_true]) <;> try simp)
              · rename_i c3
                have eA : rowF goneF ts xs (x + 1) = (ha :: ta) ++ [spS 3 (x : Int) 0 0] := by rw [sA]; unfold goneF; rw [if_pos (by simp_all)]
                have MA : outM (rowF goneF ts xs (x + 1)) = [⟨true, csA ++ spS 3 (x : Int) 0 0⟩] := by rw [eA, outM_app, ← flatA]
                have VA : ∀ k, outV k (rowF goneF ts xs (x + 1)) = .row k 0 (nA + 1) 8 := fun k => by rw [eA, outV_app, ← lenA]
                have PA : ∀ g, LeL g (csA ++ spS 3 (x : Int) 0 0) (csA ++ spS 3 (x : Int) 0 0) := fun g => LeL_plain g (plainL_app rA.plain rfl)
                simp only [spS] at PA
                have eB : rowF sizedF ts xs (x + 1) = hb :: tb := by rw [sB]; unfold sizedF; rw [if_neg (by simp_all)]; exact List.append_nil _
                have MB : outM (rowF sizedF ts xs (x + 1)) = [⟨true, csB⟩] := by rw [eB, mB]
                have VB : ∀ k, outV k (rowF sizedF ts xs (x + 1)) = .row k 0 nB 8 := fun k => by rw [eB, vB]
                have eC : rowF madeF ts xs (x + 1) = [] := by rw [sC]; unfold madeF; rw [if_neg (by simp_all)]; rfl
                have MC : outM (rowF madeF ts xs (x + 1)) = [] := by rw [eC]; rfl
                have VC : ∀ k, outV k (rowF madeF ts xs (x + 1)) = .v (.slice none 0 0) := fun k => by rw [eC]; rfl
                (refine ⟨⟨x + 1, by omega⟩, by simp only; omega, [0, 1, 7, 3], by simp, ?_, ?_⟩ <;> simp only [MA, MB, MC, FitM, ObLe, LeL, Le, spS, List.append_nil, List.cons_append, List.nil_append, VA, VB, VC, List.length_nil, List.length_cons, Nat.add_zero, Nat.zero_add, Nat.reduceAdd, FitE] <;> (try simp (maxSteps := 2000000) -implicitDefEqProofs only [pL', pW', pB, PA, ↓Sy.PRE, Sy.POST, Nat.reduceDiv, Nat.reduceMod, Int.reduceLT, Int.reduceLE, Int.reduceToNat, Int.reduceAdd, decide_true, decide_false, ↓reduceIte, List.map_cons, List.map_nil, List.length_cons, List.length_nil, List.cons_append, List.nil_append, List.getElem?_cons_zero, List.getElem?_cons_succ, List.getElem?_nil, List.take_succ_cons, List.take_zero, List.drop_succ_cons, List.drop_zero, List.all_cons, List.all_nil, List.set_cons_zero, List.set_cons_succ, List.append_nil, Option.map_some, Option.map_none, cond_true, cond_false, Bool.true_eq_false, Bool.false_eq_true, Bool.not_true, Bool.not_false, Nat.reduceEqDiff, Nat.reduceAdd, Nat.reduceMul, Nat.reduceSub, Nat.reduceLeDiff, Nat.reduceLT, true_and, and_true, reduceCtorEq, Nat.zero_add, Nat.add_zero, Nat.zero_mul, Nat.le_refl, Int.toNat_natCast, Bool.and_self, Bool.true_and, Bool.and_true, if_true, eq_self, forall_const, and_self, implies_true]) <;> try simp)
            · rename_i c2
              split
              · rename_i c3
                have eA : rowF goneF ts xs (x + 1) = ha :: ta := by rw [sA]; unfold goneF; rw [if_neg (by simp_all)]; exact List.append_nil _
                have MA : outM (rowF goneF ts xs (x + 1)) = [⟨true, csA⟩] := by rw [eA, mA]
                have VA : ∀ k, outV k (rowF goneF ts xs (x + 1)) = .row k 0 nA 8 := fun k => by rw [eA, vA]
                have eB : rowF sizedF ts xs (x + 1) = hb :: tb := by rw [sB]; unfold sizedF; rw [if_neg (by simp_all)]; exact List.append_nil _
                have MB : outM (rowF sizedF ts xs (x + 1)) = [⟨true, csB⟩] := by rw [eB, mB]
                have VB : ∀ k, outV k (rowF sizedF ts xs (x + 1)) = .row k 0 nB 8 := fun k => by rw [eB, vB]
                have eC : rowF madeF ts xs (x + 1) = [spS 1 (x : Int) q.size q.spare] := by rw [sC]; unfold madeF; rw [if_pos (by simp_all)]; rfl
                have MC : outM (rowF madeF ts xs (x + 1)) = [⟨true, spS 1 (x : Int) q.size q.spare⟩] := by rw [eC]; rfl
                have VC : ∀ k, outV k (rowF madeF ts xs (x + 1)) = .row k 0 1 8 := fun k => by rw [eC]; rfl
                (refine ⟨⟨x + 1, by omega⟩, by simp only; omega, [0, 1, 2, 3, 7], by simp, ?_, ?_⟩ <;> simp only [MA, MB, MC, FitM, ObLe, LeL, Le, spS, List.append_nil, List.cons_append, List.nil_append, VA, VB, VC, List.length_nil, List.length_cons, Nat.add_zero, Nat.zero_add, Nat.reduceAdd, FitE] <;> (try simp (maxSteps := 2000000) -implicitDefEqProofs only [pL', pW', pA, pB, ↓Sy.PRE, Sy.POST, Nat.reduceDiv, Nat.reduceMod, Int.reduceLT, Int.reduceLE, Int.reduceToNat, Int.reduceAdd, decide_true, decide_false, ↓reduceIte, List.map_cons, List.map_nil, List.length_cons, List.length_nil, List.cons_append, List.nil_append, List.getElem?_cons_zero, List.getElem?_cons_succ, List.getElem?_nil, List.take_succ_cons, List.take_zero, List.drop_succ_cons, List.drop_zero, List.all_cons, List.all_nil, List.set_cons_zero, List.set_cons_succ, List.append_nil, Option.map_some, Option.map_none, cond_true, cond_false, Bool.true_eq_false, Bool.false_eq_true, Bool.not_true, Bool.not_false, Nat.reduceEqDiff, Nat.reduceAdd, Nat.reduceMul, Nat.reduceSub, Nat.reduceLeDiff, Nat.reduceLT, true_and, and_true, reduceCtorEq, Nat.zero_add, Nat.add_zero, Nat.zero_mul, Nat.le_refl, Int.toNat_natCast, Bool.and_self, Bool.true_and, Bool.and_true, if_true, eq_self, forall_const, and_self, implies_true]) <;> try simp)
              · rename_i c3
                have eA : rowF goneF ts xs (x + 1) = ha :: ta := by rw [sA]; unfold goneF; rw [if_neg (by simp_all)]; exact List.append_nil _
                have MA : outM (rowF goneF ts xs (x + 1)) = [⟨true, csA⟩] := by rw [eA, mA]
                have VA : ∀ k, outV k (rowF goneF ts xs (x + 1)) = .row k 0 nA 8 := fun k => by rw [eA, vA]
                have eB : rowF sizedF ts xs (x + 1) = hb :: tb := by rw [sB]; unfold sizedF; rw [if_neg (by simp_all)]; exact List.append_nil _
                have MB : outM (rowF sizedF ts xs (x + 1)) = [⟨true, csB⟩] := by rw [eB, mB]
                have VB : ∀ k, outV k (rowF sizedF ts xs (x + 1)) = .row k 0 nB 8 := fun k => by rw [eB, vB]
                have eC : rowF madeF ts xs (x + 1) = [] := by rw [sC]; unfold madeF; rw [if_neg (by simp_all)]; rfl
                have MC : outM (rowF madeF ts xs (x + 1)) = [] := by rw [eC]; rfl
                have VC : ∀ k, outV k (rowF madeF ts xs (x + 1)) = .v (.slice none 0 0) := fun k => by rw [eC]; rfl
                (refine ⟨⟨x + 1, by omega⟩, by simp only; omega, [0, 1, 2, 3], by simp, ?_, ?_⟩ <;> simp only [MA, MB, MC, FitM, ObLe, LeL, Le, spS, List.append_nil, List.cons_append, List.nil_append, VA, VB, VC, List.length_nil, List.length_cons, Nat.add_zero, Nat.zero_add, Nat.reduceAdd, FitE] <;> (try simp (maxSteps := 2000000) -implicitDefEqProofs only [pL', pW', pA, pB, ↓Sy.PRE, Sy.POST, Nat.reduceDiv, Nat.reduceMod, Int.reduceLT, Int.reduceLE, Int.reduceToNat, Int.reduceAdd, decide_true, decide_false, ↓reduceIte, List.map_cons, List.map_nil, List.length_cons, List.length_nil, List.cons_append, List.nil_append, List.getElem?_cons_zero, List.getElem?_cons_succ, List.getElem?_nil, List.take_succ_cons, List.take_zero, List.drop_succ_cons, List.drop_zero, List.all_cons, List.all_nil, List.set_cons_zero, List.set_cons_succ, List.append_nil, Option.map_some, Option.map_none, cond_true, cond_false, Bool.true_eq_false, Bool.false_eq_true, Bool.not_true, Bool.not_false, Nat.reduceEqDiff, Nat.reduceAdd, Nat.reduceMul, Nat.reduceSub, Nat.reduceLeDiff, Nat.reduceLT, true_and, and_true, reduceCtorEq, Nat.zero_add, Nat.add_zero, Nat.zero_mul, Nat.le_refl, Int.toNat_natCast, Bool.and_self, Bool.true_and, Bool.and_true, if_true, eq_self, forall_const, and_self, implies_true]) <;> try simp)
        · have rA := RowOk.of hA oA
          have vA : ∀ k, outV k (ha :: ta) = .row k 0 (ha :: ta).length 8 := fun k => rfl
          have mA : outM (ha :: ta) = [⟨true, (ha :: ta).flatten⟩] := rfl
          generalize flatA : (ha :: ta).flatten = csA at rA mA
          generalize lenA : (ha :: ta).length = nA at rA vA
          have lA := rA.len
          have zA := rA.pos
          have uA := rA.le
          have kA : csA.take (nA * 8) = csA := List.take_of_length_le (by omega)
          have yA : nA + 1 ≤ maxLen := by simp [maxLen]; omega
          have jA : (nA + 1) * 72 ≤ 140737488355328 := by omega
          have pA : ∀ g, LeL g csA csA := fun g => LeL_plain g rA.plain
          have rB := RowOk.of hB oB
          have vB : ∀ k, outV k (hb :: tb) = .row k 0 (hb :: tb).length 8 := fun k => rfl
          have mB : outM (hb :: tb) = [⟨true, (hb :: tb).flatten⟩] := rfl
          generalize flatB : (hb :: tb).flatten = csB at rB mB
          generalize lenB : (hb :: tb).length = nB at rB vB
          have lB := rB.len
          have zB := rB.pos
          have uB := rB.le
          have kB : csB.take (nB * 8) = csB := List.take_of_length_le (by omega)
          have yB : nB + 1 ≤ maxLen := by simp [maxLen]; omega
          have jB : (nB + 1) * 72 ≤ 140737488355328 := by omega
          have pB : ∀ g, LeL g csB csB := fun g => LeL_plain g rB.plain
          have rC := RowOk.of hC oC
          have vC : ∀ k, outV k (hc :: tc) = .row k 0 (hc :: tc).length 8 := fun k => rfl
          have mC : outM (hc :: tc) = [⟨true, (hc :: tc).flatten⟩] := rfl
          generalize flatC : (hc :: tc).flatten = csC at rC mC
          generalize lenC : (hc :: tc).length = nC at rC vC
          have lC := rC.len
          have zC := rC.pos
          have uC := rC.le
          have kC : csC.take (nC * 8) = csC := List.take_of_length_le (by omega)
          have yC : nC + 1 ≤ maxLen := by simp [maxLen]; omega
          have jC : (nC + 1) * 72 ≤ 140737488355328 := by omega
          have pC : ∀ g, LeL g csC csC := fun g => LeL_plain g rC.plain
          simp only [vA, mA, vB, mB, vC, mC,  outV_nil, outM_nil, List.length_nil, List.length_cons, List.append_nil, List.nil_append, List.cons_append, Nat.add_zero, Nat.zero_add, Nat.reduceAdd]
          simp (maxSteps := 2000000) -implicitDefEqProofs only [↓c106, LL, LW, dT, dW, i0, i4, w1, f5, f2, hm0, tn_eta, spS, lA, kA, yA, jA, lB, kB, yB, jB, lC, kC, yC, jC, ↓Sy.PRE, Sy.POST, Nat.reduceDiv, Nat.reduceMod, Int.reduceLT, Int.reduceLE, Int.reduceToNat, Int.reduceAdd, decide_true, decide_false, ↓reduceIte, List.map_cons, List.map_nil, List.length_cons, List.length_nil, List.cons_append, List.nil_append, List.getElem?_cons_zero, List.getElem?_cons_succ, List.getElem?_nil, List.take_succ_cons, List.take_zero, List.drop_succ_cons, List.drop_zero, List.all_cons, List.all_nil, List.set_cons_zero, List.set_cons_succ, List.append_nil, Option.map_some, Option.map_none, cond_true, cond_false, Bool.true_eq_false, Bool.false_eq_true, Bool.not_true, Bool.not_false, Nat.reduceEqDiff, Nat.reduceAdd, Nat.reduceMul, Nat.reduceSub, Nat.reduceLeDiff, Nat.reduceLT, true_and, and_true, reduceCtorEq, Nat.zero_add, Nat.add_zero, Nat.zero_mul, Nat.le_refl, Int.toNat_natCast, Bool.and_self, Bool.true_and, Bool.and_true, if_true, eq_self, forall_const, and_self, implies_true]
          split
          · rename_i c1
            split
            · rename_i c2
              have eA : rowF goneF ts xs (x + 1) = ha :: ta := by rw [sA]; unfold goneF; rw [if_neg (by simp_all)]; exact List.append_nil _
              have MA : outM (rowF goneF ts xs (x + 1)) = [⟨true, csA⟩] := by rw [eA, mA]
              have VA : ∀ k, outV k (rowF goneF ts xs (x + 1)) = .row k 0 nA 8 := fun k => by rw [eA, vA]
              have eB : rowF sizedF ts xs (x + 1) = (hb :: tb) ++ [spS 2 (x : Int) q.size 0] := by rw [sB]; unfold sizedF; rw [if_pos (by simp_all)]
              have MB : outM (rowF sizedF ts xs (x + 1)) = [⟨true, csB ++ spS 2 (x : Int) q.size 0⟩] := by rw [eB, outM_app, ← flatB]
              have VB : ∀ k, outV k (rowF sizedF ts xs (x + 1)) = .row k 0 (nB + 1) 8 := fun k => by rw [eB, outV_app, ← lenB]
              have PB : ∀ g, LeL g (csB ++ spS 2 (x : Int) q.size 0) (csB ++ spS 2 (x : Int) q.size 0) := fun g => LeL_plain g (plainL_app rB.plain rfl)
              simp only [spS] at PB
              have eC : rowF madeF ts xs (x + 1) = hc :: tc := by rw [sC]; unfold madeF; rw [if_neg (by simp_all)]; exact List.append_nil _
              have MC : outM (rowF madeF ts xs (x + 1)) = [⟨true, csC⟩] := by rw [eC, mC]
              have VC : ∀ k, outV k (rowF madeF ts xs (x + 1)) = .row k 0 nC 8 := fun k => by rw [eC, vC]
              (refine ⟨⟨x + 1, by omega⟩, by simp only; omega, [0, 1, 2, 8, 4], by simp, ?_, ?_⟩ <;> simp only [MA, MB, MC, FitM, ObLe, LeL, Le, spS, List.append_nil, List.cons_append, List.nil_append, VA, VB, VC, List.length_nil, List.length_cons, Nat.add_zero, Nat.zero_add, Nat.reduceAdd, FitE] <;> (try simp (maxSteps := 2000000) -implicitDefEqProofs only [pL', pW', pA, pC, PB, ↓Sy.PRE, Sy.POST, Nat.reduceDiv, Nat.reduceMod, Int.reduceLT, Int.reduceLE, Int.reduceToNat, Int.reduceAdd, decide_true, decide_false, ↓reduceIte, List.map_cons, List.map_nil, List.length_cons, List.length_nil, List.cons_append, List.nil_append, List.getElem?_cons_zero, List.getElem?_cons_succ, List.getElem?_nil, List.take_succ_cons, List.take_zero, List.drop_succ_cons, List.drop_zero, List.all_cons, List.all_nil, List.set_cons_zero, List.set_cons_succ, List.append_nil, Option.map_some, Option.map_none, cond_true, cond_false, Bool.true_eq_false, Bool.false_eq_true, Bool.not_true, Bool.not_false, Nat.reduceEqDiff, Nat.reduceAdd, Nat.reduceMul, Nat.reduceSub, Nat.reduceLeDiff, Nat.reduceLT, true_and, and_true, reduceCtorEq, Nat.zero_add, Nat.add_zero, Nat.zero_mul, Nat.le_refl, Int.toNat_natCast, Bool.and_self, Bool.true_and, Bool.and_true, if_true, eq_self, forall_const, and_self, implies_true]) <;> try simp)
            · rename_i c2
              have eA : rowF goneF ts xs (x + 1) = ha :: ta := by rw [sA]; unfold goneF; rw [if_neg (by simp_all)]; exact List.append_nil _
              have MA : outM (rowF goneF ts xs (x + 1)) = [⟨true, csA⟩] := by rw [eA, mA]
              have VA : ∀ k, outV k (rowF goneF ts xs (x + 1)) = .row k 0 nA 8 := fun k => by rw [eA, vA]
              have eB : rowF sizedF ts xs (x + 1) = hb :: tb := by rw [sB]; unfold sizedF; rw [if_neg (by simp_all)]; exact List.append_nil _
              have MB : outM (rowF sizedF ts xs (x + 1)) = [⟨true, csB⟩] := by rw [eB, mB]
              have VB : ∀ k, outV k (rowF sizedF ts xs (x + 1)) = .row k 0 nB 8 := fun k => by rw [eB, vB]
              have eC : rowF madeF ts xs (x + 1) = hc :: tc := by rw [sC]; unfold madeF; rw [if_neg (by simp_all)]; exact List.append_nil _
              have MC : outM (rowF madeF ts xs (x + 1)) = [⟨true, csC⟩] := by rw [eC, mC]
              have VC : ∀ k, outV k (rowF madeF ts xs (x + 1)) = .row k 0 nC 8 := fun k => by rw [eC, vC]
              (refine ⟨⟨x + 1, by omega⟩, by simp only; omega, [0, 1, 2, 3, 4], by simp, ?_, ?_⟩ <;> simp only [MA, MB, MC, FitM, ObLe, LeL, Le, spS, List.append_nil, List.cons_append, List.nil_append, VA, VB, VC, List.length_nil, List.length_cons, Nat.add_zero, Nat.zero_add, Nat.reduceAdd, FitE] <;> (try simp (maxSteps := 2000000) -implicitDefEqProofs only [pL', pW', pA, pB, pC, ↓Sy.PRE, Sy.POST, Nat.reduceDiv, Nat.reduceMod, Int.reduceLT, Int.reduceLE, Int.reduceToNat, Int.reduceAdd, decide_true, decide_false, ↓reduceIte, List.map_cons, List.map_nil, List.length_cons, List.length_nil, List.cons_append, List.nil_append, List.getElem?_cons_zero, List.getElem?_cons_succ, List.getElem?_nil, List.take_succ_cons, List.take_zero, List.drop_succ_cons, List.drop_zero, List.all_cons, List.all_nil, List.set_cons_zero, List.set_cons_succ, List.append_nil, Option.map_some, Option.map_none, cond_true, cond_false, Bool.true_eq_false, Bool.false_eq_true, Bool.not_true, Bool.not_false, Nat.reduceEqDiff, Nat.reduceAdd, Nat.reduceMul, Nat.reduceSub, Nat.reduceLeDiff, Nat.reduceLT, true_and, and_true, reduceCtorEq, Nat.zero_add, Nat.add_zero, Nat.zero_mul, Nat.le_refl, Int.toNat_natCast, Bool.and_self, Bool.true_and, Bool.and_true, if_true, eq_self, forall_const, and_self, implies_true]) <;> try simp)
          · rename_i c1
            split
            · rename_i c2
              split
              · rename_i c3
                have eA : rowF goneF ts xs (x + 1) = (ha :: ta) ++ [spS 3 (x : Int) 0 0] := by rw [sA]; unfold goneF; rw [if_pos (by simp_all)]
                have MA : outM (rowF goneF ts xs (x + 1)) = [⟨true, csA ++ spS 3 (x : Int) 0 0⟩] := by rw [eA, outM_app, ← flatA]
                have VA : ∀ k, outV k (rowF goneF ts xs (x + 1)) = .row k 0 (nA + 1) 8 := fun k => by rw [eA, outV_app, ← lenA]
                have PA : ∀ g, LeL g (csA ++ spS 3 (x : Int) 0 0) (csA ++ spS 3 (x : Int) 0 0) := fun g => LeL_plain g (plainL_app rA.plain rfl)
                simp only [spS] at PA
                have eB : rowF sizedF ts xs (x + 1) = hb :: tb := by rw [sB]; unfold sizedF; rw [if_neg (by simp_all)]; exact List.append_nil _
                have MB : outM (rowF sizedF ts xs (x + 1)) = [⟨true, csB⟩] := by rw [eB, mB]
                have VB : ∀ k, outV k (rowF sizedF ts xs (x + 1)) = .row k 0 nB 8 := fun k => by rw [eB, vB]
                have eC : rowF madeF ts xs (x + 1) = (hc :: tc) ++ [spS 1 (x : Int) q.size q.spare] := by rw [sC]; unfold madeF; rw [if_pos (by simp_all)]
                have MC : outM (rowF madeF ts xs (x + 1)) = [⟨true, csC ++ spS 1 (x : Int) q.size q.spare⟩] := by rw [eC, outM_app, ← flatC]
                have VC : ∀ k, outV k (rowF madeF ts xs (x + 1)) = .row k 0 (nC + 1) 8 := fun k => by rw [eC, outV_app, ← lenC]
                have PC : ∀ g, LeL g (csC ++ spS 1 (x : Int) q.size q.spare) (csC ++ spS 1 (x : Int) q.size q.spare) := fun g => LeL_plain g (plainL_app rC.plain rfl)
                simp only [spS] at PC
                (refine ⟨⟨x + 1, by omega⟩, by simp only; omega, [0, 1, 8, 3, 10], by simp, ?_, ?_⟩ <;> simp only [MA, MB, MC, FitM, ObLe, LeL, Le, spS, List.append_nil, List.cons_append, List.nil_append, VA, VB, VC, List.length_nil, List.length_cons, Nat.add_zero, Nat.zero_add, Nat.reduceAdd, FitE] <;> (try simp (maxSteps := 2000000) -implicitDefEqProofs only [pL', pW', pB, PA, PC, ↓Sy.PRE, Sy.POST, Nat.reduceDiv, Nat.reduceMod, Int.reduceLT, Int.reduceLE, Int.reduceToNat, Int.reduceAdd, decide_true, decide_false, ↓reduceIte, List.map_cons, List.map_nil, List.length_cons, List.length_nil, List.cons_append, List.nil_append, List.getElem?_cons_zero, List.getElem?_cons_succ, List.getElem?_nil, List.take_succ_cons, List.take_zero, List.drop_succ_cons, List.drop_zero, List.all_cons, List.all_nil, List.set_cons_zero, List.set_cons_succ, List.append_nil, Option.map_some, Option.map_none, cond_true, cond_false, Bool.true_eq_false, Bool.false_eq_true, Bool.not_true, Bool.not_false, Nat.reduceEqDiff, Nat.reduceAdd, Nat.reduceMul, Nat.reduceSub, Nat.reduceLeDiff, Nat.reduceLT, true_and, and_true, reduceCtorEq, Nat.zero_add, Nat.add_zero, Nat.zero_mul, Nat.le_refl, Int.toNat_natCast, Bool.and_self, Bool.true_and, Bool.and_true, if_true, eq_self, forall_const, and_self, implies_true]) <;> try simp)
              · rename_i c3
                have eA : rowF goneF ts xs (x + 1) = (ha :: ta) ++ [spS 3 (x : Int) 0 0] := by rw [sA]; unfold goneF; rw [if_pos (by simp_all)]
                have MA : outM (rowF goneF ts xs (x + 1)) = [⟨true, csA ++ spS 3 (x : Int) 0 0⟩] := by rw [eA, outM_app, ← flatA]
                have VA : ∀ k, outV k (rowF goneF ts xs (x + 1)) = .row k 0 (nA + 1) 8 := fun k => by rw [eA, outV_app, ← lenA]
                have PA : ∀ g, LeL g (csA ++ spS 3 (x : Int) 0 0) (csA ++ spS 3 (x : Int) 0 0) := fun g => LeL_plain g (plainL_app rA.plain rfl)
                simp only [spS] at PA
                have eB : rowF sizedF ts xs (x + 1) = hb :: tb := by rw [sB]; unfold sizedF; rw [if_neg (by simp_all)]; exact List.append_nil _
                have MB : outM (rowF sizedF ts xs (x + 1)) = [⟨true, csB⟩] := by rw [eB, mB]
                have VB : ∀ k, outV k (rowF sizedF ts xs (x + 1)) = .row k 0 nB 8 := fun k => by rw [eB, vB]
                have eC : rowF madeF ts xs (x + 1) = hc :: tc := by rw [sC]; unfold madeF; rw [if_neg (by simp_all)]; exact List.append_nil _
                have MC : outM (rowF madeF ts xs (x + 1)) = [⟨true, csC⟩] := by rw [eC, mC]
                have VC : ∀ k, outV k (rowF madeF ts xs (x + 1)) = .row k 0 nC 8 := fun k => by rw [eC, vC]
                (refine ⟨⟨x + 1, by omega⟩, by simp only; omega, [0, 1, 8, 3, 4], by simp, ?_, ?_⟩ <;> simp only [MA, MB, MC, FitM, ObLe, LeL, Le, spS, List.append_nil, List.cons_append, List.nil_append, VA, VB, VC, List.length_nil, List.length_cons, Nat.add_zero, Nat.zero_add, Nat.reduceAdd, FitE] <;> (try simp (maxSteps := 2000000) -implicitDefEqProofs only [pL', pW', pB, pC, PA, ↓Sy.PRE, Sy.POST, Nat.reduceDiv, Nat.reduceMod, Int.reduceLT, Int.reduceLE, Int.reduceToNat, Int.reduceAdd, decide_true, decide_false, ↓reduceIte, List.map_cons, List.map_nil, List.length_cons, List.length_nil, List.cons_append, List.nil_append, List.getElem?_cons_zero, List.getElem?_cons_succ, List.getElem?_nil, List.take_succ_cons, List.take_zero, List.drop_succ_cons, List.drop_zero, List.all_cons, List.all_nil, List.set_cons_zero, List.set_cons_succ, List.append_nil, Option.map_some, Option.map_none, cond_true, cond_false, Bool.true_eq_false, Bool.false_eq_true, Bool.not_true, Bool.not_false, Nat.reduceEqDiff, Nat.reduceAdd, Nat.reduceMul, Nat.reduceSub, Nat.reduceLeDiff, Nat.reduceLT, true_and, and_true, reduceCtorEq, Nat.zero_add, Nat.add_zero, Nat.zero_mul, Nat.le_refl, Int.toNat_natCast, Bool.and_self, Bool.true_and, Bool.and_true, if_true, eq_self, forall_const, and_self, implies_true]) <;> try simp)
            · rename_i c2
              split
              · rename_i c3
                have eA : rowF goneF ts xs (x + 1) = ha :: ta := by rw [sA]; unfold goneF; rw [if_neg (by simp_all)]; exact List.append_nil _
                have MA : outM (rowF goneF ts xs (x + 1)) = [⟨true, csA⟩] := by rw [eA, mA]
                have VA : ∀ k, outV k (rowF goneF ts xs (x + 1)) = .row k 0 nA 8 := fun k => by rw [eA, vA]
                have eB : rowF sizedF ts xs (x + 1) = hb :: tb := by rw [sB]; unfold sizedF; rw [if_neg (by simp_all)]; exact List.append_nil _
                have MB : outM (rowF sizedF ts xs (x + 1)) = [⟨true, csB⟩] := by rw [eB, mB]
                have VB : ∀ k, outV k (rowF sizedF ts xs (x + 1)) = .row k 0 nB 8 := fun k => by rw [eB, vB]
                have eC : rowF madeF ts xs (x + 1) = (hc :: tc) ++ [spS 1 (x : Int) q.size q.spare] := by rw [sC]; unfold madeF; rw [if_pos (by simp_all)]
                have MC : outM (rowF madeF ts xs (x + 1)) = [⟨true, csC ++ spS 1 (x : Int) q.size q.spare⟩] := by rw [eC, outM_app, ← flatC]
                have VC : ∀ k, outV k (rowF madeF ts xs (x + 1)) = .row k 0 (nC + 1) 8 := fun k => by rw [eC, outV_app, ← lenC]
                have PC : ∀ g, LeL g (csC ++ spS 1 (x : Int) q.size q.spare) (csC ++ spS 1 (x : Int) q.size q.spare) := fun g => LeL_plain g (plainL_app rC.plain rfl)
                simp only [spS] at PC
                (refine ⟨⟨x + 1, by omega⟩, by simp only; omega, [0, 1, 2, 3, 8], by simp, ?_, ?_⟩ <;> simp only [MA, MB, MC, FitM, ObLe, LeL, Le, spS, List.append_nil, List.cons_append, List.nil_append, VA, VB, VC, List.length_nil, List.length_cons, Nat.add_zero, Nat.zero_add, Nat.reduceAdd, FitE] <;> (try simp (maxSteps := 2000000) -implicitDefEqProofs only [pL', pW', pA, pB, PC, ↓Sy.PRE, Sy.POST, Nat.reduceDiv, Nat.reduceMod, Int.reduceLT, Int.reduceLE, Int.reduceToNat, Int.reduceAdd, decide_true, decide_false, ↓reduceIte, List.map_cons, List.map_nil, List.length_cons, List.length_nil, List.cons_append, List.nil_append, List.getElem?_cons_zero, List.getElem?_cons_succ, List.getElem?_nil, List.take_succ_cons, List.take_zero, List.drop_succ_cons, List.drop_zero, List.all_cons, List.all_nil, List.set_cons_zero, List.set_cons_succ, List.append_nil, Option.map_some, Option.map_none, cond_true, cond_false, Bool.true_eq_false, Bool.false_eq_true, Bool.not_true, Bool.not_false, Nat.reduceEqDiff, Nat.reduceAdd, Nat.reduceMul, Nat.reduceSub, Nat.reduceLeDiff, Nat.reduceLT, true_and, and_true, reduceCtorEq, Nat.zero_add, Nat.add_zero, Nat.zero_mul, Nat.le_refl, Int.toNat_natCast, Bool.and_self, Bool.true_and, Bool.and_true, if_true, eq_self, forall_const, and_self, implies_true]) <;> try simp)
              · rename_i c3
                have eA : rowF goneF ts xs (x + 1) = ha :: ta := by rw [sA]; unfold goneF; rw [if_neg (by simp_all)]; exact List.append_nil _
                have MA : outM (rowF goneF ts xs (x + 1)) = [⟨true, csA⟩] := by rw [eA, mA]
                have VA : ∀ k, outV k (rowF goneF ts xs (x + 1)) = .row k 0 nA 8 := fun k => by rw [eA, vA]
                have eB : rowF sizedF ts xs (x + 1) = hb :: tb := by rw [sB]; unfold sizedF; rw [if_neg (by simp_all)]; exact List.append_nil _
                have MB : outM (rowF sizedF ts xs (x + 1)) = [⟨true, csB⟩] := by rw [eB, mB]
                have VB : ∀ k, outV k (rowF sizedF ts xs (x + 1)) = .row k 0 nB 8 := fun k => by rw [eB, vB]
                have eC : rowF madeF ts xs (x + 1) = hc :: tc := by rw [sC]; unfold madeF; rw [if_neg (by simp_all)]; exact List.append_nil _
                have MC : outM (rowF madeF ts xs (x + 1)) = [⟨true, csC⟩] := by rw [eC, mC]
                have VC : ∀ k, outV k (rowF madeF ts xs (x + 1)) = .row k 0 nC 8 := fun k => by rw [eC, vC]
                (refine ⟨⟨x + 1, by omega⟩, by simp only; omega, [0, 1, 2, 3, 4], by simp, ?_, ?_⟩ <;> simp only [MA, MB, MC, FitM, ObLe, LeL, Le, spS, List.append_nil, List.cons_append, List.nil_append, VA, VB, VC, List.length_nil, List.length_cons, Nat.add_zero, Nat.zero_add, Nat.reduceAdd, FitE] <;> (try simp (maxSteps := 2000000) -implicitDefEqProofs only [pL', pW', pA, pB, pC, ↓Sy.PRE, Sy.POST, Nat.reduceDiv, Nat.reduceMod, Int.reduceLT, Int.reduceLE, Int.reduceToNat, Int.reduceAdd, decide_true, decide_false, ↓reduceIte, List.map_cons, List.map_nil, List.length_cons, List.length_nil, List.cons_append, List.nil_append, List.getElem?_cons_zero, List.getElem?_cons_succ, List.getElem?_nil, List.take_succ_cons, List.take_zero, List.drop_succ_cons, List.drop_zero, List.all_cons, List.all_nil, List.set_cons_zero, List.set_cons_succ, List.append_nil, Option.map_some, Option.map_none, cond_true, cond_false, Bool.true_eq_false, Bool.false_eq_true, Bool.not_true, Bool.not_false, Nat.reduceEqDiff, Nat.reduceAdd, Nat.reduceMul, Nat.reduceSub, Nat.reduceLeDiff, Nat.reduceLT, true_and, and_true, reduceCtorEq, Nat.zero_add, Nat.add_zero, Nat.zero_mul, Nat.le_refl, Int.toNat_natCast, Bool.and_self, Bool.true_and, Bool.and_true, if_true, eq_self, forall_const, and_self, implies_true]) <;> try simp)
      · have x4 : x = 4 := by omega
        subst x4
        generalize rowF goneF ts xs 4 = a at hA oA hP
        generalize rowF sizedF ts xs 4 = b at hB oB hP
        generalize rowF madeF ts xs 4 = c at hC oC hP
        rcases a with _ | ⟨ha, ta⟩ <;> rcases b with _ | ⟨hb, tb⟩ <;> rcases c with _ | ⟨hc, tc⟩
        · have hV : ∀ k, outV k (planF ts xs) = .v (.slice none 0 0) := fun k => by rw [hP]; rfl
          have hM : outM (planF ts xs) = [] := by rw [hP]; rfl
          clear hP
          simp only [hV, hM] at h
          simp only [ outV_nil, outM_nil, List.length_nil, List.length_cons, List.append_nil, List.nil_append, List.cons_append, Nat.add_zero, Nat.zero_add, Nat.reduceAdd]
          simp (maxSteps := 2000000) -implicitDefEqProofs only [LL, LW, ↓Sy.PRE, Sy.POST, Nat.reduceDiv, Nat.reduceMod, Int.reduceLT, Int.reduceLE, Int.reduceToNat, Int.reduceAdd, decide_true, decide_false, ↓reduceIte, List.map_cons, List.map_nil, List.length_cons, List.length_nil, List.cons_append, List.nil_append, List.getElem?_cons_zero, List.getElem?_cons_succ, List.getElem?_nil, List.take_succ_cons, List.take_zero, List.drop_succ_cons, List.drop_zero, List.all_cons, List.all_nil, List.set_cons_zero, List.set_cons_succ, List.append_nil, Option.map_some, Option.map_none, cond_true, cond_false, Bool.true_eq_false, Bool.false_eq_true, Bool.not_true, Bool.not_false, Nat.reduceEqDiff, Nat.reduceAdd, Nat.reduceMul, Nat.reduceSub, Nat.reduceLeDiff, Nat.reduceLT, true_and, and_true, reduceCtorEq, Nat.zero_add, Nat.add_zero, Nat.zero_mul, Nat.le_refl, Int.toNat_natCast, Bool.and_self, Bool.true_and, Bool.and_true, if_true, eq_self, forall_const, and_self, implies_true]
          exact ⟨[], .v (.slice none 0 0), [], by simp, trivial, by simp, by simp [Le], by simpa [SV.up] using h⟩
        · have rC := RowOk.of hC oC
          have vC : ∀ k, outV k (hc :: tc) = .row k 0 (hc :: tc).length 8 := fun k => rfl
          have mC : outM (hc :: tc) = [⟨true, (hc :: tc).flatten⟩] := rfl
          have hV : ∀ k, outV k (planF ts xs) = .row k 0 (hc :: tc).length 8 := fun k => by rw [hP, outV_ne (by simp)]; simp only [List.length_append, List.nil_append, List.append_nil]
          have hM : outM (planF ts xs) = [⟨true, (hc :: tc).flatten⟩] := by rw [hP, outM_ne (by simp)]; simp only [List.flatten_append, List.nil_append, List.append_nil]
          clear hP
          simp only [hV, hM] at h
          generalize (hc :: tc).flatten = csC at *
          generalize (hc :: tc).length = nC at *
          have lC := rC.len
          have zC := rC.pos
          have uC := rC.le
          have qC := rC.one
          have gC : 0 < nC := by omega
          have kC : csC.take (nC * 8) = csC := List.take_of_length_le (by omega)
          have yC : nC ≤ maxLen := by simp [maxLen]; omega
          have jC : nC * 72 ≤ 140737488355328 := by omega
          simp only [vC, mC,  outV_nil, outM_nil, List.length_nil, List.length_cons, List.append_nil, List.nil_append, List.cons_append, Nat.add_zero, Nat.zero_add, Nat.reduceAdd]
          simp (maxSteps := 2000000) -implicitDefEqProofs only [LL, LW, lC, zC, qC, gC, kC, yC, jC, ↓Sy.PRE, Sy.POST, Nat.reduceDiv, Nat.reduceMod, Int.reduceLT, Int.reduceLE, Int.reduceToNat, Int.reduceAdd, decide_true, decide_false, ↓reduceIte, List.map_cons, List.map_nil, List.length_cons, List.length_nil, List.cons_append, List.nil_append, List.getElem?_cons_zero, List.getElem?_cons_succ, List.getElem?_nil, List.take_succ_cons, List.take_zero, List.drop_succ_cons, List.drop_zero, List.all_cons, List.all_nil, List.set_cons_zero, List.set_cons_succ, List.append_nil, Option.map_some, Option.map_none, cond_true, cond_false, Bool.true_eq_false, Bool.false_eq_true, Bool.not_true, Bool.not_false, Nat.reduceEqDiff, Nat.reduceAdd, Nat.reduceMul, Nat.reduceSub, Nat.reduceLeDiff, Nat.reduceLT, true_and, and_true, reduceCtorEq, Nat.zero_add, Nat.add_zero, Nat.zero_mul, Nat.le_refl, Int.toNat_natCast, Bool.and_self, Bool.true_and, Bool.and_true, if_true, eq_self, forall_const, and_self, implies_true]
          have hp1 : ∀ g, LeL g (csC) (csC) := fun g => LeL_plain g rC.plain
          have hup : ∀ d, upL d (csC) = csC := fun d => upL_plain rC.plain
          exact ⟨[3], .row 0 0 (nC) 8, [⟨true, csC⟩], by simp, by simp only [FitM, ObLe, List.cons_append, List.nil_append]; simp (maxSteps := 2000000) -implicitDefEqProofs only [hp1, ↓Sy.PRE, Sy.POST, Nat.reduceDiv, Nat.reduceMod, Int.reduceLT, Int.reduceLE, Int.reduceToNat, Int.reduceAdd, decide_true, decide_false, ↓reduceIte, List.map_cons, List.map_nil, List.length_cons, List.length_nil, List.cons_append, List.nil_append, List.getElem?_cons_zero, List.getElem?_cons_succ, List.getElem?_nil, List.take_succ_cons, List.take_zero, List.drop_succ_cons, List.drop_zero, List.all_cons, List.all_nil, List.set_cons_zero, List.set_cons_succ, List.append_nil, Option.map_some, Option.map_none, cond_true, cond_false, Bool.true_eq_false, Bool.false_eq_true, Bool.not_true, Bool.not_false, Nat.reduceEqDiff, Nat.reduceAdd, Nat.reduceMul, Nat.reduceSub, Nat.reduceLeDiff, Nat.reduceLT, true_and, and_true, reduceCtorEq, Nat.zero_add, Nat.add_zero, Nat.zero_mul, Nat.le_refl, Int.toNat_natCast, Bool.and_self, Bool.true_and, Bool.and_true, if_true, eq_self, forall_const, and_self, implies_true]; try simp, by simp, by simp [Le], by simpa only [SV.up, SObj.up, hup, List.map_cons, List.map_nil, Nat.add_zero] using h⟩
        · have rB := RowOk.of hB oB
          have vB : ∀ k, outV k (hb :: tb) = .row k 0 (hb :: tb).length 8 := fun k => rfl
          have mB : outM (hb :: tb) = [⟨true, (hb :: tb).flatten⟩] := rfl
          have hV : ∀ k, outV k (planF ts xs) = .row k 0 (hb :: tb).length 8 := fun k => by rw [hP, outV_ne (by simp)]; simp only [List.length_append, List.nil_append, List.append_nil]
          have hM : outM (planF ts xs) = [⟨true, (hb :: tb).flatten⟩] := by rw [hP, outM_ne (by simp)]; simp only [List.flatten_append, List.nil_append, List.append_nil]
          clear hP
          simp only [hV, hM] at h
          generalize (hb :: tb).flatten = csB at *
          generalize (hb :: tb).length = nB at *
          have lB := rB.len
          have zB := rB.pos
          have uB := rB.le
          have qB := rB.one
          have gB : 0 < nB := by omega
          have kB : csB.take (nB * 8) = csB := List.take_of_length_le (by omega)
          have yB : nB ≤ maxLen := by simp [maxLen]; omega
          have jB : nB * 72 ≤ 140737488355328 := by omega
          simp only [vB, mB,  outV_nil, outM_nil, List.length_nil, List.length_cons, List.append_nil, List.nil_append, List.cons_append, Nat.add_zero, Nat.zero_add, Nat.reduceAdd]
          simp (maxSteps := 2000000) -implicitDefEqProofs only [LL, LW, lB, zB, qB, gB, kB, yB, jB, ↓Sy.PRE, Sy.POST, Nat.reduceDiv, Nat.reduceMod, Int.reduceLT, Int.reduceLE, Int.reduceToNat, Int.reduceAdd, decide_true, decide_false, ↓reduceIte, List.map_cons, List.map_nil, List.length_cons, List.length_nil, List.cons_append, List.nil_append, List.getElem?_cons_zero, List.getElem?_cons_succ, List.getElem?_nil, List.take_succ_cons, List.take_zero, List.drop_succ_cons, List.drop_zero, List.all_cons, List.all_nil, List.set_cons_zero, List.set_cons_succ, List.append_nil, Option.map_some, Option.map_none, cond_true, cond_false, Bool.true_eq_false, Bool.false_eq_true, Bool.not_true, Bool.not_false, Nat.reduceEqDiff, Nat.reduceAdd, Nat.reduceMul, Nat.reduceSub, Nat.reduceLeDiff, Nat.reduceLT, true_and, and_true, reduceCtorEq, Nat.zero_add, Nat.add_zero, Nat.zero_mul, Nat.le_refl, Int.toNat_natCast, Bool.and_self, Bool.true_and, Bool.and_true, if_true, eq_self, forall_const, and_self, implies_true]
          have hp1 : ∀ g, LeL g (csB) (csB) := fun g => LeL_plain g rB.plain
          have hup : ∀ d, upL d (csB) = csB := fun d => upL_plain rB.plain
          exact ⟨[3], .row 0 0 (nB) 8, [⟨true, csB⟩], by simp, by simp only [FitM, ObLe, List.cons_append, List.nil_append]; simp (maxSteps := 2000000) -implicitDefEqProofs only [hp1, ↓Sy.PRE, Sy.POST, Nat.reduceDiv, Nat.reduceMod, Int.reduceLT, Int.reduceLE, Int.reduceToNat, Int.reduceAdd, decide_true, decide_false, ↓reduceIte, List.map_cons, List.map_nil, List.length_cons, List.length_nil, List.cons_append, List.nil_append, List.getElem?_cons_zero, List.getElem?_cons_succ, List.getElem?_nil, List.take_succ_cons, List.take_zero, List.drop_succ_cons, List.drop_zero, List.all_cons, List.all_nil, List.set_cons_zero, List.set_cons_succ, List.append_nil, Option.map_some, Option.map_none, cond_true, cond_false, Bool.true_eq_false, Bool.false_eq_true, Bool.not_true, Bool.not_false, Nat.reduceEqDiff, Nat.reduceAdd, Nat.reduceMul, Nat.reduceSub, Nat.reduceLeDiff, Nat.reduceLT, true_and, and_true, reduceCtorEq, Nat.zero_add, Nat.add_zero, Nat.zero_mul, Nat.le_refl, Int.toNat_natCast, Bool.and_self, Bool.true_and, Bool.and_true, if_true, eq_self, forall_const, and_self, implies_true]; try simp, by simp, by simp [Le], by simpa only [SV.up, SObj.up, hup, List.map_cons, List.map_nil, Nat.add_zero] using h⟩
        · have rB := RowOk.of hB oB
          have vB : ∀ k, outV k (hb :: tb) = .row k 0 (hb :: tb).length 8 := fun k => rfl
          have mB : outM (hb :: tb) = [⟨true, (hb :: tb).flatten⟩] := rfl
          have rC := RowOk.of hC oC
          have vC : ∀ k, outV k (hc :: tc) = .row k 0 (hc :: tc).length 8 := fun k => rfl
          have mC : outM (hc :: tc) = [⟨true, (hc :: tc).flatten⟩] := rfl
          have hV : ∀ k, outV k (planF ts xs) = .row k 0 ((hb :: tb).length + (hc :: tc).length) 8 := fun k => by rw [hP, outV_ne (by simp)]; simp only [List.length_append, List.nil_append, List.append_nil]
          have hM : outM (planF ts xs) = [⟨true, ((hb :: tb).flatten ++ (hc :: tc).flatten)⟩] := by rw [hP, outM_ne (by simp)]; simp only [List.flatten_append, List.nil_append, List.append_nil]
          clear hP
          simp only [hV, hM] at h
          generalize (hb :: tb).flatten = csB at *
          generalize (hb :: tb).length = nB at *
          have lB := rB.len
          have zB := rB.pos
          have uB := rB.le
          have qB := rB.one
          have gB : 0 < nB := by omega
          have kB : csB.take (nB * 8) = csB := List.take_of_length_le (by omega)
          have yB : nB ≤ maxLen := by simp [maxLen]; omega
          have jB : nB * 72 ≤ 140737488355328 := by omega
          generalize (hc :: tc).flatten = csC at *
          generalize (hc :: tc).length = nC at *
          have lC := rC.len
          have zC := rC.pos
          have uC := rC.le
          have qC := rC.one
          have gC : 0 < nC := by omega
          have kC : csC.take (nC * 8) = csC := List.take_of_length_le (by omega)
          have yC : nC ≤ maxLen := by simp [maxLen]; omega
          have jC : nC * 72 ≤ 140737488355328 := by omega
          have YC : nB + nC ≤ maxLen := by simp [maxLen]; omega
          have JC : (nB + nC) * 72 ≤ 140737488355328 := by omega
          have DC : (csB ++ csC).length = (nB + nC) * 8 := by simp only [List.length_append, lB, lC]; omega
          have KC : (csB ++ csC).take ((nB + nC) * 8) = csB ++ csC := List.take_of_length_le (by rw [DC]; exact Nat.le_refl _)
          simp only [vB, mB, vC, mC,  outV_nil, outM_nil, List.length_nil, List.length_cons, List.append_nil, List.nil_append, List.cons_append, Nat.add_zero, Nat.zero_add, Nat.reduceAdd]
          simp (maxSteps := 2000000) -implicitDefEqProofs only [LL, LW, lB, zB, qB, gB, kB, yB, jB, lC, zC, qC, gC, kC, yC, jC, YC, JC, DC, KC, ↓Sy.PRE, Sy.POST, Nat.reduceDiv, Nat.reduceMod, Int.reduceLT, Int.reduceLE, Int.reduceToNat, Int.reduceAdd, decide_true, decide_false, ↓reduceIte, List.map_cons, List.map_nil, List.length_cons, List.length_nil, List.cons_append, List.nil_append, List.getElem?_cons_zero, List.getElem?_cons_succ, List.getElem?_nil, List.take_succ_cons, List.take_zero, List.drop_succ_cons, List.drop_zero, List.all_cons, List.all_nil, List.set_cons_zero, List.set_cons_succ, List.append_nil, Option.map_some, Option.map_none, cond_true, cond_false, Bool.true_eq_false, Bool.false_eq_true, Bool.not_true, Bool.not_false, Nat.reduceEqDiff, Nat.reduceAdd, Nat.reduceMul, Nat.reduceSub, Nat.reduceLeDiff, Nat.reduceLT, true_and, and_true, reduceCtorEq, Nat.zero_add, Nat.add_zero, Nat.zero_mul, Nat.le_refl, Int.toNat_natCast, Bool.and_self, Bool.true_and, Bool.and_true, if_true, eq_self, forall_const, and_self, implies_true]
          have hp1 : ∀ g, LeL g (csB ++ csC) (csB ++ csC) := fun g => LeL_plain g (plainL_app rB.plain rC.plain)
          have hup : ∀ d, upL d (csB ++ csC) = csB ++ csC := fun d => upL_plain (plainL_app rB.plain rC.plain)
          exact ⟨[5], .row 0 0 (nB + nC) 8, [⟨true, csB ++ csC⟩], by simp, by simp only [FitM, ObLe, List.cons_append, List.nil_append]; simp (maxSteps := 2000000) -implicitDefEqProofs only [hp1, ↓Sy.PRE, Sy.POST, Nat.reduceDiv, Nat.reduceMod, Int.reduceLT, Int.reduceLE, Int.reduceToNat, Int.reduceAdd, decide_true, decide_false, ↓reduceIte, List.map_cons, List.map_nil, List.length_cons, List.length_nil, List.cons_append, List.nil_append, List.getElem?_cons_zero, List.getElem?_cons_succ, List.getElem?_nil, List.take_succ_cons, List.take_zero, List.drop_succ_cons, List.drop_zero, List.all_cons, List.all_nil, List.set_cons_zero, List.set_cons_succ, List.append_nil, Option.map_some, Option.map_none, cond_true, cond_false, Bool.true_eq_false, Bool.false_eq_true, Bool.not_true, Bool.not_false, Nat.reduceEqDiff, Nat.reduceAdd, Nat.reduceMul, Nat.reduceSub, Nat.reduceLeDiff, Nat.reduceLT, true_and, and_true, reduceCtorEq, Nat.zero_add, Nat.add_zero, Nat.zero_mul, Nat.le_refl, Int.toNat_natCast, Bool.and_self, Bool.true_and, Bool.and_true, if_true, eq_self, forall_const, and_self, implies_true]; try simp, by simp, by simp [Le], by simpa only [SV.up, SObj.up, hup, List.map_cons, List.map_nil, Nat.add_zero] using h⟩
        · have rA := RowOk.of hA oA
          have vA : ∀ k, outV k (ha :: ta) = .row k 0 (ha :: ta).length 8 := fun k => rfl
          have mA : outM (ha :: ta) = [⟨true, (ha :: ta).flatten⟩] := rfl
          have hV : ∀ k, outV k (planF ts xs) = .row k 0 (ha :: ta).length 8 := fun k => by rw [hP, outV_ne (by simp)]; simp only [List.length_append, List.nil_append, List.append_nil]
          have hM : outM (planF ts xs) = [⟨true, (ha :: ta).flatten⟩] := by rw [hP, outM_ne (by simp)]; simp only [List.flatten_append, List.nil_append, List.append_nil]
          clear hP
          simp only [hV, hM] at h
          generalize (ha :: ta).flatten = csA at *
          generalize (ha :: ta).length = nA at *
          have lA := rA.len
          have zA := rA.pos
          have uA := rA.le
          have qA := rA.one
          have gA : 0 < nA := by omega
          have kA : csA.take (nA * 8) = csA := List.take_of_length_le (by omega)
          have yA : nA ≤ maxLen := by simp [maxLen]; omega
          have jA : nA * 72 ≤ 140737488355328 := by omega
          simp only [vA, mA,  outV_nil, outM_nil, List.length_nil, List.length_cons, List.append_nil, List.nil_append, List.cons_append, Nat.add_zero, Nat.zero_add, Nat.reduceAdd]
          simp (maxSteps := 2000000) -implicitDefEqProofs only [LL, LW, lA, zA, qA, gA, kA, yA, jA, ↓Sy.PRE, Sy.POST, Nat.reduceDiv, Nat.reduceMod, Int.reduceLT, Int.reduceLE, Int.reduceToNat, Int.reduceAdd, decide_true, decide_false, ↓reduceIte, List.map_cons, List.map_nil, List.length_cons, List.length_nil, List.cons_append, List.nil_append, List.getElem?_cons_zero, List.getElem?_cons_succ, List.getElem?_nil, List.take_succ_cons, List.take_zero, List.drop_succ_cons, List.drop_zero, List.all_cons, List.all_nil, List.set_cons_zero, List.set_cons_succ, List.append_nil, Option.map_some, Option.map_none, cond_true, cond_false, Bool.true_eq_false, Bool.false_eq_true, Bool.not_true, Bool.not_false, Nat.reduceEqDiff, Nat.reduceAdd, Nat.reduceMul, Nat.reduceSub, Nat.reduceLeDiff, Nat.reduceLT, true_and, and_true, reduceCtorEq, Nat.zero_add, Nat.add_zero, Nat.zero_mul, Nat.le_refl, Int.toNat_natCast, Bool.and_self, Bool.true_and, Bool.and_true, if_true, eq_self, forall_const, and_self, implies_true]
          have hp1 : ∀ g, LeL g (csA) (csA) := fun g => LeL_plain g rA.plain
          have hup : ∀ d, upL d (csA) = csA := fun d => upL_plain rA.plain
          exact ⟨[2], .row 0 0 (nA) 8, [⟨true, csA⟩], by simp, by simp only [FitM, ObLe, List.cons_append, List.nil_append]; simp (maxSteps := 2000000) -implicitDefEqProofs only [hp1, ↓Sy.PRE, Sy.POST, Nat.reduceDiv, Nat.reduceMod, Int.reduceLT, Int.reduceLE, Int.reduceToNat, Int.reduceAdd, decide_true, decide_false, ↓reduceIte, List.map_cons, List.map_nil, List.length_cons, List.length_nil, List.cons_append, List.nil_append, List.getElem?_cons_zero, List.getElem?_cons_succ, List.getElem?_nil, List.take_succ_cons, List.take_zero, List.drop_succ_cons, List.drop_zero, List.all_cons, List.all_nil, List.set_cons_zero, List.set_cons_succ, List.append_nil, Option.map_some, Option.map_none, cond_true, cond_false, Bool.true_eq_false, Bool.false_eq_true, Bool.not_true, Bool.not_false, Nat.reduceEqDiff, Nat.reduceAdd, Nat.reduceMul, Nat.reduceSub, Nat.reduceLeDiff, Nat.reduceLT, true_and, and_true, reduceCtorEq, Nat.zero_add, Nat.add_zero, Nat.zero_mul, Nat.le_refl, Int.toNat_natCast, Bool.and_self, Bool.true_and, Bool.and_true, if_true, eq_self, forall_const, and_self, implies_true]; try simp, by simp, by simp [Le], by simpa only [SV.up, SObj.up, hup, List.map_cons, List.map_nil, Nat.add_zero] using h⟩
        · have rA := RowOk.of hA oA
          have vA : ∀ k, outV k (ha :: ta) = .row k 0 (ha :: ta).length 8 := fun k => rfl
          have mA : outM (ha :: ta) = [⟨true, (ha :: ta).flatten⟩] := rfl
          have rC := RowOk.of hC oC
          have vC : ∀ k, outV k (hc :: tc) = .row k 0 (hc :: tc).length 8 := fun k => rfl
          have mC : outM (hc :: tc) = [⟨true, (hc :: tc).flatten⟩] := rfl
          have hV : ∀ k, outV k (planF ts xs) = .row k 0 ((ha :: ta).length + (hc :: tc).length) 8 := fun k => by rw [hP, outV_ne (by simp)]; simp only [List.length_append, List.nil_append, List.append_nil]
          have hM : outM (planF ts xs) = [⟨true, ((ha :: ta).flatten ++ (hc :: tc).flatten)⟩] := by rw [hP, outM_ne (by simp)]; simp only [List.flatten_append, List.nil_append, List.append_nil]
          clear hP
          simp only [hV, hM] at h
          generalize (ha :: ta).flatten = csA at *
          generalize (ha :: ta).length = nA at *
          have lA := rA.len
          have zA := rA.pos
          have uA := rA.le
          have qA := rA.one
          have gA : 0 < nA := by omega
          have kA : csA.take (nA * 8) = csA := List.take_of_length_le (by omega)
          have yA : nA ≤ maxLen := by simp [maxLen]; omega
          have jA : nA * 72 ≤ 140737488355328 := by omega
          generalize (hc :: tc).flatten = csC at *
          generalize (hc :: tc).length = nC at *
          have lC := rC.len
          have zC := rC.pos
          have uC := rC.le
          have qC := rC.one
          have gC : 0 < nC := by omega
          have kC : csC.take (nC * 8) = csC := List.take_of_length_le (by omega)
          have yC : nC ≤ maxLen := by simp [maxLen]; omega
          have jC : nC * 72 ≤ 140737488355328 := by omega
          have YC : nA + nC ≤ maxLen := by simp [maxLen]; omega
          have JC : (nA + nC) * 72 ≤ 140737488355328 := by omega
          have DC : (csA ++ csC).length = (nA + nC) * 8 := by simp only [List.length_append, lA, lC]; omega
          have KC : (csA ++ csC).take ((nA + nC) * 8) = csA ++ csC := List.take_of_length_le (by rw [DC]; exact Nat.le_refl _)
          simp only [vA, mA, vC, mC,  outV_nil, outM_nil, List.length_nil, List.length_cons, List.append_nil, List.nil_append, List.cons_append, Nat.add_zero, Nat.zero_add, Nat.reduceAdd]
          simp (maxSteps := 2000000) -implicitDefEqProofs only [LL, LW, lA, zA, qA, gA, kA, yA, jA, lC, zC, qC, gC, kC, yC, jC, YC, JC, DC, KC, ↓Sy.PRE, Sy.POST, Nat.reduceDiv, Nat.reduceMod, Int.reduceLT, Int.reduceLE, Int.reduceToNat, Int.reduceAdd, decide_true, decide_false, ↓reduceIte, List.map_cons, List.map_nil, List.length_cons, List.length_nil, List.cons_append, List.nil_append, List.getElem?_cons_zero, List.getElem?_cons_succ, List.getElem?_nil, List.take_succ_cons, List.take_zero, List.drop_succ_cons, List.drop_zero, List.all_cons, List.all_nil, List.set_cons_zero, List.set_cons_succ, List.append_nil, Option.map_some, Option.map_none, cond_true, cond_false, Bool.true_eq_false, Bool.false_eq_true, Bool.not_true, Bool.not_false, Nat.reduceEqDiff, Nat.reduceAdd, Nat.reduceMul, Nat.reduceSub, Nat.reduceLeDiff, Nat.reduceLT, true_and, and_true, reduceCtorEq, Nat.zero_add, Nat.add_zero, Nat.zero_mul, Nat.le_refl, Int.toNat_natCast, Bool.and_self, Bool.true_and, Bool.and_true, if_true, eq_self, forall_const, and_self, implies_true]
          have hp1 : ∀ g, LeL g (csA ++ csC) (csA ++ csC) := fun g => LeL_plain g (plainL_app rA.plain rC.plain)
          have hup : ∀ d, upL d (csA ++ csC) = csA ++ csC := fun d => upL_plain (plainL_app rA.plain rC.plain)
          exact ⟨[4], .row 0 0 (nA + nC) 8, [⟨true, csA ++ csC⟩], by simp, by simp only [FitM, ObLe, List.cons_append, List.nil_append]; simp (maxSteps := 2000000) -implicitDefEqProofs only [hp1, ↓Sy.PRE, Sy.POST, Nat.reduceDiv, Nat.reduceMod, Int.reduceLT, Int.reduceLE, Int.reduceToNat, Int.reduceAdd, decide_true, decide_false, ↓reduceIte, List.map_cons, List.map_nil, List.length_cons, List.length_nil, List.cons_append, List.nil_append, List.getElem?_cons_zero, List.getElem?_cons_succ, List.getElem?_nil, List.take_succ_cons, List.take_zero, List.drop_succ_cons, List.drop_zero, List.all_cons, List.all_nil, List.set_cons_zero, List.set_cons_succ, List.append_nil, Option.map_some, Option.map_none, cond_true, cond_false, Bool.true_eq_false, Bool.false_eq_true, Bool.not_true, Bool.not_false, Nat.reduceEqDiff, Nat.reduceAdd, Nat.reduceMul, Nat.reduceSub, Nat.reduceLeDiff, Nat.reduceLT, true_and, and_true, reduceCtorEq, Nat.zero_add, Nat.add_zero, Nat.zero_mul, Nat.le_refl, Int.toNat_natCast, Bool.and_self, Bool.true_and, Bool.and_true, if_true, eq_self, forall_const, and_self, implies_true]; try simp, by simp, by simp [Le], by simpa only [SV.up, SObj.up, hup, List.map_cons, List.map_nil, Nat.add_zero] using h⟩
        · have rA := RowOk.of hA oA
          have vA : ∀ k, outV k (ha :: ta) = .row k 0 (ha :: ta).length 8 := fun k => rfl
          have mA : outM (ha :: ta) = [⟨true, (ha :: ta).flatten⟩] := rfl
          have rB := RowOk.of hB oB
          have vB : ∀ k, outV k (hb :: tb) = .row k 0 (hb :: tb).length 8 := fun k => rfl
          have mB : outM (hb :: tb) = [⟨true, (hb :: tb).flatten⟩] := rfl
          have hV : ∀ k, outV k (planF ts xs) = .row k 0 ((ha :: ta).length + (hb :: tb).length) 8 := fun k => by rw [hP, outV_ne (by simp)]; simp only [List.length_append, List.nil_append, List.append_nil]
          have hM : outM (planF ts xs) = [⟨true, ((ha :: ta).flatten ++ (hb :: tb).flatten)⟩] := by rw [hP, outM_ne (by simp)]; simp only [List.flatten_append, List.nil_append, List.append_nil]
          clear hP
          simp only [hV, hM] at h
          generalize (ha :: ta).flatten = csA at *
          generalize (ha :: ta).length = nA at *
          have lA := rA.len
          have zA := rA.pos
          have uA := rA.le
          have qA := rA.one
          have gA : 0 < nA := by omega
          have kA : csA.take (nA * 8) = csA := List.take_of_length_le (by omega)
          have yA : nA ≤ maxLen := by simp [maxLen]; omega
          have jA : nA * 72 ≤ 140737488355328 := by omega
          generalize (hb :: tb).flatten = csB at *
          generalize (hb :: tb).length = nB at *
          have lB := rB.len
          have zB := rB.pos
          have uB := rB.le
          have qB := rB.one
          have gB : 0 < nB := by omega
          have kB : csB.take (nB * 8) = csB := List.take_of_length_le (by omega)
          have yB : nB ≤ maxLen := by simp [maxLen]; omega
          have jB : nB * 72 ≤ 140737488355328 := by omega
          have YB : nA + nB ≤ maxLen := by simp [maxLen]; omega
          have JB : (nA + nB) * 72 ≤ 140737488355328 := by omega
          have DB : (csA ++ csB).length = (nA + nB) * 8 := by simp only [List.length_append, lA, lB]; omega
          have KB : (csA ++ csB).take ((nA + nB) * 8) = csA ++ csB := List.take_of_length_le (by rw [DB]; exact Nat.le_refl _)
          simp only [vA, mA, vB, mB,  outV_nil, outM_nil, List.length_nil, List.length_cons, List.append_nil, List.nil_append, List.cons_append, Nat.add_zero, Nat.zero_add, Nat.reduceAdd]
          simp (maxSteps := 2000000) -implicitDefEqProofs only [LL, LW, lA, zA, qA, gA, kA, yA, jA, lB, zB, qB, gB, kB, yB, jB, YB, JB, DB, KB, ↓Sy.PRE, Sy.POST, Nat.reduceDiv, Nat.reduceMod, Int.reduceLT, Int.reduceLE, Int.reduceToNat, Int.reduceAdd, decide_true, decide_false, ↓reduceIte, List.map_cons, List.map_nil, List.length_cons, List.length_nil, List.cons_append, List.nil_append, List.getElem?_cons_zero, List.getElem?_cons_succ, List.getElem?_nil, List.take_succ_cons, List.take_zero, List.drop_succ_cons, List.drop_zero, List.all_cons, List.all_nil, List.set_cons_zero, List.set_cons_succ, List.append_nil, Option.map_some, Option.map_none, cond_true, cond_false, Bool.true_eq_false, Bool.false_eq_true, Bool.not_true, Bool.not_false, Nat.reduceEqDiff, Nat.reduceAdd, Nat.reduceMul, Nat.reduceSub, Nat.reduceLeDiff, Nat.reduceLT, true_and, and_true, reduceCtorEq, Nat.zero_add, Nat.add_zero, Nat.zero_mul, Nat.le_refl, Int.toNat_natCast, Bool.and_self, Bool.true_and, Bool.and_true, if_true, eq_self, forall_const, and_self, implies_true]
          have hp1 : ∀ g, LeL g (csA ++ csB) (csA ++ csB) := fun g => LeL_plain g (plainL_app rA.plain rB.plain)
          have hup : ∀ d, upL d (csA ++ csB) = csA ++ csB := fun d => upL_plain (plainL_app rA.plain rB.plain)
          exact ⟨[4], .row 0 0 (nA + nB) 8, [⟨true, csA ++ csB⟩], by simp, by simp only [FitM, ObLe, List.cons_append, List.nil_append]; simp (maxSteps := 2000000) -implicitDefEqProofs only [hp1, ↓Sy.PRE, Sy.POST, Nat.reduceDiv, Nat.reduceMod, Int.reduceLT, Int.reduceLE, Int.reduceToNat, Int.reduceAdd, decide_true, decide_false, ↓reduceIte, List.map_cons, List.map_nil, List.length_cons, List.length_nil, List.cons_append, List.nil_append, List.getElem?_cons_zero, List.getElem?_cons_succ, List.getElem?_nil, List.take_succ_cons, List.take_zero, List.drop_succ_cons, List.drop_zero, List.all_cons, List.all_nil, List.set_cons_zero, List.set_cons_succ, List.append_nil, Option.map_some, Option.map_none, cond_true, cond_false, Bool.true_eq_false, Bool.false_eq_true, Bool.not_true, Bool.not_false, Nat.reduceEqDiff, Nat.reduceAdd, Nat.reduceMul, Nat.reduceSub, Nat.reduceLeDiff, Nat.reduceLT, true_and, and_true, reduceCtorEq, Nat.zero_add, Nat.add_zero, Nat.zero_mul, Nat.le_refl, Int.toNat_natCast, Bool.and_self, Bool.true_and, Bool.and_true, if_true, eq_self, forall_const, and_self, implies_true]; try simp, by simp, by simp [Le], by simpa only [SV.up, SObj.up, hup, List.map_cons, List.map_nil, Nat.add_zero] using h⟩
        · have rA := RowOk.of hA oA
          have vA : ∀ k, outV k (ha :: ta) = .row k 0 (ha :: ta).length 8 := fun k => rfl
          have mA : outM (ha :: ta) = [⟨true, (ha :: ta).flatten⟩] := rfl
          have rB := RowOk.of hB oB
          have vB : ∀ k, outV k (hb :: tb) = .row k 0 (hb :: tb).length 8 := fun k => rfl
          have mB : outM (hb :: tb) = [⟨true, (hb :: tb).flatten⟩] := rfl
          have rC := RowOk.of hC oC
          have vC : ∀ k, outV k (hc :: tc) = .row k 0 (hc :: tc).length 8 := fun k => rfl
          have mC : outM (hc :: tc) = [⟨true, (hc :: tc).flatten⟩] := rfl
          have hV : ∀ k, outV k (planF ts xs) = .row k 0 (((ha :: ta).length + (hb :: tb).length) + (hc :: tc).length) 8 := fun k => by rw [hP, outV_ne (by simp)]; simp only [List.length_append, List.nil_append, List.append_nil]
          have hM : outM (planF ts xs) = [⟨true, (((ha :: ta).flatten ++ (hb :: tb).flatten) ++ (hc :: tc).flatten)⟩] := by rw [hP, outM_ne (by simp)]; simp only [List.flatten_append, List.nil_append, List.append_nil]
          clear hP
          simp only [hV, hM] at h
          generalize (ha :: ta).flatten = csA at *
          generalize (ha :: ta).length = nA at *
          have lA := rA.len
          have zA := rA.pos
          have uA := rA.le
          have qA := rA.one
          have gA : 0 < nA := by omega
          have kA : csA.take (nA * 8) = csA := List.take_of_length_le (by omega)
          have yA : nA ≤ maxLen := by simp [maxLen]; omega
          have jA : nA * 72 ≤ 140737488355328 := by omega
          generalize (hb :: tb).flatten = csB at *
          generalize (hb :: tb).length = nB at *
          have lB := rB.len
          have zB := rB.pos
          have uB := rB.le
          have qB := rB.one
          have gB : 0 < nB := by omega
          have kB : csB.take (nB * 8) = csB := List.take_of_length_le (by omega)
          have yB : nB ≤ maxLen := by simp [maxLen]; omega
          have jB : nB * 72 ≤ 140737488355328 := by omega
          generalize (hc :: tc).flatten = csC at *
          generalize (hc :: tc).length = nC at *
          have lC := rC.len
          have zC := rC.pos
          have uC := rC.le
          have qC := rC.one
          have gC : 0 < nC := by omega
          have kC : csC.take (nC * 8) = csC := List.take_of_length_le (by omega)
          have yC : nC ≤ maxLen := by simp [maxLen]; omega
          have jC : nC * 72 ≤ 140737488355328 := by omega
          have YB : nA + nB ≤ maxLen := by simp [maxLen]; omega
          have JB : (nA + nB) * 72 ≤ 140737488355328 := by omega
          have DB : (csA ++ csB).length = (nA + nB) * 8 := by simp only [List.length_append, lA, lB]; omega
          have KB : (csA ++ csB).take ((nA + nB) * 8) = csA ++ csB := List.take_of_length_le (by rw [DB]; exact Nat.le_refl _)
          have YC : nA + nB + nC ≤ maxLen := by simp [maxLen]; omega
          have JC : (nA + nB + nC) * 72 ≤ 140737488355328 := by omega
          have DC : (csA ++ csB ++ csC).length = (nA + nB + nC) * 8 := by simp only [List.length_append, lA, lB, lC]; omega
          have KC : (csA ++ csB ++ csC).take ((nA + nB + nC) * 8) = csA ++ csB ++ csC := List.take_of_length_le (by rw [DC]; exact Nat.le_refl _)
          simp only [vA, mA, vB, mB, vC, mC,  outV_nil, outM_nil, List.length_nil, List.length_cons, List.append_nil, List.nil_append, List.cons_append, Nat.add_zero, Nat.zero_add, Nat.reduceAdd]
          simp (maxSteps := 2000000) -implicitDefEqProofs only [LL, LW, lA, zA, qA, gA, kA, yA, jA, lB, zB, qB, gB, kB, yB, jB, lC, zC, qC, gC, kC, yC, jC, YB, JB, DB, KB, YC, JC, DC, KC, ↓Sy.PRE, Sy.POST, Nat.reduceDiv, Nat.reduceMod, Int.reduceLT, Int.reduceLE, Int.reduceToNat, Int.reduceAdd, decide_true, decide_false, ↓reduceIte, List.map_cons, List.map_nil, List.length_cons, List.length_nil, List.cons_append, List.nil_append, List.getElem?_cons_zero, List.getElem?_cons_succ, List.getElem?_nil, List.take_succ_cons, List.take_zero, List.drop_succ_cons, List.drop_zero, List.all_cons, List.all_nil, List.set_cons_zero, List.set_cons_succ, List.append_nil, Option.map_some, Option.map_none, cond_true, cond_false, Bool.true_eq_false, Bool.false_eq_true, Bool.not_true, Bool.not_false, Nat.reduceEqDiff, Nat.reduceAdd, Nat.reduceMul, Nat.reduceSub, Nat.reduceLeDiff, Nat.reduceLT, true_and, and_true, reduceCtorEq, Nat.zero_add, Nat.add_zero, Nat.zero_mul, Nat.le_refl, Int.toNat_natCast, Bool.and_self, Bool.true_and, Bool.and_true, if_true, eq_self, forall_const, and_self, implies_true]
          have hp1 : ∀ g, LeL g (csA ++ csB ++ csC) (csA ++ csB ++ csC) := fun g => LeL_plain g (plainL_app (plainL_app rA.plain rB.plain) rC.plain)
          have hup : ∀ d, upL d (csA ++ csB ++ csC) = csA ++ csB ++ csC := fun d => upL_plain (plainL_app (plainL_app rA.plain rB.plain) rC.plain)
          exact ⟨[6], .row 0 0 (nA + nB + nC) 8, [⟨true, csA ++ csB ++ csC⟩], by simp, by simp only [FitM, ObLe, List.cons_append, List.nil_append]; simp (maxSteps := 2000000) -implicitDefEqProofs only [hp1, ↓Sy.PRE, Sy.POST, Nat.reduceDiv, Nat.reduceMod, Int.reduceLT, Int.reduceLE, Int.reduceToNat, Int.reduceAdd, decide_true, decide_false, ↓reduceIte, List.map_cons, List.map_nil, List.length_cons, List.length_nil, List.cons_append, List.nil_append, List.getElem?_cons_zero, List.getElem?_cons_succ, List.getElem?_nil, List.take_succ_cons, List.take_zero, List.drop_succ_cons, List.drop_zero, List.all_cons, List.all_nil, List.set_cons_zero, List.set_cons_succ, List.append_nil, Option.map_some, Option.map_none, cond_true, cond_false, Bool.true_eq_false, Bool.false_eq_true, Bool.not_true, Bool.not_false, Nat.reduceEqDiff, Nat.reduceAdd, Nat.reduceMul, Nat.reduceSub, Nat.reduceLeDiff, Nat.reduceLT, true_and, and_true, reduceCtorEq, Nat.zero_add, Nat.add_zero, Nat.zero_mul, Nat.le_refl, Int.toNat_natCast, Bool.and_self, Bool.true_and, Bool.and_true, if_true, eq_self, forall_const, and_self, implies_true]; try simp, by simp, by simp [Le], by simpa only [SV.up, SObj.up, hup, List.map_cons, List.map_nil, Nat.add_zero] using h⟩
  · exact h.elim
end Go.Proofs.Ytppndeoiifkkkaa