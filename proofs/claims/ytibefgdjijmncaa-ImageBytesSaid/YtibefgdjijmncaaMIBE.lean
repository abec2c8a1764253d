/- Walks and plain facts for the law ImageBytes, part MIBE. No condition. -/
import Derived.Test.YtibefgdjijmncaaMIBD
import Derived.Test.YtibefgdjijmncaaMIBC
import Derived.Test.YtibefgdjijmncaaProg
set_option linter.unusedVariables false
set_option linter.unusedSimpArgs false
section
namespace Go.Proofs.Ytibefgdjijmncaa
open Go.RowKit Sz
set_option maxHeartbeats 4000000
set_option maxRecDepth 20000
-- almshouse/word.sized (1 parameters)
def x96 : XC := (.seq (.tree (.seq ⟨some 2, none, (.ofA (.mv (.cst (.v (.bool false)))))⟩
  .done))
 (.seq (.tree (.seq ⟨some 3, none, (.ofA (.mv (.tmp 0)))⟩
  (.seq ⟨some 4, none, (.ofA (.bin .eql (.tmp 3) (.cst (.v (.int .i64 1)))))⟩
  (.seq ⟨some 5, none, (.ofA (.mv (.tmp 4)))⟩
  (.seq ⟨some 6, some (5, false), (.ofA (.mv (.tmp 0)))⟩
  (.seq ⟨some 7, some (5, false), (.ofA (.bin .eql (.tmp 6) (.cst (.v (.int .i64 2)))))⟩
  (.seq ⟨some 8, none, (.ofA (.pick (.tmp 5) (.cst (.v (.bool true))) (.tmp 7)))⟩
  (.seq ⟨some 9, none, (.ofA (.mv (.tmp 8)))⟩
  (.seq ⟨some 10, some (9, false), (.ofA (.mv (.tmp 0)))⟩
  (.seq ⟨some 11, some (9, false), (.ofA (.bin .eql (.tmp 10) (.cst (.v (.int .i64 4)))))⟩
  (.seq ⟨some 12, none, (.ofA (.pick (.tmp 9) (.cst (.v (.bool true))) (.tmp 11)))⟩
  (.seq ⟨some 2, none, (.ofA (.mv (.tmp 12)))⟩
  .done))))))))))))
 .ret))
def r96 : List XR := [.tmp 2]
theorem fn96 : FnX Try.prog 96 [] 13 x96 r96 := ⟨_, Try.func96, by kernel_rfl, by kernel_rfl, by kernel_rfl, by kernel_rfl⟩
-- almshouse/word.Fits (2 parameters)
def x91 : XC := (.seq (.tree (.seq ⟨some 4, none, (.ofA (.mv (.cst (.v (.bool false)))))⟩
  .done))
 (.seq (.tree (.seq ⟨some 5, none, (.ofA (.mv (.tmp 1)))⟩
  (.seq ⟨some 6, none, (.call (.cst (.fn 96 [])) [(.tmp 5)])⟩
  (.seq ⟨some 7, none, (.ofA (.mv (.tmp 6)))⟩
  (.seq ⟨some 8, some (7, true), (.ofA (.mv (.tmp 0)))⟩
  (.seq ⟨some 9, some (7, true), (.ofA (.mv (.tmp 1)))⟩
  (.seq ⟨some 10, some (7, true), (.ofA (.bin .mul (.cst (.v (.int .i64 8))) (.tmp 9)))⟩
  (.seq ⟨some 11, some (7, true), (.ofA (.conv .u64 (.tmp 10)))⟩
  (.seq ⟨some 12, some (7, true), (.ofA (.bin .shr (.tmp 8) (.tmp 11)))⟩
  (.seq ⟨some 13, some (7, true), (.ofA (.bin .eql (.tmp 12) (.cst (.v (.int .i64 0)))))⟩
  (.seq ⟨some 14, none, (.ofA (.pick (.tmp 7) (.tmp 13) (.cst (.v (.bool false)))))⟩
  (.seq ⟨some 4, none, (.ofA (.mv (.tmp 14)))⟩
  .done))))))))))))
 .ret))
def r91 : List XR := [.tmp 4]
theorem fn91 : FnX Try.prog 91 [] 15 x91 r91 := ⟨_, Try.func91, by kernel_rfl, by kernel_rfl, by kernel_rfl, by kernel_rfl⟩
-- slices.Clone[[]byte,byte] (1 parameters)
def x90 : XC := (.seq (.tree (.seq ⟨some 2, none, (.ofA (.mv (.cst (.v (.slice none 0 0)))))⟩
  .done))
 (.seq (.seq (.tree (.seq ⟨some 3, none, (.ofA (.mv (.tmp 0)))⟩
  (.seq ⟨some 4, none, (.ofA (.eqn false 2 (.tmp 3) (.cst (.v (.slice none 0 0)))))⟩
  .done)))
 (.cond (.tmp 4)
 (.seq (.tree (.seq ⟨some 2, none, (.ofA (.mv (.cst (.v (.slice none 0 0)))))⟩
  .done))
 .ret)
 .skip))
 (.seq (.tree (.seq ⟨some 5, none, (.buildSl 1 0 [] [])⟩
  (.seq ⟨some 6, none, (.ofA (.mv (.tmp 0)))⟩
  (.seq ⟨some 7, none, (.app 1 1 (.tmp 5) (.tmp 6))⟩
  (.seq ⟨some 2, none, (.ofA (.mv (.tmp 7)))⟩
  .done)))))
 .ret)))
def r90 : List XR := [.tmp 2]
theorem fn90 : FnX Try.prog 90 [] 8 x90 r90 := ⟨_, Try.func90, by kernel_rfl, by kernel_rfl, by kernel_rfl, by kernel_rfl⟩
-- slices.Clip[[]byte,byte] (1 parameters)
def x89 : XC := (.seq (.tree (.seq ⟨some 2, none, (.ofA (.mv (.cst (.v (.slice none 0 0)))))⟩
  .done))
 (.seq (.tree (.seq ⟨some 3, none, (.ofA (.mv (.tmp 0)))⟩
  (.seq ⟨some 4, none, (.ofA (.mv (.tmp 0)))⟩
  (.seq ⟨some 5, none, (.ofA (.len (.tmp 4)))⟩
  (.seq ⟨some 6, none, (.ofA (.mv (.tmp 0)))⟩
  (.seq ⟨some 7, none, (.ofA (.len (.tmp 6)))⟩
  (.seq ⟨some 8, none, (.ofA (.slc3 1 (.tmp 3) none (.tmp 5) (.tmp 7)))⟩
  (.seq ⟨some 2, none, (.ofA (.mv (.tmp 8)))⟩
  .done))))))))
 .ret))
def r89 : List XR := [.tmp 2]
theorem fn89 : FnX Try.prog 89 [] 9 x89 r89 := ⟨_, Try.func89, by kernel_rfl, by kernel_rfl, by kernel_rfl, by kernel_rfl⟩
-- almshouse/word.Put (3 parameters)
def x46 : XC := (.seq (.tree (.seq ⟨some 6, none, (.ofA (.mv (.cst (.v (.slice none 0 0)))))⟩
  .done))
 (.seq (.tree (.seq ⟨some 8, none, (.ofA (.mv (.tmp 0)))⟩
  (.seq ⟨some 9, none, (.call (.cst (.fn 90 [])) [(.tmp 8)])⟩
  (.seq ⟨some 10, none, (.call (.cst (.fn 89 [])) [(.tmp 9)])⟩
  (.seq ⟨some 7, none, (.ofA (.mv (.tmp 10)))⟩
  .done)))))
 (.seq (.seq (.tree (.seq ⟨some 11, none, (.ofA (.mv (.tmp 1)))⟩
  (.seq ⟨some 12, none, (.ofA (.mv (.tmp 2)))⟩
  (.seq ⟨some 13, none, (.call (.cst (.fn 91 [])) [(.tmp 11), (.tmp 12)])⟩
  (.seq ⟨some 14, none, (.ofA (.un .not (.tmp 13)))⟩
  .done)))))
 (.cond (.tmp 14)
 (.seq (.tree (.seq ⟨some 15, none, (.ofA (.mv (.tmp 7)))⟩
  (.seq ⟨some 6, none, (.ofA (.mv (.tmp 15)))⟩
  .done)))
 .ret)
 .skip))
 (.seq (.seq (.tree (.seq ⟨some 16, none, (.ofA (.mv (.tmp 2)))⟩
  (.seq ⟨some 17, none, (.ofA (.mv (.cst (.v (.int .i64 0)))))⟩
  .done)))
 (.block 0 (.loop (.seq (.tree (.seq ⟨some 18, none, (.ofA (.bin .lss (.tmp 17) (.tmp 16)))⟩
  .done))
 (.seq (.cond (.tmp 18)
 .skip
 (.exit 0))
 (.seq (.block 1 (.seq (.tree (.seq ⟨some 19, none, (.ofA (.mv (.tmp 7)))⟩
  (.seq ⟨some 20, none, (.ofA (.mv (.tmp 1)))⟩
  (.seq ⟨some 21, none, (.ofA (.conv .u8 (.tmp 20)))⟩
  (.seq ⟨some 22, none, (.buildSl 1 1 [(.v (.int .u8 0))] [(0, 1, (.tmp 21))])⟩
  (.seq ⟨some 23, none, (.app 1 1 (.tmp 19) (.tmp 22))⟩
  (.seq ⟨some 7, none, (.ofA (.mv (.tmp 23)))⟩
  .done)))))))
 (.tree (.seq ⟨some 24, none, (.ofA (.mv (.tmp 1)))⟩
  (.seq ⟨some 25, none, (.ofA (.bin .shr (.tmp 24) (.cst (.v (.int .u64 8)))))⟩
  (.seq ⟨some 1, none, (.ofA (.mv (.tmp 25)))⟩
  .done))))))
 (.tree (.seq ⟨some 26, none, (.ofA (.bin .add (.tmp 17) (.cst (.v (.int .i64 1)))))⟩
  (.seq ⟨some 17, none, (.ofA (.mv (.tmp 26)))⟩
  .done)))))))))
 (.seq (.tree (.seq ⟨some 27, none, (.ofA (.mv (.tmp 7)))⟩
  (.seq ⟨some 6, none, (.ofA (.mv (.tmp 27)))⟩
  .done)))
 .ret)))))
def r46 : List XR := [.tmp 6]
theorem fn46 : FnX Try.prog 46 [] 28 x46 r46 := ⟨_, Try.func46, by kernel_rfl, by kernel_rfl, by kernel_rfl, by kernel_rfl⟩
def sizedF (n : Int) : Bool := n == 1 || n == 2 || n == 4
def c96 [Inp] : Trans := fun args m k => match args with
  | [.v (.int .i64 n)] => k (.v (.bool (sizedF n))) m
  | _ => False
theorem c96_ok [Inp] : Contract Try.prog 96 true c96 := by
  refine .read fn96 (G := fun _ => []) (fun J => @g0 J _) _ fun args m k h => ?_
  unfold c96 at h
  split at h
  · rename_i n
    refine ⟨by simp, fun J hJ us hus => ?_⟩
    obtain ⟨u, t1, rfl, hk1, rfl⟩ := hus
    obtain rfl := hk1.1 _ rfl
    unfold sizedF at h
    cases h1 : (n == 1) <;> cases h2 : (n == 2) <;> cases h3 : (n == 4) <;> simp only [h1, h2, h3, Bool.or_true, Bool.or_false, Bool.true_or, Bool.false_or] at h <;> simp (maxSteps := 2000000) -implicitDefEqProofs only [↓x96, ↓r96, h1, h2, h3, s_alt, s_alt20, s_alt2t, s_alt2f, ↓s_loopi, ↓v_pq, ↓PRE, POST, CORE, Nat.reduceDiv, Nat.reduceMod, Int.reduceLT, Int.reduceLE, Int.reduceToNat, Int.reduceAdd, ↓reduceIte, Nat.reduceEqDiff, Nat.reduceAdd, Nat.reduceMul, Nat.reduceSub, Nat.reduceLeDiff, Nat.reduceLT, reduceCtorEq, if_true, eq_self, forall_const, implies_true] <;> exact h
  · exact h.elim
def fitsF (v n : Int) : Bool := sizedF n && (v.fdiv (2 ^ (min (8 * n).toNat IntKind.i64.bits)) == 0)
def c91 [Inp] : Trans := fun args m k => match args with
  | [.v (.int .i64 v), .v (.int .i64 n)] => k (.v (.bool (fitsF v n))) m
  | _ => False
theorem g96 [Inp] : GOk Try.prog [⟨96, true, c96⟩] := GOk.cons c96_ok (g0 _)
theorem c91_ok [Inp] : Contract Try.prog 91 true c91 := by
  refine .read fn91 (G := fun J => [⟨96, true, @c96 J⟩]) (fun J => @g96 J) _ fun args m k h => ?_
  unfold c91 at h
  split at h
  · rename_i v n
    refine ⟨by simp, fun J hJ us hus => ?_⟩
    obtain ⟨u, t1, rfl, hk1, u2, t2, rfl, hk2, rfl⟩ := hus
    obtain rfl := hk1.1 _ rfl
    obtain rfl := hk2.1 _ rfl
    unfold fitsF at h
    cases hs : sizedF n with
    | false =>
      simp only [hs, Bool.false_and] at h
      simp (maxSteps := 2000000) -implicitDefEqProofs only [↓x91, ↓r91, ↓c96, hs, s_alt, s_alt20, s_alt2t, s_alt2f, ↓s_loopi, ↓v_pq, ↓PRE, POST, CORE, Nat.reduceDiv, Nat.reduceMod, Int.reduceLT, Int.reduceLE, Int.reduceToNat, Int.reduceAdd, ↓reduceIte, Nat.reduceEqDiff, Nat.reduceAdd, Nat.reduceMul, Nat.reduceSub, Nat.reduceLeDiff, Nat.reduceLT, reduceCtorEq, if_true, eq_self, forall_const, implies_true]
      exact h
    | true =>
      have hn : n = 1 ∨ n = 2 ∨ n = 4 := by
        unfold sizedF at hs
        simp only [Bool.or_eq_true, beq_iff_eq] at hs
        omega
      simp only [hs, Bool.true_and] at h
      have a1 : (0 : Int) ≤ 8 * n := by omega
      have a2 : IntKind.i64.wrap (8 * n) = 8 * n := Sz.w_64 (by omega) (by omega)
      have a3 : IntKind.u64.wrap (8 * n) = 8 * n := by simp [IntKind.wrap, IntKind.bits, IntKind.signed]; omega
      simp (maxSteps := 2000000) -implicitDefEqProofs only [↓x91, ↓r91, ↓c96, hs, a1, a2, a3, s_alt, s_alt20, s_alt2t, s_alt2f, ↓s_loopi, ↓v_pq, ↓PRE, POST, CORE, Nat.reduceDiv, Nat.reduceMod, Int.reduceLT, Int.reduceLE, Int.reduceToNat, Int.reduceAdd, ↓reduceIte, Nat.reduceEqDiff, Nat.reduceAdd, Nat.reduceMul, Nat.reduceSub, Nat.reduceLeDiff, Nat.reduceLT, reduceCtorEq, if_true, eq_self, forall_const, implies_true]
      exact h
  · exact h.elim
theorem bL_len (xs : List Int) : (bL xs).length = xs.length := by simp [bL]
theorem bL_one (xs : List Int) : (bL xs).all SV.one = true := by
  induction xs with
  | nil => rfl
  | cons x xs ih => show ((SV.v (.int .u8 x)).one && (bL xs).all SV.one) = true; rw [ih]; rfl
theorem bL_fold {xs : List Int} : (xs.map (Value.int .u8)).map SV.v = bL xs := (bL_eq xs).symm
theorem bL_le (g : List Nat) (xs : List Int) : LeL g (bL xs) (bL xs) := by rw [bL_eq]; exact LeL_plain g (plainL_v _)
theorem bL_up (d : Nat) (xs : List Int) : upL d (bL xs) = bL xs := by rw [bL_eq]; exact upL_v d _
def c90 [Inp] : Trans := fun args m k => match args with
  | [s] => ∃ bs : List Int, rdB m s = some bs ∧ bs.length ≤ 1000000 ∧ (if bs = [] then s = .v (.slice none 0 0) ∧ k s m else k (.row m.length 0 bs.length 1) (m ++ [⟨true, bL bs⟩]))
  | _ => False
theorem c90_ok [Inp] : Contract Try.prog 90 true c90 := by
  refine .readF fn90 (G := fun _ => []) (fun J => @g0 J _) _ fun args m k h => ?_
  unfold c90 at h
  split at h
  case h_2 => exact h.elim
  rename_i b
  obtain ⟨bs, hb, hmax, hk⟩ := h
  refine ⟨by simp, fun J hJ us hus => ?_⟩
  obtain ⟨u, t1, rfl, hk1, rfl⟩ := hus
  split at hk
  · rename_i he
    subst he
    obtain ⟨rfl, hk⟩ := hk
    obtain rfl := hk1.1 _ rfl
    simp (maxSteps := 2000000) -implicitDefEqProofs only [↓x90, ↓r90, s_alt, s_alt20, s_alt2t, s_alt2f, ↓s_loopi, ↓v_pq, ↓PRE, POST, CORE, Nat.reduceDiv, Nat.reduceMod, Int.reduceLT, Int.reduceLE, Int.reduceToNat, Int.reduceAdd, ↓reduceIte, Nat.reduceEqDiff, Nat.reduceAdd, Nat.reduceMul, Nat.reduceSub, Nat.reduceLeDiff, Nat.reduceLT, reduceCtorEq, if_true, eq_self, forall_const, implies_true]
    refine ⟨[], .v (.slice none 0 0), [], by simp, trivial, by simp, by simp only [Le], ?_⟩
    simpa [SV.up] using hk
  · rename_i he
    obtain ⟨p, c, rfl, hin⟩ := rdB_knows hb hk1
    have hn : bs.length ≠ 0 := fun h => he (List.length_eq_zero_iff.1 h)
    have hp : p.isSome = true := inpL_isSome hin hn
    have hp2 : p.isNone = false := by cases p <;> simp_all
    have h0 : ¬ bs.length = 0 := hn
    have h1 := bL_len bs
    have h2 := bL_one bs
    have h3 : 0 < bs.length := by omega
    simp (maxSteps := 2000000) -implicitDefEqProofs only [↓x90, ↓r90, hp2, hin, h0, h1, h2, h3, bL_fold, s_alt, s_alt20, s_alt2t, s_alt2f, ↓s_loopi, ↓v_pq, ↓PRE, POST, CORE, Nat.reduceDiv, Nat.reduceMod, Int.reduceLT, Int.reduceLE, Int.reduceToNat, Int.reduceAdd, ↓reduceIte, Nat.reduceEqDiff, Nat.reduceAdd, Nat.reduceMul, Nat.reduceSub, Nat.reduceLeDiff, Nat.reduceLT, reduceCtorEq, if_true, eq_self, forall_const, implies_true]
    refine ⟨⟨by unfold maxLen; omega, by omega⟩, [1], .row 0 0 bs.length 1, [⟨true, bL bs⟩], by simp, ?_, by simp, by simp only [Le]; rfl, ?_⟩
    · simp [FitM, ObLe, bL_le]
    · simpa [SV.up, SObj.up, bL_up] using hk
def c89 [Inp] : Trans := fun args m k => match args with
  | [.row j o n 1] => k (.row j o n 1) m
  | [.v (.slice none 0 0)] => k (.v (.slice none 0 0)) m
  | _ => False
theorem c89_ok [Inp] : Contract Try.prog 89 false c89 := by
  refine .full fn89 (G := fun _ => []) (fun J => @g0 J _) _ fun args m k h => ?_
  unfold c89 at h
  split at h
  · rename_i j o n
    refine ⟨by simp, fun J hJ hA => ?_⟩
    simp (maxSteps := 2000000) -implicitDefEqProofs only [↓x89, ↓r89, s_alt, s_alt20, s_alt2t, s_alt2f, ↓s_loopi, ↓v_pq, ↓PRE, POST, CORE, Nat.reduceDiv, Nat.reduceMod, Int.reduceLT, Int.reduceLE, Int.reduceToNat, Int.reduceAdd, ↓reduceIte, Nat.reduceEqDiff, Nat.reduceAdd, Nat.reduceMul, Nat.reduceSub, Nat.reduceLeDiff, Nat.reduceLT, reduceCtorEq, if_true, eq_self, forall_const, implies_true]
    simpa using h
  · refine ⟨by simp, fun J hJ hA => ?_⟩
    simp (maxSteps := 2000000) -implicitDefEqProofs only [↓x89, ↓r89, s_alt, s_alt20, s_alt2t, s_alt2f, ↓s_loopi, ↓v_pq, ↓PRE, POST, CORE, Nat.reduceDiv, Nat.reduceMod, Int.reduceLT, Int.reduceLE, Int.reduceToNat, Int.reduceAdd, ↓reduceIte, Nat.reduceEqDiff, Nat.reduceAdd, Nat.reduceMul, Nat.reduceSub, Nat.reduceLeDiff, Nat.reduceLT, reduceCtorEq, if_true, eq_self, forall_const, implies_true]
    simpa [cutA] using h
  · exact h.elim
def shN : Nat → Int → Int
  | 0, v => v
  | i + 1, v => (shN i v).fdiv (2 ^ (min (8 : Int).toNat IntKind.i64.bits))
def leF (x : Nat) (v : Int) : List Int := (List.range x).map fun i => IntKind.u8.wrap (shN i v)
theorem leF_succ (x : Nat) (v : Int) : leF (x + 1) v = leF x v ++ [IntKind.u8.wrap (shN x v)] := by simp [leF, List.range_succ]
theorem leF_len (x : Nat) (v : Int) : (leF x v).length = x := by simp [leF]
def rowS (j : Nat) (L : List Int) : SV := if L = [] then .v (.slice none 0 0) else .row j 0 L.length 1
def rowM (L : List Int) : Mem := if L = [] then [] else [⟨true, bL L⟩]
def putF (bs : List Int) (v n : Int) : List Int := if fitsF v n = true then bs ++ leF n.toNat v else bs
/-- Bytes: nil, or not empty. -/
def rdN [Inp] (m : Mem) (s : SV) (bs : List Int) : Prop := rdB m s = some bs ∧ (bs = [] → s = .v (.slice none 0 0))
def c46 [Inp] : Trans := fun args m k => match args with
  | [s, .v (.int .i64 v), .v (.int .i64 n)] => ∃ bs : List Int, rdN m s bs ∧ bs.length ≤ 900000 ∧ k (rowS m.length (putF bs v n)) (m ++ rowM (putF bs v n))
  | _ => False
def G134 [Inp] : List CEntry := [⟨90, true, c90⟩, ⟨89, false, c89⟩, ⟨91, true, c91⟩]
theorem g46 [Inp] : GOk Try.prog G134 := GOk.cons c90_ok (GOk.cons c89_ok (GOk.cons c91_ok (g0 _)))
theorem c46_ok [Inp] : Contract Try.prog 46 true c46 := by
  refine .readF fn46 (G := fun J => @G134 J) (fun J => @g46 J) _ fun args m k h => ?_
  unfold c46 at h
  split at h
  case h_2 => exact h.elim
  rename_i b v n
  obtain ⟨bs, ⟨hb, hnil⟩, hmax, hk⟩ := h
  refine ⟨by simp, fun J hJ us hus => ?_⟩
  obtain ⟨u, t1, rfl, hk1, u2, t2, rfl, hk2, u3, t3, rfl, hk3, rfl⟩ := hus
  obtain rfl := hk2.1 _ rfl
  obtain rfl := hk3.1 _ rfl
  have fin : ∀ (L : List Int) (m' : Mem) (s : SV) (j : Nat), (L = [] → s = .v (.slice none 0 0)) → (L ≠ [] → s = .row j 0 L.length 1 ∧ m'[j]? = some ⟨true, bL L⟩) → k (rowS m.length L) (m ++ rowM L) →
      ∃ (g2 : List Nat) (s2 : SV) (m2 : Mem), g2.Nodup ∧ FitM g2 m' g2 m2 ∧ (∀ o ∈ m2, o.own = true) ∧ Le g2 s2 s ∧ k (s2.up m.length) (m ++ m2.map (SObj.up m.length)) := by
    intro L m' s j h1 h2 h3
    by_cases hL : L = []
    · subst hL
      rw [h1 rfl]
      refine ⟨[], .v (.slice none 0 0), [], by simp, trivial, by simp, by simp only [Le], ?_⟩
      simpa [SV.up, rowS, rowM] using h3
    · obtain ⟨rfl, hm⟩ := h2 hL
      refine ⟨[j], .row 0 0 L.length 1, [⟨true, bL L⟩], by simp, ?_, by simp, by simp only [Le]; rfl, ?_⟩
      · simp [FitM, ObLe, bL_le, hm]
      · simpa [SV.up, SObj.up, bL_up, rowS, rowM, hL] using h3
  by_cases he : bs = []
  · subst he
    obtain rfl := hnil rfl
    obtain rfl := hk1.1 _ rfl
    simp (maxSteps := 2000000) -implicitDefEqProofs only [↓x46, ↓r46, ↓G134, ↓c90, s_alt, s_alt20, s_alt2t, s_alt2f, ↓s_loopi, ↓v_pq, ↓PRE, POST, CORE, Nat.reduceDiv, Nat.reduceMod, Int.reduceLT, Int.reduceLE, Int.reduceToNat, Int.reduceAdd, ↓reduceIte, Nat.reduceEqDiff, Nat.reduceAdd, Nat.reduceMul, Nat.reduceSub, Nat.reduceLeDiff, Nat.reduceLT, reduceCtorEq, if_true, eq_self, forall_const, implies_true]
    refine ⟨[], rfl, by simp, ?_⟩
    simp (maxSteps := 2000000) -implicitDefEqProofs only [↓G134, ↓c89, ↓c91, s_alt, s_alt20, s_alt2t, s_alt2f, ↓s_loopi, ↓v_pq, ↓PRE, POST, CORE, Nat.reduceDiv, Nat.reduceMod, Int.reduceLT, Int.reduceLE, Int.reduceToNat, Int.reduceAdd, ↓reduceIte, Nat.reduceEqDiff, Nat.reduceAdd, Nat.reduceMul, Nat.reduceSub, Nat.reduceLeDiff, Nat.reduceLT, reduceCtorEq, if_true, eq_self, forall_const, implies_true]
    split
    · rename_i hf
      have hf : fitsF v n = false := by simpa using hf
      have e : putF ([] : List Int) v n = ([] : List Int) := by unfold putF; rw [hf]; simp
      rw [e] at hk
      exact fin ([] : List Int) _ _ 0 (by simp [bL]) (by simp [bL]) hk
    · rename_i hf
      have hf : fitsF v n = true := by simpa using hf
      have e : putF ([] : List Int) v n = ([] : List Int) ++ leF n.toNat v := by unfold putF; rw [hf]; simp
      rw [e] at hk
      have hn : n = 1 ∨ n = 2 ∨ n = 4 := by
        unfold fitsF sizedF at hf
        simp only [Bool.and_eq_true, Bool.or_eq_true, beq_iff_eq] at hf
        omega
      have e0 : ([] : List Int) ++ leF 0 v = ([] : List Int) := by simp [leF]
      refine TXi_of (TX_count (g46) n.toNat (fun x => [(1, .v (.int .i64 (shN x v))), (7, rowS 0 (([] : List Int) ++ leF x v)), (16, .v (.int .i64 n)), (17, .v (.int .i64 (x : Int)))]) (fun x => rowM (([] : List Int) ++ leF x v)) (fun x => True) trivial ?_ ?_ ?_)
      · simp only [e0, rowS, rowM, if_true, shN]
        exact (by refine ⟨[], by simp [NdL, NdA, oO_cells, oO_own, iL_nil], ?_, ?_, keep0 hJ⟩ <;> simp only [FitM, FitE, ObLe, LeL, Le, List.cons_append, List.nil_append] <;> (try (simp (maxSteps := 2000000) -implicitDefEqProofs only [bL_le, s_alt, s_alt20, s_alt2t, s_alt2f, ↓s_loopi, ↓v_pq, ↓PRE, POST, CORE, Nat.reduceDiv, Nat.reduceMod, Int.reduceLT, Int.reduceLE, Int.reduceToNat, Int.reduceAdd, ↓reduceIte, Nat.reduceEqDiff, Nat.reduceAdd, Nat.reduceMul, Nat.reduceSub, Nat.reduceLeDiff, Nat.reduceLT, reduceCtorEq, if_true, eq_self, forall_const, implies_true])) <;> (try simp only [Sz.Le, Sz.LeL, List.getElem?_cons_zero, List.getElem?_cons_succ]) <;> (try simp))
      · intro x hx _
        have i0 : (0 : Int) ≤ (x : Int) := by omega
        have i1 : (x : Int) < n := by omega
        have w1 : IntKind.i64.wrap ((x : Int) + 1) = (x : Int) + 1 := Sz.w_64 (by omega) (by omega)
        have hs := leF_succ x v
        have hlen : (([] : List Int) ++ leF x v).length ≤ 900004 := by rw [List.length_append, leF_len]; first | omega | (simp only [List.length_nil, Nat.zero_add]; omega)
        have h3 : ([] : List Int) ++ leF (x + 1) v = (([] : List Int) ++ leF x v) ++ [IntKind.u8.wrap (shN x v)] := by rw [hs, List.append_assoc]
        have h4 : shN (x + 1) v = (shN x v).fdiv (2 ^ (min (8 : Int).toNat IntKind.i64.bits)) := rfl
        rw [h3, h4]
        generalize ([] : List Int) ++ leF x v = L at hlen ⊢
        generalize shN x v = y
        have hL2 : ¬ L ++ [IntKind.u8.wrap y] = [] := by simp
        have hb2 : bL (L ++ [IntKind.u8.wrap y]) = bL L ++ [.v (.int .u8 (IntKind.u8.wrap y))] := by simp [bL]
        have hl2 : (L ++ [IntKind.u8.wrap y]).length = L.length + 1 := by simp
        have b1 := bL_len L
        have b2 := bL_one L
        have b3 : List.take L.length (bL L) = bL L := List.take_of_length_le (by rw [b1]; exact Nat.le_refl _)
        have hle : ∀ g, LeL g (bL L ++ [SV.v (.int .u8 (IntKind.u8.wrap y))]) (bL L ++ [SV.v (.int .u8 (IntKind.u8.wrap y))]) := fun g => by rw [← hb2]; exact bL_le g _
        have n0 : @inpL J none 0 = some [] := rfl
        by_cases hL : L = []
        · subst hL
          simp only [rowS, rowM, hL2, if_false, if_true, hb2, hl2]
          simp (maxSteps := 2000000) -implicitDefEqProofs only [i0, i1, w1, n0, s_alt, s_alt20, s_alt2t, s_alt2f, ↓s_loopi, ↓v_pq, ↓PRE, POST, CORE, Nat.reduceDiv, Nat.reduceMod, Int.reduceLT, Int.reduceLE, Int.reduceToNat, Int.reduceAdd, ↓reduceIte, Nat.reduceEqDiff, Nat.reduceAdd, Nat.reduceMul, Nat.reduceSub, Nat.reduceLeDiff, Nat.reduceLT, reduceCtorEq, if_true, eq_self, forall_const, implies_true]
          have hle1 : ∀ g, LeL g [SV.v (.int .u8 (IntKind.u8.wrap y))] [SV.v (.int .u8 (IntKind.u8.wrap y))] := fun g => LeL_plain g rfl
          exact ⟨by unfold maxLen; omega, (by refine ⟨[1], by simp [NdL, NdA, oO_cells, oO_own, iL_nil], ?_, ?_, keep0 hJ⟩ <;> simp only [FitM, FitE, ObLe, LeL, Le, List.cons_append, List.nil_append] <;> (try (simp (maxSteps := 2000000) -implicitDefEqProofs only [bL, List.map_nil, List.nil_append, hle1, s_alt, s_alt20, s_alt2t, s_alt2f, ↓s_loopi, ↓v_pq, ↓PRE, POST, CORE, Nat.reduceDiv, Nat.reduceMod, Int.reduceLT, Int.reduceLE, Int.reduceToNat, Int.reduceAdd, ↓reduceIte, Nat.reduceEqDiff, Nat.reduceAdd, Nat.reduceMul, Nat.reduceSub, Nat.reduceLeDiff, Nat.reduceLT, reduceCtorEq, if_true, eq_self, forall_const, implies_true])) <;> (try simp only [Sz.Le, Sz.LeL, List.getElem?_cons_zero, List.getElem?_cons_succ]) <;> (try simp))⟩
        · simp only [rowS, rowM, hL2, hL, if_false, if_true, hb2, hl2]
          simp (maxSteps := 2000000) -implicitDefEqProofs only [i0, i1, w1, b1, b2, b3, s_alt, s_alt20, s_alt2t, s_alt2f, ↓s_loopi, ↓v_pq, ↓PRE, POST, CORE, Nat.reduceDiv, Nat.reduceMod, Int.reduceLT, Int.reduceLE, Int.reduceToNat, Int.reduceAdd, ↓reduceIte, Nat.reduceEqDiff, Nat.reduceAdd, Nat.reduceMul, Nat.reduceSub, Nat.reduceLeDiff, Nat.reduceLT, reduceCtorEq, if_true, eq_self, forall_const, implies_true]
          exact ⟨⟨by unfold maxLen; omega, by omega⟩, (by refine ⟨[2], by simp [NdL, NdA, oO_cells, oO_own, iL_nil], ?_, ?_, keep0 hJ⟩ <;> simp only [FitM, FitE, ObLe, LeL, Le, List.cons_append, List.nil_append] <;> (try (simp (maxSteps := 2000000) -implicitDefEqProofs only [hle, s_alt, s_alt20, s_alt2t, s_alt2f, ↓s_loopi, ↓v_pq, ↓PRE, POST, CORE, Nat.reduceDiv, Nat.reduceMod, Int.reduceLT, Int.reduceLE, Int.reduceToNat, Int.reduceAdd, ↓reduceIte, Nat.reduceEqDiff, Nat.reduceAdd, Nat.reduceMul, Nat.reduceSub, Nat.reduceLeDiff, Nat.reduceLT, reduceCtorEq, if_true, eq_self, forall_const, implies_true])) <;> (try simp only [Sz.Le, Sz.LeL, List.getElem?_cons_zero, List.getElem?_cons_succ]) <;> (try simp))⟩
      · intro _
        have i1 : ¬ ((n.toNat : Int) < n) := by omega
        by_cases hL : ([] : List Int) ++ leF n.toNat v = []
        · simp only [rowS, rowM, hL, if_true]
          simp (maxSteps := 2000000) -implicitDefEqProofs only [i1, s_alt, s_alt20, s_alt2t, s_alt2f, ↓s_loopi, ↓v_pq, ↓PRE, POST, CORE, Nat.reduceDiv, Nat.reduceMod, Int.reduceLT, Int.reduceLE, Int.reduceToNat, Int.reduceAdd, ↓reduceIte, Nat.reduceEqDiff, Nat.reduceAdd, Nat.reduceMul, Nat.reduceSub, Nat.reduceLeDiff, Nat.reduceLT, reduceCtorEq, if_true, eq_self, forall_const, implies_true]
          exact fin (([] : List Int) ++ leF n.toNat v) _ _ 0 (fun _ => rfl) (fun h => (h hL).elim) hk
        · simp only [rowS, rowM, hL, if_false]
          simp (maxSteps := 2000000) -implicitDefEqProofs only [i1, s_alt, s_alt20, s_alt2t, s_alt2f, ↓s_loopi, ↓v_pq, ↓PRE, POST, CORE, Nat.reduceDiv, Nat.reduceMod, Int.reduceLT, Int.reduceLE, Int.reduceToNat, Int.reduceAdd, ↓reduceIte, Nat.reduceEqDiff, Nat.reduceAdd, Nat.reduceMul, Nat.reduceSub, Nat.reduceLeDiff, Nat.reduceLT, reduceCtorEq, if_true, eq_self, forall_const, implies_true]
          exact fin (([] : List Int) ++ leF n.toNat v) _ _ 0 (fun h => (hL h).elim) (fun _ => ⟨rfl, rfl⟩) hk
  · obtain ⟨p, c, rfl, hin⟩ := rdB_knows hb hk1
    have hr : ∀ m, rdB m (.v (.slice p bs.length c)) = some bs := fun m => rdB_v hin
    simp (maxSteps := 2000000) -implicitDefEqProofs only [↓x46, ↓r46, ↓G134, ↓c90, s_alt, s_alt20, s_alt2t, s_alt2f, ↓s_loopi, ↓v_pq, ↓PRE, POST, CORE, Nat.reduceDiv, Nat.reduceMod, Int.reduceLT, Int.reduceLE, Int.reduceToNat, Int.reduceAdd, ↓reduceIte, Nat.reduceEqDiff, Nat.reduceAdd, Nat.reduceMul, Nat.reduceSub, Nat.reduceLeDiff, Nat.reduceLT, reduceCtorEq, if_true, eq_self, forall_const, implies_true]
    refine ⟨bs, hr _, by omega, ?_⟩
    simp (maxSteps := 2000000) -implicitDefEqProofs only [he, ↓G134, ↓c89, ↓c91, s_alt, s_alt20, s_alt2t, s_alt2f, ↓s_loopi, ↓v_pq, ↓PRE, POST, CORE, Nat.reduceDiv, Nat.reduceMod, Int.reduceLT, Int.reduceLE, Int.reduceToNat, Int.reduceAdd, ↓reduceIte, Nat.reduceEqDiff, Nat.reduceAdd, Nat.reduceMul, Nat.reduceSub, Nat.reduceLeDiff, Nat.reduceLT, reduceCtorEq, if_true, eq_self, forall_const, implies_true]
    split
    · rename_i hf
      have hf : fitsF v n = false := by simpa using hf
      have e : putF bs v n = bs := by unfold putF; rw [hf]; simp
      rw [e] at hk
      exact fin bs _ _ 0 (by simp [he]) (by simp [he]) hk
    · rename_i hf
      have hf : fitsF v n = true := by simpa using hf
      have e : putF bs v n = bs ++ leF n.toNat v := by unfold putF; rw [hf]; simp
      rw [e] at hk
      have hn : n = 1 ∨ n = 2 ∨ n = 4 := by
        unfold fitsF sizedF at hf
        simp only [Bool.and_eq_true, Bool.or_eq_true, beq_iff_eq] at hf
        omega
      have e0 : bs ++ leF 0 v = bs := by simp [leF]
      refine TXi_of (TX_count (g46) n.toNat (fun x => [(1, .v (.int .i64 (shN x v))), (7, rowS 0 (bs ++ leF x v)), (16, .v (.int .i64 n)), (17, .v (.int .i64 (x : Int)))]) (fun x => rowM (bs ++ leF x v)) (fun x => True) trivial ?_ ?_ ?_)
      · simp only [e0, rowS, rowM, he, if_false, shN]
        exact (by refine ⟨[0], by simp [NdL, NdA, oO_cells, oO_own, iL_nil], ?_, ?_, keep0 hJ⟩ <;> simp only [FitM, FitE, ObLe, LeL, Le, List.cons_append, List.nil_append] <;> (try (simp (maxSteps := 2000000) -implicitDefEqProofs only [bL_le, s_alt, s_alt20, s_alt2t, s_alt2f, ↓s_loopi, ↓v_pq, ↓PRE, POST, CORE, Nat.reduceDiv, Nat.reduceMod, Int.reduceLT, Int.reduceLE, Int.reduceToNat, Int.reduceAdd, ↓reduceIte, Nat.reduceEqDiff, Nat.reduceAdd, Nat.reduceMul, Nat.reduceSub, Nat.reduceLeDiff, Nat.reduceLT, reduceCtorEq, if_true, eq_self, forall_const, implies_true])) <;> (try simp only [Sz.Le, Sz.LeL, List.getElem?_cons_zero, List.getElem?_cons_succ]) <;> (try simp))
      · intro x hx _
        have i0 : (0 : Int) ≤ (x : Int) := by omega
        have i1 : (x : Int) < n := by omega
        have w1 : IntKind.i64.wrap ((x : Int) + 1) = (x : Int) + 1 := Sz.w_64 (by omega) (by omega)
        have hs := leF_succ x v
        have hlen : (bs ++ leF x v).length ≤ 900004 := by rw [List.length_append, leF_len]; first | omega | (simp only [List.length_nil, Nat.zero_add]; omega)
        have h3 : bs ++ leF (x + 1) v = (bs ++ leF x v) ++ [IntKind.u8.wrap (shN x v)] := by rw [hs, List.append_assoc]
        have h4 : shN (x + 1) v = (shN x v).fdiv (2 ^ (min (8 : Int).toNat IntKind.i64.bits)) := rfl
        rw [h3, h4]
        generalize bs ++ leF x v = L at hlen ⊢
        generalize shN x v = y
        have hL2 : ¬ L ++ [IntKind.u8.wrap y] = [] := by simp
        have hb2 : bL (L ++ [IntKind.u8.wrap y]) = bL L ++ [.v (.int .u8 (IntKind.u8.wrap y))] := by simp [bL]
        have hl2 : (L ++ [IntKind.u8.wrap y]).length = L.length + 1 := by simp
        have b1 := bL_len L
        have b2 := bL_one L
        have b3 : List.take L.length (bL L) = bL L := List.take_of_length_le (by rw [b1]; exact Nat.le_refl _)
        have hle : ∀ g, LeL g (bL L ++ [SV.v (.int .u8 (IntKind.u8.wrap y))]) (bL L ++ [SV.v (.int .u8 (IntKind.u8.wrap y))]) := fun g => by rw [← hb2]; exact bL_le g _
        have n0 : @inpL J none 0 = some [] := rfl
        by_cases hL : L = []
        · subst hL
          simp only [rowS, rowM, hL2, if_false, if_true, hb2, hl2]
          simp (maxSteps := 2000000) -implicitDefEqProofs only [i0, i1, w1, n0, s_alt, s_alt20, s_alt2t, s_alt2f, ↓s_loopi, ↓v_pq, ↓PRE, POST, CORE, Nat.reduceDiv, Nat.reduceMod, Int.reduceLT, Int.reduceLE, Int.reduceToNat, Int.reduceAdd, ↓reduceIte, Nat.reduceEqDiff, Nat.reduceAdd, Nat.reduceMul, Nat.reduceSub, Nat.reduceLeDiff, Nat.reduceLT, reduceCtorEq, if_true, eq_self, forall_const, implies_true]
          have hle1 : ∀ g, LeL g [SV.v (.int .u8 (IntKind.u8.wrap y))] [SV.v (.int .u8 (IntKind.u8.wrap y))] := fun g => LeL_plain g rfl
          exact ⟨by unfold maxLen; omega, (by refine ⟨[1], by simp [NdL, NdA, oO_cells, oO_own, iL_nil], ?_, ?_, keep0 hJ⟩ <;> simp only [FitM, FitE, ObLe, LeL, Le, List.cons_append, List.nil_append] <;> (try (simp (maxSteps := 2000000) -implicitDefEqProofs only [bL, List.map_nil, List.nil_append, hle1, s_alt, s_alt20, s_alt2t, s_alt2f, ↓s_loopi, ↓v_pq, ↓PRE, POST, CORE, Nat.reduceDiv, Nat.reduceMod, Int.reduceLT, Int.reduceLE, Int.reduceToNat, Int.reduceAdd, ↓reduceIte, Nat.reduceEqDiff, Nat.reduceAdd, Nat.reduceMul, Nat.reduceSub, Nat.reduceLeDiff, Nat.reduceLT, reduceCtorEq, if_true, eq_self, forall_const, implies_true])) <;> (try simp only [Sz.Le, Sz.LeL, List.getElem?_cons_zero, List.getElem?_cons_succ]) <;> (try simp))⟩
        · simp only [rowS, rowM, hL2, hL, if_false, if_true, hb2, hl2]
          simp (maxSteps := 2000000) -implicitDefEqProofs only [i0, i1, w1, b1, b2, b3, s_alt, s_alt20, s_alt2t, s_alt2f, ↓s_loopi, ↓v_pq, ↓PRE, POST, CORE, Nat.reduceDiv, Nat.reduceMod, Int.reduceLT, Int.reduceLE, Int.reduceToNat, Int.reduceAdd, ↓reduceIte, Nat.reduceEqDiff, Nat.reduceAdd, Nat.reduceMul, Nat.reduceSub, Nat.reduceLeDiff, Nat.reduceLT, reduceCtorEq, if_true, eq_self, forall_const, implies_true]
          exact ⟨⟨by unfold maxLen; omega, by omega⟩, (by refine ⟨[2], by simp [NdL, NdA, oO_cells, oO_own, iL_nil], ?_, ?_, keep0 hJ⟩ <;> simp only [FitM, FitE, ObLe, LeL, Le, List.cons_append, List.nil_append] <;> (try (simp (maxSteps := 2000000) -implicitDefEqProofs only [hle, s_alt, s_alt20, s_alt2t, s_alt2f, ↓s_loopi, ↓v_pq, ↓PRE, POST, CORE, Nat.reduceDiv, Nat.reduceMod, Int.reduceLT, Int.reduceLE, Int.reduceToNat, Int.reduceAdd, ↓reduceIte, Nat.reduceEqDiff, Nat.reduceAdd, Nat.reduceMul, Nat.reduceSub, Nat.reduceLeDiff, Nat.reduceLT, reduceCtorEq, if_true, eq_self, forall_const, implies_true])) <;> (try simp only [Sz.Le, Sz.LeL, List.getElem?_cons_zero, List.getElem?_cons_succ]) <;> (try simp))⟩
      · intro _
        have i1 : ¬ ((n.toNat : Int) < n) := by omega
        by_cases hL : bs ++ leF n.toNat v = []
        · simp only [rowS, rowM, hL, if_true]
          simp (maxSteps := 2000000) -implicitDefEqProofs only [i1, s_alt, s_alt20, s_alt2t, s_alt2f, ↓s_loopi, ↓v_pq, ↓PRE, POST, CORE, Nat.reduceDiv, Nat.reduceMod, Int.reduceLT, Int.reduceLE, Int.reduceToNat, Int.reduceAdd, ↓reduceIte, Nat.reduceEqDiff, Nat.reduceAdd, Nat.reduceMul, Nat.reduceSub, Nat.reduceLeDiff, Nat.reduceLT, reduceCtorEq, if_true, eq_self, forall_const, implies_true]
          exact fin (bs ++ leF n.toNat v) _ _ 0 (fun _ => rfl) (fun h => (h hL).elim) hk
        · simp only [rowS, rowM, hL, if_false]
          simp (maxSteps := 2000000) -implicitDefEqProofs only [i1, s_alt, s_alt20, s_alt2t, s_alt2f, ↓s_loopi, ↓v_pq, ↓PRE, POST, CORE, Nat.reduceDiv, Nat.reduceMod, Int.reduceLT, Int.reduceLE, Int.reduceToNat, Int.reduceAdd, ↓reduceIte, Nat.reduceEqDiff, Nat.reduceAdd, Nat.reduceMul, Nat.reduceSub, Nat.reduceLeDiff, Nat.reduceLT, reduceCtorEq, if_true, eq_self, forall_const, implies_true]
          exact fin (bs ++ leF n.toNat v) _ _ 0 (fun h => (hL h).elim) (fun _ => ⟨rfl, rfl⟩) hk
end Go.Proofs.Ytibefgdjijmncaa
end
section
namespace Go.Proofs.Ytibefgdjijmncaa.Sz
open Go.RowKit
/-- The same of each. -/
def KL (K : SV → Value → Prop) : List SV → List Value → Prop
  | [], us => us = []
  | s :: ss, us => ∃ u t, us = u :: t ∧ K s u ∧ KL K ss t
/-- What a reader knows of what it is given: it may look into it. -/
structure Kn (I J : Inp) (m : Mem) (K : SV → Value → Prop) : Prop where
  v : ∀ (x u : Value), K (.v x) u → u = x
  agg : ∀ (cs : List SV) (u : Value), K (.agg cs) u → ∃ us : List Value, u = .agg us.toArray ∧ KL K cs us
  sl : ∀ (z n : Nat) (s : SV) (xs : List SV) (u : Value), @slOf I m z s = some (n, xs) → K s u → ∃ p c us, u = .slice p n c ∧ KL K xs us ∧ @inpL J p (n * z) = some us
  inp : ∀ (p : Option Addr) (k : Nat) (vs : List Value), @inpL I p k = some vs → @inpL J p k = some vs
theorem KL_of {r : List Loc} : ∀ {xs : List SV} {us : List Value}, SV.IsL r xs us → KL (fun s u => s.Is r u) xs us
  | [], us, h => by simpa only [SV.IsL, KL] using h
  | s :: ss, us, h => by
    simp only [SV.IsL] at h
    obtain ⟨u, t, rfl, h1, h2⟩ := h
    exact ⟨u, t, rfl, h1, KL_of h2⟩
theorem KL_v {K : SV → Value → Prop} (hK : ∀ (x u : Value), K (.v x) u → u = x) : ∀ {ys us : List Value}, KL K (ys.map .v) us → us = ys
  | [], us, h => by simpa only [List.map_nil, KL] using h
  | y :: ys, us, h => by
    obtain ⟨u, t, rfl, h1, h2⟩ := h
    rw [hK _ _ h1, KL_v hK h2]
theorem KL_append {K : SV → Value → Prop} : ∀ {xs ys : List SV} {us : List Value}, KL K (xs ++ ys) us → ∃ a b, us = a ++ b ∧ KL K xs a ∧ KL K ys b
  | [], ys, us, h => ⟨[], us, rfl, rfl, h⟩
  | x :: xs, ys, us, h => by
    obtain ⟨u, t, rfl, h1, h2⟩ := h
    obtain ⟨a, b, rfl, h3, h4⟩ := KL_append h2
    exact ⟨u :: a, b, rfl, ⟨u, a, rfl, h1, h3⟩, h4⟩
theorem kn_of {I : Inp} {base : Nat → Prop} {w0 W : World} {r : List Loc} {m : Mem} (hst : St base w0 r m W) : Kn I (inpOf W) m (fun s u => s.Is r u) := by
  refine ⟨fun x u h => by simpa only [SV.Is] using h, fun cs u h => ?_, fun z n s xs u h hs => ?_, fun p k vs h => inp_from hst h⟩
  · simp only [SV.Is] at h
    obtain ⟨us, h1, h2⟩ := h
    exact ⟨us, h1, KL_of h2⟩
  · obtain ⟨p, c, us, rfl, hus, hlen, hcell⟩ := sl_cells hst h hs
    have hxl := slOf_len h
    refine ⟨p, c, us, rfl, KL_of hus, inpL_of (I := inpOf W) (by omega) fun hne => ?_⟩
    rcases hcell with ⟨a, rfl, hc⟩ | ⟨_, h0⟩
    · have hc := hc W (Same.refl _ _)
      refine ⟨a, rfl, ?_, hc⟩
      obtain ⟨x, hx⟩ : ∃ x, us[0]? = some x := by
        cases us with
        | nil => exact (hne rfl).elim
        | cons x _ => exact ⟨x, rfl⟩
      have := hc 0 x hx
      rw [add_zero_addr] at this
      exact World.cell?_spot this
    · exact (hne h0).elim
section
variable {P : Program} {f : FuncId} {eff : List FuncId} {N : Nat} {x : XC} {rs : List XR}
/-- A function that only reads, and gives a plain value: its arguments are plain, what they lead to is input. -/
theorem Contract.readG [I : Inp] (hF : FnX P f eff N x rs) {G : Inp → List CEntry} (hG : ∀ J, @GOk J P (G J)) (tr : Trans)
    (body : ∀ args m k, tr args m k → args.length ≤ N ∧ ∀ (J : Inp), J.keep = 0 → ∀ K, Kn I J m K → ∀ (us : List Value), KL K args us → @evX J P N eff (G J) x (slots (argSlots 0 (us.map SV.of))) [] (fun ex e m' => EndsX ex ∧ evR rs e m' fun s => s.plain = true ∧ k s m)) : Contract P f true tr := by
  refine ⟨hF.enter, fun args m k base w0 W r vs ht hst ha => ?_⟩
  obtain ⟨hlen, hev⟩ := body args m k ht
  have hvl := IsL_len ha
  refine (@FnX.calls P f eff N x rs (G (inpOf W)) (inpOf W) hF (hG (inpOf W)) _ _ _ _ _ _ _ (St.inpOf W) (isL_of vs) (by simp; omega) (fun s _ => s.plain = true ∧ k s m) (hev (inpOf W) rfl _ (kn_of hst) vs (KL_of ha))).mono ?_
  rintro e W1 ⟨s, m', r', u, ⟨hp, hk⟩, rfl, hst1, hs, _⟩
  have hb : Below W.heap.size W W1 := (@St.low (inpOf W) _ _ _ _ _ hst1).below
  exact ⟨s, m, [], u, hk, rfl, by simpa using hst.below hb, plain_is hp hs, fun _ => Same.below hst hb⟩
/-- The same, of a function that gives new objects. -/
theorem Contract.readFG [I : Inp] (hF : FnX P f eff N x rs) {G : Inp → List CEntry} (hG : ∀ J, @GOk J P (G J)) (tr : Trans)
    (body : ∀ args m k, tr args m k → args.length ≤ N ∧ ∀ (J : Inp), J.keep = 0 → ∀ K, Kn I J m K → ∀ (us : List Value), KL K args us → @evX J P N eff (G J) x (slots (argSlots 0 (us.map SV.of))) [] (fun ex e m' => EndsX ex ∧ evR rs e m' fun s => ∃ (g2 : List Nat) (s2 : SV) (m2 : Mem), g2.Nodup ∧ FitM g2 m' g2 m2 ∧ (∀ o ∈ m2, o.own = true) ∧ Le g2 s2 s ∧ k (s2.up m.length) (m ++ m2.map (SObj.up m.length)))) : Contract P f true tr := by
  refine ⟨hF.enter, fun args m k base w0 W r vs ht hst ha => ?_⟩
  obtain ⟨hlen, hev⟩ := body args m k ht
  have hvl := IsL_len ha
  refine (@FnX.calls P f eff N x rs (G (inpOf W)) (inpOf W) hF (hG (inpOf W)) _ _ _ _ _ _ _ (St.inpOf W) (isL_of vs) (by simp; omega) (fun s m' => ∃ (g2 : List Nat) (s2 : SV) (m2 : Mem), g2.Nodup ∧ FitM g2 m' g2 m2 ∧ (∀ o ∈ m2, o.own = true) ∧ Le g2 s2 s ∧ k (s2.up m.length) (m ++ m2.map (SObj.up m.length))) (hev (inpOf W) rfl _ (kn_of hst) vs (KL_of ha))).mono ?_
  rintro e W1 ⟨s, m', r', u, ⟨g2, s2, m2, hn2, hm2, hown, hle2, hk⟩, rfl, hst1, hs, _⟩
  have hb : Below W.heap.size W W1 := (@St.low (inpOf W) _ _ _ _ _ hst1).below
  obtain ⟨r2, hst2, hr2, _⟩ := @fit_sound (inpOf W) 0 _ (fun _ => .any) _ _ [] _ _ _ _ #[] (NdL_of hn2) hm2 hst1
  have hj := St.join2 I (inpOf W) hst hst2 hown
  rw [← hst.len] at hk
  exact ⟨_, _, r2, u, hk, rfl, hj, up_is (Le.is hr2 hle2 hs), fun _ => Same.below hst hb⟩
/-- A function that is handed over stays what it is; all else is plain. -/
def plF (s : SV) (u : Value) : SV := match s with
  | .fn f [] => .fn f []
  | _ => SV.of u
theorem plF_is {r : List Loc} {s : SV} {u : Value} (h : s.Is r u) : (plF s u).Is [] u := by
  unfold plF
  split
  · simpa only [SV.Is, SV.IsL] using h
  · exact SV.of_is [] u
theorem plF_isL {r : List Loc} : ∀ {ss : List SV} {us : List Value}, SV.IsL r ss us → SV.IsL [] (List.zipWith plF ss us) us
  | [], us, h => by simp only [SV.IsL] at h; subst h; simp [SV.IsL]
  | s :: ss, us, h => by
    simp only [SV.IsL] at h
    obtain ⟨u, t, rfl, h1, h2⟩ := h
    simp only [List.zipWith_cons_cons, SV.IsL]
    exact ⟨u, t, rfl, plF_is h1, plF_isL h2⟩
/-- A function that reads, and may be handed functions. -/
theorem Contract.readGf [I : Inp] (hF : FnX P f eff N x rs) {G : Inp → List CEntry} (hG : ∀ J, @GOk J P (G J)) (tr : Trans)
    (body : ∀ args m k, tr args m k → args.length ≤ N ∧ ∀ (J : Inp), J.keep = 0 → ∀ K, Kn I J m K → ∀ (us : List Value), KL K args us → @evX J P N eff (G J) x (slots (argSlots 0 (List.zipWith plF args us))) [] (fun ex e m' => EndsX ex ∧ evR rs e m' fun s => s.plain = true ∧ k s m)) : Contract P f true tr := by
  refine ⟨hF.enter, fun args m k base w0 W r vs ht hst ha => ?_⟩
  obtain ⟨hlen, hev⟩ := body args m k ht
  have hvl := IsL_len ha
  refine (@FnX.calls P f eff N x rs (G (inpOf W)) (inpOf W) hF (hG (inpOf W)) _ _ _ _ _ _ _ (St.inpOf W) (plF_isL ha) (by simp; omega) (fun s _ => s.plain = true ∧ k s m) (hev (inpOf W) rfl _ (kn_of hst) vs (KL_of ha))).mono ?_
  rintro e W1 ⟨s, m', r', u, ⟨hp, hk⟩, rfl, hst1, hs, _⟩
  have hb : Below W.heap.size W W1 := (@St.low (inpOf W) _ _ _ _ _ hst1).below
  exact ⟨s, m, [], u, hk, rfl, by simpa using hst.below hb, plain_is hp hs, fun _ => Same.below hst hb⟩
end
end Go.Proofs.Ytibefgdjijmncaa.Sz
end
section
namespace Go.Proofs.Ytibefgdjijmncaa
open Go.RowKit Sz
structure Pg where
  torn : Bool
  beside : ByteArray
  data : ByteArray
def Pg.cs (x : Pg) : List Value := [.bool x.torn, .string x.beside, .string x.data]
theorem Pg.len (x : Pg) : x.cs.length = 3 := rfl
structure Bk where
  bad : Bool
  er : Int
  pages : List Pg
/-- A block as it lies in what is read. -/
structure Bi where
  b : Bk
  a : Option Addr
  c : Nat
def Bi.cs (x : Bi) : List Value := [.bool x.b.bad, .int .i64 x.b.er, .slice x.a x.b.pages.length x.c]
theorem Bi.len (x : Bi) : x.cs.length = 3 := rfl
def Bi.In [Inp] (x : Bi) : Prop := inpL x.a (x.b.pages.length * 3) = some (rowV Pg.cs x.b.pages)
/-- A picture's geometry. -/
structure Ge where
  ch : Int
  di : Int
  bl : Int
  pa : Int
  deriving DecidableEq
def Ge.sv (g : Ge) : List SV := [.v (.int .i64 g.ch), .v (.int .i64 g.di), .v (.int .i64 g.bl), .v (.int .i64 g.pa)]
/-- Blocks as somebody's memory has them. -/
def blkS [Inp] (m : Mem) : List SV → List Bk → Prop
  | [], [] => True
  | x :: y :: z :: t, b :: bs => x = .v (.bool b.bad) ∧ y = .v (.int .i64 b.er) ∧ slOf m 3 z = some (b.pages.length, (rowV Pg.cs b.pages).map .v) ∧ blkS m t bs
  | _, _ => False
/-- A picture as somebody's memory has it. -/
def picS [Inp] (m : Mem) (s : SV) (g : Ge) (bs : List Bk) : Prop := ∃ r cells, s = .agg (g.sv ++ [r]) ∧ slOf m 3 r = some (bs.length, cells) ∧ blkS m cells bs
theorem blk_kn {I J : Inp} {m : Mem} {K : SV → Value → Prop} (hK : Kn I J m K) : ∀ {cells : List SV} {bs : List Bk} {us : List Value}, @blkS I m cells bs → KL K cells us → ∃ xs : List Bi, xs.map Bi.b = bs ∧ us = rowV Bi.cs xs ∧ ∀ x ∈ xs, @Bi.In J x
  | [], [], us, _, h => ⟨[], rfl, by simpa [KL, rowV] using h, by simp⟩
  | x :: y :: z :: t, b :: bs, us, h, hk => by
    obtain ⟨h1, h2, h3, h4⟩ := h
    obtain ⟨u, us, rfl, k1, v, us2, rfl, k2, w, us3, rfl, k3, k4⟩ := hk
    subst h1; subst h2
    obtain rfl := hK.v _ _ k1
    obtain rfl := hK.v _ _ k2
    obtain ⟨p, c, ps, rfl, kp, hin⟩ := hK.sl 3 _ z _ w h3 k3
    obtain rfl := KL_v hK.v kp
    obtain ⟨xs, e1, e2, e3⟩ := blk_kn hK h4 k4
    refine ⟨⟨b, p, c⟩ :: xs, by simp [e1], ?_, ?_⟩
    · rw [e2]; rfl
    · intro x hx
      rcases List.mem_cons.1 hx with rfl | hx
      · exact hin
      · exact e3 x hx
  | [], _ :: _, us, h, _ => h.elim
  | _ :: _, [], us, h, _ => by simp [blkS] at h
  | [_], _ :: _, us, h, _ => by simp [blkS] at h
  | [_, _], _ :: _, us, h, _ => by simp [blkS] at h
/-- A picture that a reader is given. -/
theorem pic_kn {I J : Inp} {m : Mem} {K : SV → Value → Prop} (hK : Kn I J m K) {s : SV} {g : Ge} {bs : List Bk} {u : Value} (h : @picS I m s g bs) (hk : K s u) :
    ∃ (p : Option Addr) (c : Nat) (xs : List Bi), SV.of u = .agg (g.sv ++ [.v (.slice p xs.length c)]) ∧ xs.map Bi.b = bs ∧ @inpL J p (xs.length * 3) = some (rowV Bi.cs xs) ∧ ∀ x ∈ xs, @Bi.In J x := by
  obtain ⟨r, cells, rfl, h1, h2⟩ := h
  obtain ⟨us, rfl, hk2⟩ := hK.agg _ _ hk
  obtain ⟨a, b, rfl, ka, kb⟩ := KL_append hk2
  obtain ⟨w, t, rfl, k1, rfl⟩ := kb
  obtain ⟨p, c, vs, rfl, kv, hin⟩ := hK.sl 3 _ r _ w h1 k1
  obtain ⟨xs, e1, e2, e3⟩ := blk_kn hK h2 kv
  have hl : bs.length = xs.length := by rw [← e1, List.length_map]
  have ea : a = [.int .i64 g.ch, .int .i64 g.di, .int .i64 g.bl, .int .i64 g.pa] := KL_v hK.v (ys := [.int .i64 g.ch, .int .i64 g.di, .int .i64 g.bl, .int .i64 g.pa]) ka
  rw [hl, e2] at hin
  refine ⟨p, c, xs, ?_, e1, hin, e3⟩
  rw [of_agg, ea, hl]
  rfl
theorem blk_plain [Inp] (m : Mem) : ∀ {xs : List Bi}, (∀ x ∈ xs, Bi.In x) → blkS m ((rowV Bi.cs xs).map .v) (xs.map Bi.b)
  | [], _ => trivial
  | x :: xs, h => by
    refine ⟨rfl, rfl, ?_, blk_plain m fun y hy => h y (by simp [hy])⟩
    have := h x (by simp)
    unfold Bi.In at this
    simp only [slOf, this, Option.map_some]
theorem pic_plain [Inp] (m : Mem) {g : Ge} {p : Option Addr} {c : Nat} {xs : List Bi} (hin : inpL p (xs.length * 3) = some (rowV Bi.cs xs)) (h : ∀ x ∈ xs, Bi.In x) : picS m (.agg (g.sv ++ [.v (.slice p xs.length c)])) g (xs.map Bi.b) :=
  ⟨_, _, rfl, by simp only [slOf, hin, Option.map_some, List.length_map], blk_plain m h⟩
def eqP (x y : Pg) : Bool := (x.torn == y.torn) && ((x.beside.toList == y.beside.toList) && ((x.data.toList == y.data.toList) && true))
def eqPs (ps qs : List Pg) : Bool := (ps.length == qs.length) && (ps.zip qs).all fun z => eqP z.1 z.2
def eqB (a b : Bk) : Bool := a.bad == b.bad && (a.er == b.er && eqPs a.pages b.pages)
def eqBs (as1 bs : List Bk) : Bool := (as1.length == bs.length) && (as1.zip bs).all fun z => eqB z.1 z.2
def difF (as1 bs : List Bk) (i : Nat) : Bool := match as1[i]?, bs[i]? with
  | some a, some b => !eqB a b
  | _, _ => true
def difN (as1 bs : List Bk) (n : Nat) : List Int := ((List.range n).filter (difF as1 bs)).map Int.ofNat
def difL (as1 bs : List Bk) : List Int := difN as1 bs (max as1.length bs.length)
theorem difN_succ (as1 bs : List Bk) (n : Nat) : difN as1 bs (n + 1) = difN as1 bs n ++ (if difF as1 bs n = true then [(n : Int)] else []) := by
  unfold difN
  rw [List.range_succ, List.filter_append, List.map_append]
  congr 1
  by_cases h : difF as1 bs n = true <;> simp [h]
theorem difN_len (as1 bs : List Bk) (n : Nat) : (difN as1 bs n).length ≤ n := by
  unfold difN
  rw [List.length_map]
  exact Nat.le_trans (List.length_filter_le _ _) (by simp)
theorem eqP_self (x : Pg) : eqP x x = true := by simp [eqP]
theorem eqPs_self (ps : List Pg) : eqPs ps ps = true := by
  unfold eqPs
  rw [beq_self_eq_true, Bool.true_and, List.all_eq_true]
  intro z hz
  obtain ⟨a, b⟩ := z
  have := List.of_mem_zip hz
  obtain ⟨i, hi⟩ := List.getElem?_of_mem hz
  rw [List.getElem?_zip_eq_some] at hi
  have e : a = b := Option.some.inj (hi.1.symm.trans hi.2)
  subst e
  exact eqP_self _
theorem eqB_self (a : Bk) : eqB a a = true := by simp [eqB, eqPs_self]
/-- Blocks are the same just if none differs. -/
theorem same_dif (as1 bs : List Bk) : eqBs as1 bs = ((difL as1 bs).length == 0) := by
  rw [Bool.eq_iff_iff, beq_iff_eq]
  unfold eqBs difL difN
  rw [List.length_map, List.length_eq_zero_iff, List.filter_eq_nil_iff, Bool.and_eq_true, beq_iff_eq, List.all_eq_true]
  constructor
  · rintro ⟨hl, h⟩ i hi
    rw [List.mem_range] at hi
    obtain ⟨a, ha⟩ : ∃ a, as1[i]? = some a := ⟨_, List.getElem?_eq_getElem (by omega)⟩
    obtain ⟨b, hb⟩ : ∃ b, bs[i]? = some b := ⟨_, List.getElem?_eq_getElem (by omega)⟩
    have := h (a, b) (List.mem_of_getElem? (List.getElem?_zip_eq_some.2 ⟨ha, hb⟩))
    simp only [difF, ha, hb, this, Bool.not_true, Bool.false_eq_true, not_false_eq_true]
  · intro h
    have hl : as1.length = bs.length := by
      rcases Nat.lt_trichotomy as1.length bs.length with hlt | he | hlt
      · have := h as1.length (List.mem_range.2 (by omega))
        simp [difF] at this
      · exact he
      · have := h bs.length (List.mem_range.2 (by omega))
        have e : bs[bs.length]? = none := List.getElem?_eq_none (Nat.le_refl _)
        simp [difF, e] at this
    refine ⟨hl, fun z hz => ?_⟩
    obtain ⟨i, hi⟩ := List.getElem?_of_mem hz
    obtain ⟨h1, h2⟩ := List.getElem?_zip_eq_some.1 hi
    have hlt := (List.getElem?_eq_some_iff.1 h1).1
    have := h i (List.mem_range.2 (by omega))
    simp only [difF, h1, h2, Bool.not_eq_true', Bool.not_eq_false] at this
    exact this
end Go.Proofs.Ytibefgdjijmncaa
end
section
namespace Go.Proofs.Ytibefgdjijmncaa
open Go.RowKit Sz
def leV : List Int → Int
  | [] => 0
  | c :: cs => c + 256 * leV cs
def leN : Nat → Int → List Int
  | 0, _ => []
  | n + 1, v => v % 256 :: leN n (v / 256)
def Byt (b : List Int) : Prop := ∀ x ∈ b, 0 ≤ x ∧ x ≤ 255
theorem Byt.tail {x : Int} {b : List Int} (h : Byt (x :: b)) : Byt b := fun y hy => h y (by simp [hy])
theorem Byt.take {b : List Int} (h : Byt b) (n : Nat) : Byt (b.take n) := fun x hx => h x (List.mem_of_mem_take hx)
theorem Byt.drop {b : List Int} (h : Byt b) (n : Nat) : Byt (b.drop n) := fun x hx => h x (List.mem_of_mem_drop hx)
theorem Byt.app {a b : List Int} (h : Byt a) (h2 : Byt b) : Byt (a ++ b) := fun x hx => by
  rcases List.mem_append.1 hx with hx | hx
  · exact h x hx
  · exact h2 x hx
theorem leN_len : ∀ (n : Nat) (v : Int), (leN n v).length = n
  | 0, _ => rfl
  | n + 1, v => by simp [leN, leN_len n]
theorem leN_byt : ∀ (n : Nat) (v : Int), Byt (leN n v)
  | 0, _ => fun x hx => by simp [leN] at hx
  | n + 1, v => fun x hx => by
    rcases List.mem_cons.1 hx with rfl | hx
    · omega
    · exact leN_byt n _ x hx
theorem leV_leN : ∀ (n : Nat) (v : Int), 0 ≤ v → v < 256 ^ n → leV (leN n v) = v
  | 0, v, h0, h1 => by simp [leN, leV] at *; omega
  | n + 1, v, h0, h1 => by
    rw [Int.pow_succ] at h1
    have := leV_leN n (v / 256) (by omega) (by omega)
    simp only [leN, leV, this]
    omega
theorem leN_leV : ∀ {bs : List Int}, Byt bs → leN bs.length (leV bs) = bs
  | [], _ => rfl
  | c :: cs, h => by
    have hc := h c (by simp)
    have ih := leN_leV h.tail
    simp only [List.length_cons, leN, leV]
    rw [show (c + 256 * leV cs) % 256 = c by omega, show (c + 256 * leV cs) / 256 = leV cs by omega, ih]
theorem leV_bound : ∀ {bs : List Int}, Byt bs → 0 ≤ leV bs ∧ leV bs < 256 ^ bs.length
  | [], _ => by simp [leV]
  | c :: cs, h => by
    have hc := h c (by simp)
    have ih := leV_bound h.tail
    simp only [List.length_cons, leV, Int.pow_succ]
    omega
abbrev RS := List Int × Int
def failR (e : Int) (s : RS) : RS := if s.2 = 0 then (s.1, e) else s
def takeR (n : Nat) (s : RS) : List Int × RS := if s.2 = 0 then (if s.1.length < n then ([], (s.1, 2)) else (s.1.take n, (s.1.drop n, 0))) else ([], s)
def numR (n : Nat) (s : RS) : Int × RS := (leV (takeR n s).1, (takeR n s).2)
def flagR (s : RS) : Bool × RS := ((numR 1 s).1 == 1, if 1 < (numR 1 s).1 then failR 2 (numR 1 s).2 else (numR 1 s).2)
def textR (most : Int) (s : RS) : List Int × RS :=
  if (numR 2 s).2.2 = 0 then (if most < (numR 2 s).1 then ([], ((numR 2 s).2.1, 3)) else takeR (numR 2 s).1.toNat (numR 2 s).2) else ([], (numR 2 s).2)
def doneR (s : RS) : Int := if s.1 = [] then s.2 else (failR 2 s).2
theorem takeR_at {a r : List Int} : takeR a.length (a ++ r, 0) = (a, (r, 0)) := by
  unfold takeR
  simp
theorem takeR_n {n : Nat} {a r : List Int} (h : a.length = n) : takeR n (a ++ r, 0) = (a, (r, 0)) := by
  subst h; exact takeR_at
theorem numR_leN {n : Nat} {v : Int} {r : List Int} (h0 : 0 ≤ v) (h1 : v < 256 ^ n) : numR n (leN n v ++ r, 0) = (v, (r, 0)) := by
  unfold numR
  rw [takeR_n (leN_len n v)]
  simp only [leV_leN n v h0 h1]
theorem flagR_at {f : Bool} {r : List Int} : flagR ((if f then (1 : Int) else 0) :: r, 0) = (f, (r, 0)) := by
  have e : ∀ v : Int, 0 ≤ v → v < 256 → numR 1 (v :: r, 0) = (v, (r, 0)) := fun v h0 h1 => by
    have := numR_leN (n := 1) (v := v) (r := r) h0 (by omega)
    simp only [leN, List.cons_append, List.nil_append] at this
    rwa [show v % 256 = v by omega] at this
  unfold flagR
  cases f
  · simp only [Bool.false_eq_true, if_false]
    rw [e 0 (by omega) (by omega)]
    rfl
  · simp only [if_true]
    rw [e 1 (by omega) (by omega)]
    rfl
theorem textR_at {most : Int} {a r : List Int} (h : (a.length : Int) ≤ most) (h2 : a.length < 65536) : textR most (leN 2 a.length ++ (a ++ r), 0) = (a, (r, 0)) := by
  unfold textR
  rw [numR_leN (by omega) (by omega)]
  simp only [if_true]
  rw [if_neg (by omega), Int.toNat_natCast, takeR_at]
def strB (l : List Int) : ByteArray := strOf (l.map fun x => UInt8.ofNat x.toNat)
def strI (s : ByteArray) : List Int := s.data.toList.map fun x => (x.toNat : Int)
theorem strI_len (s : ByteArray) : (strI s).length = s.size := by simp [strI]
theorem strI_byt (s : ByteArray) : Byt (strI s) := fun x hx => by
  obtain ⟨y, _, rfl⟩ := List.mem_map.1 hx
  have := y.toNat_lt
  omega
theorem strB_strI (s : ByteArray) : strB (strI s) = s := by
  unfold strB strI strOf
  rw [List.map_map]
  have : (s.data.toList.map ((fun x => UInt8.ofNat x.toNat) ∘ fun x : UInt8 => (x.toNat : Int))) = s.data.toList := by
    conv => rhs; rw [← List.map_id s.data.toList]
    apply List.map_congr_left
    intro x _
    simp
  rw [this]
section
variable (sm : List Int → Int)
def hdF (k : Int) (body : List Int) : List Int := leN 1 k ++ (leN 2 body.length ++ body)
def frF (k : Int) (body : List Int) : List Int := hdF k body ++ leN 4 (sm (hdF k body))
/-- A frame at the beginning: an error, or its kind, its body, and how long it is. -/
inductive Opd where
  | err (e : Int)
  | ok (k : Int) (body : List Int) (size : Nat)
def bodyN (b : List Int) : Nat := (leV ((b.drop 1).take 2)).toNat
def openF (b : List Int) : Opd :=
  if b.length < bodyN b + 7 then .err 2
  else if leV ((b.drop (3 + bodyN b)).take 4) = sm (b.take (3 + bodyN b)) then .ok (leV (b.take 1)) ((b.drop 3).take (bodyN b)) (bodyN b + 7)
  else .err 14
theorem frF_len (k : Int) (body : List Int) : (frF sm k body).length = body.length + 7 := by
  unfold frF hdF
  simp [leN_len]
  omega
variable (hsm : ∀ b, 0 ≤ sm b ∧ sm b < 4294967296)
include hsm
theorem openF_at {k : Int} {body r : List Int} (h0 : 0 ≤ k) (h1 : k ≤ 255) (hl : body.length ≤ 65535) : openF sm (frF sm k body ++ r) = .ok k body (body.length + 7) := by
  have hlen := frF_len sm k body
  have e1 : (frF sm k body ++ r).take 1 = leN 1 k := by
    unfold frF hdF
    simp only [List.append_assoc]
    rw [List.take_append_of_le_length (by rw [leN_len]; omega), List.take_of_length_le (by rw [leN_len]; omega)]
  have e2 : (frF sm k body ++ r).drop 1 = leN 2 body.length ++ (body ++ (leN 4 (sm (hdF k body)) ++ r)) := by
    unfold frF
    rw [hdF]
    simp only [List.append_assoc]
    rw [List.drop_append, List.drop_of_length_le (by rw [leN_len]; omega), leN_len]
    simp
  have e3 : ((frF sm k body ++ r).drop 1).take 2 = leN 2 body.length := by
    rw [e2, List.take_append_of_le_length (by rw [leN_len]; omega), List.take_of_length_le (by rw [leN_len]; omega)]
  have e4 : bodyN (frF sm k body ++ r) = body.length := by
    unfold bodyN
    rw [e3, leV_leN 2 _ (by omega) (by omega)]
    omega
  have e5 : (frF sm k body ++ r).drop 3 = body ++ (leN 4 (sm (hdF k body)) ++ r) := by
    rw [show 3 = 1 + 2 from rfl, ← List.drop_drop, e2, List.drop_append, List.drop_of_length_le (by rw [leN_len]; omega), leN_len]
    simp
  have hh : (hdF k body).length = 3 + body.length := by unfold hdF; simp [leN_len]; omega
  have e6 : (frF sm k body ++ r).take (3 + body.length) = hdF k body := by
    unfold frF
    rw [List.append_assoc, List.take_append_of_le_length (by omega), List.take_of_length_le (by omega)]
  have e7 : ((frF sm k body ++ r).drop (3 + body.length)).take 4 = leN 4 (sm (hdF k body)) := by
    unfold frF
    rw [List.append_assoc, List.drop_append, List.drop_of_length_le (by omega), hh, Nat.sub_self, List.drop_zero, List.nil_append, List.take_append_of_le_length (by rw [leN_len]; omega), List.take_of_length_le (by rw [leN_len]; omega)]
  have hs := hsm (hdF k body)
  unfold openF
  rw [e4, e5, e6, e7, e1, leV_leN 4 _ hs.1 (by omega), leV_leN 1 _ h0 (by omega), if_neg (by rw [List.length_append, hlen]; omega), if_pos rfl, List.take_append_of_le_length (Nat.le_refl _), List.take_of_length_le (Nat.le_refl _)]
omit hsm in
theorem openF_ok {b : List Int} {k : Int} {body : List Int} {size : Nat} (hb : Byt b) (h : openF sm b = .ok k body size) : b = frF sm k body ++ b.drop size ∧ size = body.length + 7 ∧ body.length ≤ 65535 ∧ 0 ≤ k ∧ k ≤ 255 ∧ Byt body ∧ size ≤ b.length := by
  unfold openF at h
  split at h
  · cases h
  rename_i hlen
  split at h
  · rename_i hs
    injection h with h1 h2 h3
    have hbn := leV_bound ((hb.drop 1).take 2)
    have hb1 := leV_bound (hb.take 1)
    have l2 : ((b.drop 1).take 2).length = 2 := by simp; omega
    have l1 : (b.take 1).length = 1 := by simp; omega
    have l4 : ((b.drop (3 + bodyN b)).take 4).length = 4 := by simp; omega
    rw [l2] at hbn
    rw [l1] at hb1
    have hn : (bodyN b : Int) = leV ((b.drop 1).take 2) := by unfold bodyN; omega
    have lb : body.length = bodyN b := by rw [← h2]; simp; omega
    have g1 : leN 1 k = b.take 1 := by
      have := leN_leV (hb.take 1)
      rw [l1] at this
      rw [← h1]
      exact this
    have g2 : leN 2 body.length = (b.drop 1).take 2 := by
      rw [lb, hn]
      have := leN_leV ((hb.drop 1).take 2)
      rwa [l2] at this
    have g3 : hdF k body = b.take (3 + bodyN b) := by
      unfold hdF
      rw [g1, g2, ← h2]
      have a1 : b.take (3 + bodyN b) = b.take 1 ++ (b.drop 1).take (2 + bodyN b) := by
        rw [show 3 + bodyN b = 1 + (2 + bodyN b) by omega, List.take_add]
      have a2 : (b.drop 1).take (2 + bodyN b) = (b.drop 1).take 2 ++ (b.drop 3).take (bodyN b) := by
        rw [List.take_add, List.drop_drop]
      rw [a1, a2]
    have g4 : leN 4 (sm (hdF k body)) = (b.drop (3 + bodyN b)).take 4 := by
      rw [g3, ← hs]
      have := leN_leV ((hb.drop (3 + bodyN b)).take 4)
      rwa [l4] at this
    have g5 : frF sm k body = b.take size := by
      unfold frF
      rw [g4, g3, show size = 3 + bodyN b + 4 by omega]
      exact List.take_add.symm
    refine ⟨by rw [g5, List.take_append_drop], by omega, by omega, by omega, by omega, ?_, by omega⟩
    rw [← h2]
    exact (hb.drop 3).take _
  · cases h
omit hsm in
theorem openF_err {b : List Int} {e : Int} (h : openF sm b = .err e) : e = 2 ∨ e = 14 := by
  unfold openF at h
  split at h
  · injection h with h; exact .inl h.symm
  · split at h
    · cases h
    · injection h with h; exact .inr h.symm
end
def pgB (x : Pg) : List Int := if x.torn = true then [1] else 0 :: (leN 2 x.beside.size ++ (strI x.beside ++ (leN 2 x.data.size ++ (strI x.data ++ []))))
def mayPg (x : Pg) : Bool := if x.torn = true then x.beside.size == 0 && x.data.size == 0 else decide (x.beside.size ≤ 32) && decide (x.data.size ≤ 160)
def noPg : Pg := ⟨false, strB [], strB []⟩
def decPg (body : List Int) : Pg × Int :=
  if (flagR (body, 0)).1 = true then (⟨true, strB [], strB []⟩, doneR (flagR (body, 0)).2)
  else (⟨false, strB (textR 32 (flagR (body, 0)).2).1, strB (textR 160 (textR 32 (flagR (body, 0)).2).2).1⟩, doneR (textR 160 (textR 32 (flagR (body, 0)).2).2).2)
theorem size_nil {s : ByteArray} (h : s.size = 0) : s = strB [] := ByteArray.size_eq_zero_iff.1 h
theorem decPg_at {x : Pg} (h : mayPg x = true) : decPg (pgB x) = (x, 0) := by
  obtain ⟨t, b, d⟩ := x
  unfold mayPg at h
  unfold decPg pgB
  cases t with
  | true =>
    simp only [if_true, Bool.and_eq_true, beq_iff_eq] at h ⊢
    have := @flagR_at true []
    simp only [if_true] at this
    rw [this]
    simp only [if_true]
    rw [size_nil h.1, size_nil h.2]
    rfl
  | false =>
    simp only [Bool.false_eq_true, if_false, Bool.and_eq_true, decide_eq_true_eq] at h ⊢
    have := @flagR_at false (leN 2 b.size ++ (strI b ++ (leN 2 d.size ++ (strI d ++ []))))
    simp only [Bool.false_eq_true, if_false] at this
    rw [this]
    simp only [Bool.false_eq_true, if_false]
    have lb := strI_len b
    have ld := strI_len d
    have t1 := @textR_at 32 (strI b) (leN 2 d.size ++ (strI d ++ [])) (by omega) (by omega)
    have t2 := @textR_at 160 (strI d) [] (by omega) (by omega)
    rw [lb] at t1
    rw [ld] at t2
    rw [t1]
    simp only
    rw [t2]
    simp only [strB_strI]
    rfl
def bkB (b : Bk) : List Int := (if b.bad = true then (1 : Int) else 0) :: (leN 1 b.pages.length ++ (leN 4 b.er ++ []))
def decBk (body : List Int) : (Bool × Int × Int) × Int :=
  (((flagR (body, 0)).1, (numR 1 (flagR (body, 0)).2).1, (numR 4 (numR 1 (flagR (body, 0)).2).2).1), doneR (numR 4 (numR 1 (flagR (body, 0)).2).2).2)
theorem decBk_at {b : Bk} (h : b.pages.length ≤ 255) (h0 : 0 ≤ b.er) (h1 : b.er < 4294967296) : decBk (bkB b) = ((b.bad, (b.pages.length : Int), b.er), 0) := by
  unfold decBk bkB
  rw [flagR_at]
  simp only
  rw [numR_leN (by omega) (by omega)]
  simp only
  rw [numR_leN h0 (by omega)]
  rfl
def hdB (g : Ge) : List Int := leN 1 g.ch ++ (leN 1 g.di ++ (leN 1 g.bl ++ (leN 1 g.pa ++ [])))
def decHd (body : List Int) : Ge × Int :=
  (⟨(numR 1 (body, 0)).1, (numR 1 (numR 1 (body, 0)).2).1, (numR 1 (numR 1 (numR 1 (body, 0)).2).2).1, (numR 1 (numR 1 (numR 1 (numR 1 (body, 0)).2).2).2).1⟩, doneR (numR 1 (numR 1 (numR 1 (numR 1 (body, 0)).2).2).2).2)
def byG (g : Ge) : Prop := (0 ≤ g.ch ∧ g.ch ≤ 255) ∧ (0 ≤ g.di ∧ g.di ≤ 255) ∧ (0 ≤ g.bl ∧ g.bl ≤ 255) ∧ (0 ≤ g.pa ∧ g.pa ≤ 255)
theorem decHd_at {g : Ge} (h : byG g) : decHd (hdB g) = (g, 0) := by
  obtain ⟨h1, h2, h3, h4⟩ := h
  unfold decHd hdB
  rw [numR_leN h1.1 (by omega)]
  simp only
  rw [numR_leN h2.1 (by omega)]
  simp only
  rw [numR_leN h3.1 (by omega)]
  simp only
  rw [numR_leN h4.1 (by omega)]
  rfl
section
variable (sm : List Int → Int)
def nextF {α : Type} (kind : Int) (dec : List Int → α × Int) (z : α) (s : RS) : α × RS :=
  if s.2 = 0 then (match openF sm s.1 with
    | .err e => (z, (s.1, e))
    | .ok k body size => ((dec body).1, (s.1.drop size, if k = kind ∧ (dec body).2 = 0 then 0 else 2)))
  else (z, s)
theorem nextF_at (hsm : ∀ b, 0 ≤ sm b ∧ sm b < 4294967296) {α : Type} {kind : Int} {dec : List Int → α × Int} {z x : α} {body r : List Int} (h0 : 0 ≤ kind) (h1 : kind ≤ 255) (hl : body.length ≤ 65535) (hd : dec body = (x, 0)) : nextF sm kind dec z (frF sm kind body ++ r, 0) = (x, (r, 0)) := by
  unfold nextF
  rw [if_pos rfl]
  simp only [openF_at sm hsm h0 h1 hl, hd]
  rw [if_pos ⟨trivial, trivial⟩, List.drop_append, List.drop_of_length_le (by rw [frF_len]; exact Nat.le_refl _), frF_len]
  simp
def pgF (x : Pg) : List Int := frF sm 80 (pgB x)
def pagesF : Nat → List Pg → RS → List Pg × RS
  | 0, ps, s => (ps, s)
  | n + 1, ps, s => if s.2 = 0 then pagesF n (ps ++ [(nextF sm 80 decPg noPg s).1]) (nextF sm 80 decPg noPg s).2 else pagesF n ps s
theorem pgB_len {x : Pg} (h : mayPg x = true) : (pgB x).length ≤ 65535 := by
  unfold pgB
  unfold mayPg at h
  split
  · simp
  · rename_i ht
    rw [if_neg ht] at h
    simp only [Bool.and_eq_true, decide_eq_true_eq] at h
    simp [leN_len, strI_len]
    omega
theorem pagesF_at (hsm : ∀ b, 0 ≤ sm b ∧ sm b < 4294967296) {r : List Int} : ∀ (xs acc : List Pg), xs.all mayPg = true → pagesF sm xs.length acc (xs.flatMap (pgF sm) ++ r, 0) = (acc ++ xs, (r, 0))
  | [], acc, _ => by simp [pagesF]
  | x :: xs, acc, h => by
    simp only [List.all_cons, Bool.and_eq_true] at h
    rw [List.length_cons, List.flatMap_cons, List.append_assoc]
    unfold pagesF
    rw [if_pos rfl]
    have := nextF_at sm hsm (kind := 80) (z := noPg) (r := xs.flatMap (pgF sm) ++ r) (by omega) (by omega) (pgB_len h.1) (decPg_at h.1)
    unfold pgF at this ⊢
    rw [this]
    simp only
    have ih := pagesF_at hsm (r := r) xs (acc ++ [x]) h.2
    unfold pgF at ih
    rw [ih, List.append_assoc]
    rfl
def bkF (b : Bk) : List Int := frF sm 66 (bkB b) ++ b.pages.flatMap (pgF sm)
def blockF (s : RS) : Bk × RS :=
  (⟨(nextF sm 66 decBk (false, 0, 0) s).1.1, (nextF sm 66 decBk (false, 0, 0) s).1.2.2, (pagesF sm (nextF sm 66 decBk (false, 0, 0) s).1.2.1.toNat [] (nextF sm 66 decBk (false, 0, 0) s).2).1⟩,
    (pagesF sm (nextF sm 66 decBk (false, 0, 0) s).1.2.1.toNat [] (nextF sm 66 decBk (false, 0, 0) s).2).2)
def rdBk (b : Bk) : Prop := b.pages.length ≤ 255 ∧ b.pages.all mayPg = true ∧ 0 ≤ b.er
theorem blockF_at (hsm : ∀ b, 0 ≤ sm b ∧ sm b < 4294967296) {b : Bk} {r : List Int} (h : rdBk b) (he : b.er < 4294967296) : blockF sm (bkF sm b ++ r, 0) = (b, (r, 0)) := by
  obtain ⟨h1, h2, h3⟩ := h
  have hl : (bkB b).length ≤ 65535 := by unfold bkB; simp [leN_len]
  have := nextF_at sm hsm (kind := 66) (z := (false, (0 : Int), (0 : Int))) (r := b.pages.flatMap (pgF sm) ++ r) (by omega) (by omega) hl (decBk_at h1 h3 he)
  unfold blockF bkF
  rw [List.append_assoc, this]
  simp only [Int.toNat_natCast]
  rw [pagesF_at sm hsm _ _ h2]
  rfl
def blocksF : Nat → List Bk → RS → List Bk × RS
  | 0, bs, s => (bs, s)
  | n + 1, bs, s => if s.2 = 0 then blocksF n (bs ++ [(blockF sm s).1]) (blockF sm s).2 else blocksF n bs s
theorem blocksF_at (hsm : ∀ b, 0 ≤ sm b ∧ sm b < 4294967296) {r : List Int} : ∀ (xs acc : List Bk), (∀ b ∈ xs, rdBk b ∧ b.er < 4294967296) → blocksF sm xs.length acc (xs.flatMap (bkF sm) ++ r, 0) = (acc ++ xs, (r, 0))
  | [], acc, _ => by simp [blocksF]
  | x :: xs, acc, h => by
    rw [List.length_cons, List.flatMap_cons, List.append_assoc]
    unfold blocksF
    rw [if_pos rfl, blockF_at sm hsm (h x (by simp)).1 (h x (by simp)).2]
    simp only
    rw [blocksF_at hsm xs (acc ++ [x]) (fun b hb => h b (by simp [hb])), List.append_assoc]
    rfl
def chkG (g : Ge) : Bool := decide (1 ≤ g.ch ∧ g.ch ≤ 64) && (decide (1 ≤ g.di ∧ g.di ≤ 64) && (decide (1 ≤ g.bl ∧ g.bl ≤ 64) && (decide (2 ≤ g.pa ∧ g.pa ≤ 16) && (decide (3 ≤ g.ch * g.di * g.bl) && decide (g.ch * g.di * g.bl ≤ 64)))))
def nB (g : Ge) : Int := if chkG g = true then g.ch * g.di * g.bl else 0
def mayBk (g : Ge) (i : Nat) (b : Bk) : Bool := !(b.bad && decide (i < 2)) && (decide (0 ≤ b.er) && (decide (b.er ≤ 2147483647) && (decide ((b.pages.length : Int) ≤ g.pa) && b.pages.all mayPg)))
def mayBs (g : Ge) : Nat → List Bk → Bool
  | _, [] => true
  | i, b :: bs => mayBk g i b && mayBs g (i + 1) bs
def mayF (g : Ge) (bs : List Bk) : Bool := chkG g && (((bs.length : Int) == nB g) && mayBs g 0 bs)
def toldF (g : Ge) (bs : List Bk) : List Int := frF sm 71 (hdB g) ++ bs.flatMap (bkF sm)
/-- Behind the head: a geometry that may not be is an error. -/
def startS (h : Ge × RS) : RS := if h.2.2 = 0 ∧ chkG h.1 = false then (h.2.1, 2) else h.2
/-- At the end: is anything left, or is it no picture? -/
def endE (g : Ge) (q : List Bk × RS) : Int := if q.2.2 = 0 ∧ (q.2.1 ≠ [] ∨ mayF g q.1 = false) then 2 else q.2.2
def headF' (b : List Int) : Ge × RS := nextF sm 71 decHd ⟨0, 0, 0, 0⟩ (b, 0)
def parseF (b : List Int) : Ge × List Bk × Int :=
  ((headF' sm b).1, (blocksF sm (nB (headF' sm b).1).toNat [] (startS (headF' sm b))).1, endE (headF' sm b).1 (blocksF sm (nB (headF' sm b).1).toNat [] (startS (headF' sm b))))
theorem chk_by {g : Ge} (h : chkG g = true) : byG g := by
  unfold chkG at h
  simp only [Bool.and_eq_true, decide_eq_true_eq] at h
  unfold byG
  omega
theorem mayBs_all {g : Ge} (hg : chkG g = true) : ∀ {bs : List Bk} {i : Nat}, mayBs g i bs = true → ∀ b ∈ bs, rdBk b ∧ b.er < 4294967296
  | [], i, _, b, hb => by simp at hb
  | x :: xs, i, h, b, hb => by
    simp only [mayBs, Bool.and_eq_true] at h
    rcases List.mem_cons.1 hb with rfl | hb
    · have := h.1
      unfold mayBk at this
      simp only [Bool.and_eq_true, decide_eq_true_eq] at this
      have hp := (chk_by hg).2.2.2
      exact ⟨⟨by omega, this.2.2.2.2, this.2.1⟩, by omega⟩
    · exact mayBs_all hg h.2 b hb
/-- What is written is read as it was. -/
theorem parse_told (hsm : ∀ b, 0 ≤ sm b ∧ sm b < 4294967296) {g : Ge} {bs : List Bk} (h : mayF g bs = true) : parseF sm (toldF sm g bs) = (g, bs, 0) := by
  have h' := h
  unfold mayF at h
  simp only [Bool.and_eq_true, beq_iff_eq] at h
  obtain ⟨hg, hl, hb⟩ := h
  have hlen : (hdB g).length ≤ 65535 := by unfold hdB; simp [leN_len]
  have e1 := nextF_at sm hsm (kind := 71) (z := (⟨0, 0, 0, 0⟩ : Ge)) (r := bs.flatMap (bkF sm)) (by omega) (by omega) hlen (decHd_at (chk_by hg))
  have e2 := blocksF_at sm hsm (r := []) bs [] (mayBs_all hg hb)
  rw [List.append_nil, List.nil_append] at e2
  have e3 : (nB g).toNat = bs.length := by omega
  have e4 : headF' sm (toldF sm g bs) = (g, (bs.flatMap (bkF sm), 0)) := e1
  have e5 : startS (g, (bs.flatMap (bkF sm), 0)) = (bs.flatMap (bkF sm), 0) := by
    unfold startS
    rw [if_neg (by simp [hg])]
  unfold parseF
  rw [e4]
  simp only
  rw [e5, e3, e2]
  unfold endE
  rw [if_neg (by simp [h'])]
end
end Go.Proofs.Ytibefgdjijmncaa
end
section
namespace Go.Proofs.Ytibefgdjijmncaa
open Go.RowKit Sz
set_option maxHeartbeats 4000000
set_option maxRecDepth 20000
-- (*almshouse/word.Reader).fail (2 parameters)
def x97 : XC := (.seq (.tree (.seq ⟨some 4, none, (.ofA (.mv (.cst (.v (.bool false)))))⟩
  .done))
 (.seq (.seq (.tree (.seq ⟨some 5, none, (.ofA (.mv (.tmp 0)))⟩
  (.seq ⟨some 6, none, (.ofA (.nilc (.tmp 5)))⟩
  (.seq ⟨some 7, none, (.ofA (.faddr 1 (.tmp 6)))⟩
  (.seq ⟨some 8, none, (.ofA (.load none (.tmp 7)))⟩
  (.seq ⟨some 9, none, (.ofA (.bin .eql (.tmp 8) (.cst (.v (.int .i64 0)))))⟩
  .done))))))
 (.cond (.tmp 9)
 (.tree (.seq ⟨some 10, none, (.ofA (.mv (.tmp 0)))⟩
  (.seq ⟨some 11, none, (.ofA (.mv (.tmp 1)))⟩
  (.seq ⟨some 12, none, (.ofA (.nilc (.tmp 10)))⟩
  (.seq ⟨some 13, none, (.ofA (.faddr 1 (.tmp 12)))⟩
  (.seq ⟨none, none, (.store 1 (.tmp 13) (.tmp 11))⟩
  .done))))))
 .skip))
 (.seq (.tree (.seq ⟨some 14, none, (.ofA (.mv (.tmp 0)))⟩
  (.seq ⟨some 15, none, (.ofA (.nilc (.tmp 14)))⟩
  (.seq ⟨some 16, none, (.ofA (.faddr 1 (.tmp 15)))⟩
  (.seq ⟨some 17, none, (.ofA (.load none (.tmp 16)))⟩
  (.seq ⟨some 18, none, (.ofA (.bin .neq (.tmp 17) (.cst (.v (.int .i64 0)))))⟩
  (.seq ⟨some 4, none, (.ofA (.mv (.tmp 18)))⟩
  .done)))))))
 .ret)))
def r97 : List XR := [.tmp 4]
theorem fn97 : FnX Try.prog 97 [50, 51, 52, 54, 56, 95, 97, 98, 99, 100, 101, 125, 126] 19 x97 r97 := ⟨_, Try.func97, by kernel_rfl, by kernel_rfl, by kernel_rfl, by kernel_rfl⟩
-- (*almshouse/word.Reader).next (2 parameters)
def x98 : XC := (.seq (.tree (.seq ⟨some 4, none, (.ofA (.mv (.cst (.v (.slice none 0 0)))))⟩
  .done))
 (.seq (.seq (.tree (.seq ⟨some 6, none, (.ofA (.mv (.tmp 0)))⟩
  (.seq ⟨some 7, none, (.ofA (.nilc (.tmp 6)))⟩
  (.seq ⟨some 8, none, (.ofA (.faddr 1 (.tmp 7)))⟩
  (.seq ⟨some 9, none, (.ofA (.load none (.tmp 8)))⟩
  (.seq ⟨some 10, none, (.ofA (.bin .neq (.tmp 9) (.cst (.v (.int .i64 0)))))⟩
  (.seq ⟨some 11, none, (.ofA (.mv (.tmp 10)))⟩
  (.seq ⟨some 12, some (11, false), (.ofA (.mv (.tmp 1)))⟩
  (.seq ⟨some 13, some (11, false), (.ofA (.mv (.tmp 0)))⟩
  (.seq ⟨some 14, some (11, false), (.ofA (.nilc (.tmp 13)))⟩
  (.seq ⟨some 15, some (11, false), (.ofA (.faddr 0 (.tmp 14)))⟩
  (.seq ⟨some 16, some (11, false), (.ofA (.load none (.tmp 15)))⟩
  (.seq ⟨some 17, some (11, false), (.ofA (.len (.tmp 16)))⟩
  (.seq ⟨some 18, some (11, false), (.ofA (.bin .gtr (.tmp 12) (.tmp 17)))⟩
  (.seq ⟨some 19, some (11, false), (.ofA (.mv (.tmp 18)))⟩
  (.seq ⟨some 20, some (19, true), (.ofA (.mv (.tmp 0)))⟩
  (.seq ⟨some 21, some (19, true), (.call (.cst (.fn 97 [])) [(.tmp 20), (.cst (.v (.int .i64 2)))])⟩
  (.seq ⟨some 22, some (11, false), (.ofA (.pick (.tmp 19) (.tmp 21) (.cst (.v (.bool false)))))⟩
  (.seq ⟨some 23, none, (.ofA (.pick (.tmp 11) (.cst (.v (.bool true))) (.tmp 22)))⟩
  .done)))))))))))))))))))
 (.cond (.tmp 23)
 (.seq (.tree (.seq ⟨some 4, none, (.ofA (.mv (.cst (.v (.slice none 0 0)))))⟩
  .done))
 .ret)
 .skip))
 (.seq (.tree (.seq ⟨some 24, none, (.ofA (.mv (.tmp 0)))⟩
  (.seq ⟨some 25, none, (.ofA (.nilc (.tmp 24)))⟩
  (.seq ⟨some 26, none, (.ofA (.faddr 0 (.tmp 25)))⟩
  (.seq ⟨some 27, none, (.ofA (.load none (.tmp 26)))⟩
  (.seq ⟨some 28, none, (.ofA (.mv (.tmp 1)))⟩
  (.seq ⟨some 29, none, (.ofA (.mv (.tmp 1)))⟩
  (.seq ⟨some 30, none, (.ofA (.slc3 1 (.tmp 27) none (.tmp 28) (.tmp 29)))⟩
  (.seq ⟨some 5, none, (.ofA (.mv (.tmp 30)))⟩
  .done)))))))))
 (.seq (.tree (.seq ⟨some 31, none, (.ofA (.mv (.tmp 0)))⟩
  (.seq ⟨some 32, none, (.ofA (.mv (.tmp 0)))⟩
  (.seq ⟨some 33, none, (.ofA (.nilc (.tmp 32)))⟩
  (.seq ⟨some 34, none, (.ofA (.faddr 0 (.tmp 33)))⟩
  (.seq ⟨some 35, none, (.ofA (.load none (.tmp 34)))⟩
  (.seq ⟨some 36, none, (.ofA (.mv (.tmp 1)))⟩
  (.seq ⟨some 37, none, (.ofA (.slc 1 (.tmp 35) (some (.tmp 36)) none))⟩
  (.seq ⟨some 38, none, (.ofA (.nilc (.tmp 31)))⟩
  (.seq ⟨some 39, none, (.ofA (.faddr 0 (.tmp 38)))⟩
  (.seq ⟨none, none, (.store 1 (.tmp 39) (.tmp 37))⟩
  .done)))))))))))
 (.seq (.tree (.seq ⟨some 40, none, (.ofA (.mv (.tmp 5)))⟩
  (.seq ⟨some 4, none, (.ofA (.mv (.tmp 40)))⟩
  .done)))
 .ret)))))
def r98 : List XR := [.tmp 4]
theorem fn98 : FnX Try.prog 98 [50, 51, 52, 54, 56, 95, 97, 98, 99, 100, 101, 125, 126] 41 x98 r98 := ⟨_, Try.func98, by kernel_rfl, by kernel_rfl, by kernel_rfl, by kernel_rfl⟩
-- (*almshouse/word.Reader).Number (2 parameters)
def x52 : XC := (.seq (.tree (.seq ⟨some 4, none, (.ofA (.mv (.cst (.v (.int .i64 0)))))⟩
  .done))
 (.seq (.seq (.tree (.seq ⟨some 8, none, (.ofA (.mv (.tmp 0)))⟩
  (.seq ⟨some 9, none, (.ofA (.eqn false 1 (.tmp 8) (.cst (.v (.pointer none)))))⟩
  (.seq ⟨some 10, none, (.ofA (.mv (.tmp 9)))⟩
  (.seq ⟨some 11, some (10, false), (.ofA (.mv (.tmp 1)))⟩
  (.seq ⟨some 12, some (10, false), (.call (.cst (.fn 96 [])) [(.tmp 11)])⟩
  (.seq ⟨some 13, some (10, false), (.ofA (.un .not (.tmp 12)))⟩
  (.seq ⟨some 14, some (10, false), (.ofA (.mv (.tmp 13)))⟩
  (.seq ⟨some 15, some (14, true), (.ofA (.mv (.tmp 0)))⟩
  (.seq ⟨some 16, some (14, true), (.call (.cst (.fn 97 [])) [(.tmp 15), (.cst (.v (.int .i64 1)))])⟩
  (.seq ⟨some 17, some (10, false), (.ofA (.pick (.tmp 14) (.tmp 16) (.cst (.v (.bool false)))))⟩
  (.seq ⟨some 18, none, (.ofA (.pick (.tmp 10) (.cst (.v (.bool true))) (.tmp 17)))⟩
  .done))))))))))))
 (.cond (.tmp 18)
 (.seq (.tree (.seq ⟨some 4, none, (.ofA (.mv (.cst (.v (.int .i64 0)))))⟩
  .done))
 .ret)
 .skip))
 (.seq (.tree (.seq ⟨some 5, none, (.ofA (.mv (.cst (.v (.int .i64 0)))))⟩
  .done))
 (.seq (.seq (.tree (.seq ⟨some 19, none, (.ofA (.mv (.tmp 0)))⟩
  (.seq ⟨some 20, none, (.ofA (.mv (.tmp 1)))⟩
  (.seq ⟨some 21, none, (.call (.cst (.fn 98 [])) [(.tmp 19), (.tmp 20)])⟩
  (.seq ⟨some 22, none, (.ofA (.len (.tmp 21)))⟩
  (.seq ⟨some 23, none, (.ofA (.mv (.cst (.v (.int .i64 0)))))⟩
  .done))))))
 (.block 0 (.loop (.seq (.tree (.seq ⟨some 24, none, (.ofA (.bin .lss (.tmp 23) (.tmp 22)))⟩
  .done))
 (.seq (.cond (.tmp 24)
 .skip
 (.exit 0))
 (.seq (.block 1 (.seq (.tree (.seq ⟨some 25, none, (.ofA (.mv (.tmp 23)))⟩
  (.seq ⟨some 26, none, (.ofA (.isl 1 (.tmp 21) (.tmp 23)))⟩
  (.seq ⟨some 27, none, (.ofA (.load none (.tmp 26)))⟩
  (.seq ⟨some 6, none, (.ofA (.mv (.tmp 25)))⟩
  (.seq ⟨some 7, none, (.ofA (.mv (.tmp 27)))⟩
  .done))))))
 (.tree (.seq ⟨some 28, none, (.ofA (.mv (.tmp 5)))⟩
  (.seq ⟨some 29, none, (.ofA (.mv (.tmp 7)))⟩
  (.seq ⟨some 30, none, (.ofA (.conv .i64 (.tmp 29)))⟩
  (.seq ⟨some 31, none, (.ofA (.mv (.tmp 6)))⟩
  (.seq ⟨some 32, none, (.ofA (.bin .mul (.cst (.v (.int .i64 8))) (.tmp 31)))⟩
  (.seq ⟨some 33, none, (.ofA (.conv .u64 (.tmp 32)))⟩
  (.seq ⟨some 34, none, (.ofA (.bin .shl (.tmp 30) (.tmp 33)))⟩
  (.seq ⟨some 35, none, (.ofA (.bin .or (.tmp 28) (.tmp 34)))⟩
  (.seq ⟨some 5, none, (.ofA (.mv (.tmp 35)))⟩
  .done))))))))))))
 (.tree (.seq ⟨some 36, none, (.ofA (.bin .add (.tmp 23) (.cst (.v (.int .i64 1)))))⟩
  (.seq ⟨some 23, none, (.ofA (.mv (.tmp 36)))⟩
  .done)))))))))
 (.seq (.tree (.seq ⟨some 37, none, (.ofA (.mv (.tmp 5)))⟩
  (.seq ⟨some 4, none, (.ofA (.mv (.tmp 37)))⟩
  .done)))
 .ret)))))
def r52 : List XR := [.tmp 4]
theorem fn52 : FnX Try.prog 52 [50, 51, 52, 54, 56, 95, 97, 98, 99, 100, 101, 125, 126] 38 x52 r52 := ⟨_, Try.func52, by kernel_rfl, by kernel_rfl, by kernel_rfl, by kernel_rfl⟩
/-- What a slice reads as, over the bytes that lie behind. -/
def Rd (sl : SV) (H : Mem) (bs : List Int) : Prop :=
  (∃ (o : Nat) (B : List Int), sl = .row 1 o bs.length 1 ∧ H = [⟨true, bL B⟩] ∧ (B.drop o).take bs.length = bs ∧ o + bs.length ≤ B.length ∧ Byt B ∧ B.length ≤ 1000000) ∨ (bs = [] ∧ (sl = .emp ∨ ∃ p c, sl = .v (.slice p 0 c)))
theorem Rd.byt {sl : SV} {H : Mem} {bs : List Int} (h : Rd sl H bs) : Byt bs := by
  rcases h with ⟨o, B, _, _, e, _, hb, _⟩ | ⟨rfl, _⟩
  · rw [← e]; exact (hb.drop o).take _
  · intro x hx; simp at hx
theorem Rd.len {sl : SV} {H : Mem} {bs : List Int} (h : Rd sl H bs) : bs.length ≤ 1000000 := by
  rcases h with ⟨o, B, _, _, e, h2, hb, h3⟩ | ⟨rfl, _⟩
  · omega
  · simp
theorem Rd.nil {H : Mem} : Rd (.v (.slice none 0 0)) H [] := .inr ⟨rfl, .inr ⟨_, _, rfl⟩⟩
abbrev rdO (sl : SV) (e : Int) : SObj := ⟨true, [sl, .v (.int .i64 e)]⟩
def c97 [Inp] : Trans := fun args m k => ∃ (sl : SV) (e c : Int) (H : Mem), args = [.ptr 0 0, .v (.int .i64 c)] ∧ m = rdO sl e :: H ∧ c ≠ 0 ∧ k (.v (.bool true)) (rdO sl (if e = 0 then c else e) :: H)
theorem c97_ok [Inp] : Contract Try.prog 97 false c97 := by
  refine .full fn97 (G := fun _ => []) (fun J => @g0 J _) _ fun args m k h => ?_
  unfold c97 at h
  obtain ⟨sl, e, c, H, rfl, rfl, hc, hk⟩ := h
  refine ⟨by simp, fun J hJ hA => ?_⟩
  by_cases he : e = 0
  · subst he
    rw [if_pos rfl] at hk
    have hc2 : (c != 0) = true := by simpa using hc
    have h00 : ((0 : Int) == 0) = true := rfl
    simp (maxSteps := 2000000) -implicitDefEqProofs only [↓x97, ↓r97, hc2, h00, s_alt, s_alt20, s_alt2t, s_alt2f, ↓s_loopi, ↓v_pq, ↓PRE, POST, CORE, Nat.reduceDiv, Nat.reduceMod, Int.reduceLT, Int.reduceLE, Int.reduceToNat, Int.reduceAdd, ↓reduceIte, Nat.reduceEqDiff, Nat.reduceAdd, Nat.reduceMul, Nat.reduceSub, Nat.reduceLeDiff, Nat.reduceLT, reduceCtorEq, if_true, eq_self, forall_const, implies_true]
    exact hk
  · rw [if_neg he] at hk
    have he2 : (e == 0) = false := by simpa using he
    have he3 : (e != 0) = true := by simpa using he
    simp (maxSteps := 2000000) -implicitDefEqProofs only [↓x97, ↓r97, he2, he3, s_alt, s_alt20, s_alt2t, s_alt2f, ↓s_loopi, ↓v_pq, ↓PRE, POST, CORE, Nat.reduceDiv, Nat.reduceMod, Int.reduceLT, Int.reduceLE, Int.reduceToNat, Int.reduceAdd, ↓reduceIte, Nat.reduceEqDiff, Nat.reduceAdd, Nat.reduceMul, Nat.reduceSub, Nat.reduceLeDiff, Nat.reduceLT, reduceCtorEq, if_true, eq_self, forall_const, implies_true]
    exact hk
def c98 [Inp] : Trans := fun args m k => ∃ (sl : SV) (e : Int) (n : Nat) (H : Mem) (bs : List Int), args = [.ptr 0 0, .v (.int .i64 n)] ∧ m = rdO sl e :: H ∧ Rd sl H bs ∧
  ∀ t sl2, Rd t H (takeR n (bs, e)).1 → Rd sl2 H (takeR n (bs, e)).2.1 → k t (rdO sl2 (takeR n (bs, e)).2.2 :: H)
def G98 [Inp] : List CEntry := [⟨97, false, c97⟩]
theorem g98 [Inp] : GOk Try.prog G98 := GOk.cons c97_ok (g0 _)
theorem c98_ok [Inp] : Contract Try.prog 98 false c98 := by
  refine .full fn98 (G := fun J => @G98 J) (fun J => @g98 J) _ fun args m k h => ?_
  unfold c98 at h
  obtain ⟨sl, e, n, H, bs, rfl, rfl, hr, hk⟩ := h
  refine ⟨by simp, fun J hJ hA => ?_⟩
  by_cases he : e = 0
  · subst he
    by_cases hn : bs.length < n
    · have hk := hk (.v (.slice none 0 0)) sl
      rw [show takeR n (bs, 0) = ([], (bs, 2)) by unfold takeR; simp [hn]] at hk
      have hk := hk Rd.nil hr
      have hl := hr.len
      have d1 : decide ((bs.length : Int) < (n : Int)) = true := decide_eq_true (by omega)
      have h00 : ((0 : Int) != 0) = false := rfl
      rcases hr with ⟨o, B, rfl, rfl, e1, e2, e3, e4⟩ | ⟨rfl, rfl | ⟨p, c, rfl⟩⟩
      · simp (maxSteps := 2000000) -implicitDefEqProofs only [↓x98, ↓r98, ↓G98, ↓c97, d1, h00, s_alt, s_alt20, s_alt2t, s_alt2f, ↓s_loopi, ↓v_pq, ↓PRE, POST, CORE, Nat.reduceDiv, Nat.reduceMod, Int.reduceLT, Int.reduceLE, Int.reduceToNat, Int.reduceAdd, ↓reduceIte, Nat.reduceEqDiff, Nat.reduceAdd, Nat.reduceMul, Nat.reduceSub, Nat.reduceLeDiff, Nat.reduceLT, reduceCtorEq, if_true, eq_self, forall_const, implies_true]
        exact ⟨_, _, _, _, rfl, rfl, by decide, hk⟩
      · have d1 : decide ((0 : Int) < (n : Int)) = true := decide_eq_true (by simp at hn; omega)
        simp (maxSteps := 2000000) -implicitDefEqProofs only [↓x98, ↓r98, ↓G98, ↓c97, d1, h00, s_alt, s_alt20, s_alt2t, s_alt2f, ↓s_loopi, ↓v_pq, ↓PRE, POST, CORE, Nat.reduceDiv, Nat.reduceMod, Int.reduceLT, Int.reduceLE, Int.reduceToNat, Int.reduceAdd, ↓reduceIte, Nat.reduceEqDiff, Nat.reduceAdd, Nat.reduceMul, Nat.reduceSub, Nat.reduceLeDiff, Nat.reduceLT, reduceCtorEq, if_true, eq_self, forall_const, implies_true]
        exact ⟨_, _, _, _, rfl, rfl, by decide, hk⟩
      · have d1 : decide ((0 : Int) < (n : Int)) = true := decide_eq_true (by simp at hn; omega)
        simp (maxSteps := 2000000) -implicitDefEqProofs only [↓x98, ↓r98, ↓G98, ↓c97, d1, h00, s_alt, s_alt20, s_alt2t, s_alt2f, ↓s_loopi, ↓v_pq, ↓PRE, POST, CORE, Nat.reduceDiv, Nat.reduceMod, Int.reduceLT, Int.reduceLE, Int.reduceToNat, Int.reduceAdd, ↓reduceIte, Nat.reduceEqDiff, Nat.reduceAdd, Nat.reduceMul, Nat.reduceSub, Nat.reduceLeDiff, Nat.reduceLT, reduceCtorEq, if_true, eq_self, forall_const, implies_true]
        exact ⟨_, _, _, _, rfl, rfl, by decide, hk⟩
    · rw [show takeR n (bs, 0) = (bs.take n, (bs.drop n, 0)) by unfold takeR; simp [hn]] at hk
      have hl := hr.len
      have d1 : decide ((bs.length : Int) < (n : Int)) = false := decide_eq_false (by omega)
      have h00 : ((0 : Int) != 0) = false := rfl
      have d2 : n ≤ bs.length := by omega
      rcases hr with ⟨o, B, rfl, rfl, e1, e2, e3, e4⟩ | ⟨rfl, rfl | ⟨p, c, rfl⟩⟩
      · have lt : (bs.take n).length = n := by simp; omega
        have ld : (bs.drop n).length = bs.length - n := by simp
        have k1 : Rd (.row 1 o n 1) [⟨true, bL B⟩] (bs.take n) := .inl ⟨o, B, by rw [lt], rfl, by rw [lt, ← e1, List.take_take]; simp [e1]; omega, by omega, e3, e4⟩
        simp (maxSteps := 2000000) -implicitDefEqProofs only [↓x98, ↓r98, ↓G98, ↓c97, d1, d2, h00, s_alt, s_alt20, s_alt2t, s_alt2f, ↓s_loopi, ↓v_pq, ↓PRE, POST, CORE, Nat.reduceDiv, Nat.reduceMod, Int.reduceLT, Int.reduceLE, Int.reduceToNat, Int.reduceAdd, ↓reduceIte, Nat.reduceEqDiff, Nat.reduceAdd, Nat.reduceMul, Nat.reduceSub, Nat.reduceLeDiff, Nat.reduceLT, reduceCtorEq, if_true, eq_self, forall_const, implies_true]
        refine ⟨by omega, by omega, by omega, ?_⟩
        rw [if_pos (Or.inl trivial)]
        refine ⟨by omega, ?_⟩
        rw [Nat.sub_zero]
        split
        · rename_i h0
          have e5 : (B.drop (o + n)).take (bs.length - n) = bs.drop n := by rw [← List.drop_drop, ← List.drop_take, e1]
          exact hk _ _ k1 (.inl ⟨o + n, B, by rw [ld], rfl, by rw [ld]; exact e5, by rw [ld]; omega, e3, e4⟩)
        · rename_i h0
          have : n = bs.length := by omega
          exact hk _ _ k1 (.inr ⟨by simp [this], .inl rfl⟩)
      · have : n = 0 := by simpa using d2
        subst this
        have d1 : decide ((0 : Int) < ((0 : Nat) : Int)) = false := rfl
        simp (maxSteps := 2000000) -implicitDefEqProofs only [↓x98, ↓r98, ↓G98, ↓c97, d1, h00, Sz.v_slce, Sz.v_slc3e, s_alt, s_alt20, s_alt2t, s_alt2f, ↓s_loopi, ↓v_pq, ↓PRE, POST, CORE, Nat.reduceDiv, Nat.reduceMod, Int.reduceLT, Int.reduceLE, Int.reduceToNat, Int.reduceAdd, ↓reduceIte, Nat.reduceEqDiff, Nat.reduceAdd, Nat.reduceMul, Nat.reduceSub, Nat.reduceLeDiff, Nat.reduceLT, reduceCtorEq, if_true, eq_self, forall_const, implies_true]
        exact hk _ _ (.inr ⟨rfl, .inl rfl⟩) (.inr ⟨rfl, .inl rfl⟩)
      · have : n = 0 := by simpa using d2
        subst this
        have d1 : decide ((0 : Int) < ((0 : Nat) : Int)) = false := rfl
        simp (maxSteps := 2000000) -implicitDefEqProofs only [↓x98, ↓r98, ↓G98, ↓c97, d1, h00, s_alt, s_alt20, s_alt2t, s_alt2f, ↓s_loopi, ↓v_pq, ↓PRE, POST, CORE, Nat.reduceDiv, Nat.reduceMod, Int.reduceLT, Int.reduceLE, Int.reduceToNat, Int.reduceAdd, ↓reduceIte, Nat.reduceEqDiff, Nat.reduceAdd, Nat.reduceMul, Nat.reduceSub, Nat.reduceLeDiff, Nat.reduceLT, reduceCtorEq, if_true, eq_self, forall_const, implies_true]
        exact ⟨by omega, by omega, hk _ _ (.inr ⟨rfl, .inr ⟨_, _, rfl⟩⟩) (.inr ⟨rfl, .inr ⟨_, _, rfl⟩⟩)⟩
  · have hk := hk (.v (.slice none 0 0)) sl
    rw [show takeR n (bs, e) = ([], (bs, e)) by unfold takeR; simp [he]] at hk
    have hk := hk Rd.nil hr
    have he3 : (e != 0) = true := by simpa using he
    simp (maxSteps := 2000000) -implicitDefEqProofs only [↓x98, ↓r98, ↓G98, ↓c97, he3, s_alt, s_alt20, s_alt2t, s_alt2f, ↓s_loopi, ↓v_pq, ↓PRE, POST, CORE, Nat.reduceDiv, Nat.reduceMod, Int.reduceLT, Int.reduceLE, Int.reduceToNat, Int.reduceAdd, ↓reduceIte, Nat.reduceEqDiff, Nat.reduceAdd, Nat.reduceMul, Nat.reduceSub, Nat.reduceLeDiff, Nat.reduceLT, reduceCtorEq, if_true, eq_self, forall_const, implies_true]
    exact hk
theorem takeR_len {n : Nat} {s : RS} : (takeR n s).1 = [] ∨ ((takeR n s).1.length = n) := by
  unfold takeR
  split
  · split
    · exact .inl rfl
    · refine .inr ?_
      simp; omega
  · exact .inl rfl
theorem w1 : IntKind.i64.wrap 1 = 1 := rfl
theorem w2 : IntKind.i64.wrap 2 = 2 := rfl
theorem w3 : IntKind.i64.wrap 3 = 3 := rfl
theorem w4 : IntKind.i64.wrap 4 = 4 := rfl
theorem v0 : IntKind.i64.wrap 0 = 0 := rfl
theorem v8 : IntKind.i64.wrap 8 = 8 := rfl
theorem v16 : IntKind.i64.wrap 16 = 16 := rfl
theorem v24 : IntKind.i64.wrap 24 = 24 := rfl
theorem u0 : IntKind.u64.wrap 0 = 0 := rfl
theorem u8 : IntKind.u64.wrap 8 = 8 := rfl
theorem u16 : IntKind.u64.wrap 16 = 16 := rfl
theorem u24 : IntKind.u64.wrap 24 = 24 := rfl
theorem w_byte {x : Int} (h : 0 ≤ x ∧ x ≤ 255) : IntKind.i64.wrap x = x := Sz.w_64 (by omega) (by omega)
theorem or_at {acc x : Int} {k : Nat} (h0 : 0 ≤ acc) (h1 : acc < 2 ^ k) (hx : 0 ≤ x ∧ x ≤ 255) (hk : k ≤ 24) :
    IntKind.i64.wrap ↑(BitVec.ofInt IntKind.i64.bits acc ||| BitVec.ofInt IntKind.i64.bits (IntKind.i64.wrap (x * 2 ^ min k IntKind.i64.bits))).toNat = acc + x * 2 ^ k := by
  obtain ⟨A, rfl⟩ := Int.eq_ofNat_of_zero_le h0
  obtain ⟨X, rfl⟩ := Int.eq_ofNat_of_zero_le hx.1
  have hA : A < 2 ^ k := by exact_mod_cast h1
  have hX : X ≤ 255 := by omega
  have hk2 : 2 ^ k ≤ 16777216 := Nat.le_trans (Nat.pow_le_pow_right (by decide) hk) (by decide)
  have hm : X * 2 ^ k ≤ 255 * 16777216 := Nat.mul_le_mul hX hk2
  have e1 : min k IntKind.i64.bits = k := Nat.min_eq_left (Nat.le_trans hk (by decide))
  have e2 : ((X : Int) * 2 ^ k) = ((X * 2 ^ k : Nat) : Int) := by simp
  have e3 : IntKind.i64.wrap ((X * 2 ^ k : Nat) : Int) = ((X * 2 ^ k : Nat) : Int) := Sz.w_64 (by omega) (by omega)
  have e4 : ∀ n : Nat, n < 18446744073709551616 → (BitVec.ofInt 64 (n : Int)).toNat = n := fun n hn => by
    rw [BitVec.ofInt_natCast, BitVec.toNat_ofNat]
    exact Nat.mod_eq_of_lt hn
  rw [e1, e2, e3]
  show IntKind.i64.wrap ↑(BitVec.ofInt 64 (A : Int) ||| BitVec.ofInt 64 ((X * 2 ^ k : Nat) : Int)).toNat = _
  rw [BitVec.toNat_or, e4 A (by omega), e4 _ (by omega)]
  have e5 : A ||| X * 2 ^ k = A + X * 2 ^ k := by
    rw [Nat.or_comm, Nat.mul_comm, ← Nat.two_pow_add_eq_or_of_lt hA, Nat.add_comm]
  rw [e5, ← Int.natCast_add]
  exact Sz.w_64 (by omega) (by omega)
def c52 [Inp] : Trans := fun args m k => ∃ (sl : SV) (e : Int) (n : Nat) (H : Mem) (bs : List Int), args = [.ptr 0 0, .v (.int .i64 n)] ∧ m = rdO sl e :: H ∧ Rd sl H bs ∧ (n = 1 ∨ n = 2 ∨ n = 4) ∧
  ∀ sl2, Rd sl2 H (numR n (bs, e)).2.1 → k (.v (.int .i64 (numR n (bs, e)).1)) (rdO sl2 (numR n (bs, e)).2.2 :: H)
def G52 [Inp] : List CEntry := [⟨96, true, c96⟩, ⟨97, false, c97⟩, ⟨98, false, c98⟩]
theorem g52 [Inp] : GOk Try.prog G52 := GOk.cons c96_ok (GOk.cons c97_ok (GOk.cons c98_ok (g0 _)))
theorem ev52 [J : Inp] {k : SV → Mem → Prop} {sl : SV} {e : Int} {n : Nat} {H : Mem} {bs : List Int} (hr : Rd sl H bs) (hn : n = 1 ∨ n = 2 ∨ n = 4)
    (hk : ∀ sl2, Rd sl2 H (numR n (bs, e)).2.1 → k (.v (.int .i64 (numR n (bs, e)).1)) (rdO sl2 (numR n (bs, e)).2.2 :: H)) :
    evX Try.prog 38 [50, 51, 52, 54, 56, 95, 97, 98, 99, 100, 101, 125, 126] G52 x52 (slots (argSlots 0 [.ptr 0 0, .v (.int .i64 n)])) (rdO sl e :: H) (fun ex e m' => EndsX ex ∧ evR r52 e m' fun s => k s m') := by
  have hs : sizedF (n : Int) = true := by rcases hn with rfl | rfl | rfl <;> rfl
  unfold numR at hk
  simp (maxSteps := 2000000) -implicitDefEqProofs only [↓x52, ↓r52, ↓G52, ↓c96, ↓c97, ↓c98, hs, s_alt, s_alt20, s_alt2t, s_alt2f, ↓s_loopi, ↓v_pq, ↓PRE, POST, CORE, Nat.reduceDiv, Nat.reduceMod, Int.reduceLT, Int.reduceLE, Int.reduceToNat, Int.reduceAdd, ↓reduceIte, Nat.reduceEqDiff, Nat.reduceAdd, Nat.reduceMul, Nat.reduceSub, Nat.reduceLeDiff, Nat.reduceLT, reduceCtorEq, if_true, eq_self, forall_const, implies_true]
  refine ⟨sl, e, n, H, bs, rfl, rfl, hr, fun t sl2 ht h2 => ?_⟩
  have hk := hk sl2 h2
  have hle := takeR_len (n := n) (s := (bs, e))
  generalize (takeR n (bs, e)).1 = w at *
  generalize (takeR n (bs, e)).2 = r at *
  by_cases hw : w = []
  · subst hw
    rcases ht with ⟨o, B, rfl, rfl, e1, e2, e3, e4⟩ | ⟨_, rfl | ⟨p, c, rfl⟩⟩ <;> simp (maxSteps := 2000000) -implicitDefEqProofs only [s_alt, s_alt20, s_alt2t, s_alt2f, ↓s_loopi, ↓v_pq, ↓PRE, POST, CORE, Nat.reduceDiv, Nat.reduceMod, Int.reduceLT, Int.reduceLE, Int.reduceToNat, Int.reduceAdd, ↓reduceIte, Nat.reduceEqDiff, Nat.reduceAdd, Nat.reduceMul, Nat.reduceSub, Nat.reduceLeDiff, Nat.reduceLT, reduceCtorEq, if_true, eq_self, forall_const, implies_true]
    all_goals refine TXi_of (TX_unroll (@g52 J) 1 ?_)
    all_goals simp (maxSteps := 2000000) -implicitDefEqProofs only [↓G52, s_alt, s_alt20, s_alt2t, s_alt2f, ↓s_loopi, ↓v_pq, ↓PRE, POST, CORE, Nat.reduceDiv, Nat.reduceMod, Int.reduceLT, Int.reduceLE, Int.reduceToNat, Int.reduceAdd, ↓reduceIte, Nat.reduceEqDiff, Nat.reduceAdd, Nat.reduceMul, Nat.reduceSub, Nat.reduceLeDiff, Nat.reduceLT, reduceCtorEq, if_true, eq_self, forall_const, implies_true]
    all_goals exact hk
  · have hle : w.length = n := hle.resolve_left hw
    rcases ht with ⟨o, B, rfl, rfl, e1, e2, e3, e4⟩ | ⟨h0, _⟩
    case inr => exact (hw h0).elim
    have hg : ∀ (i : Nat) (x : Int), w[i]? = some x → (bL B)[o + i]? = some (.v (.int .u8 x)) := fun i x hx => by
      rw [← e1, List.getElem?_take] at hx
      split at hx
      · rw [List.getElem?_drop] at hx
        simp [bL, hx]
      · cases hx
    have hbw : Byt w := by rw [← e1]; exact (e3.drop o).take _
    rcases hn with rfl | rfl | rfl
    · match w, hle with
      | [a], _ =>
        have q0 := hg 0 a rfl
        rw [Nat.add_zero] at q0
        have ha := hbw a (by simp)
        have wa := w_byte ha
        simp (maxSteps := 2000000) -implicitDefEqProofs only [s_alt, s_alt20, s_alt2t, s_alt2f, ↓s_loopi, ↓v_pq, ↓PRE, POST, CORE, Nat.reduceDiv, Nat.reduceMod, Int.reduceLT, Int.reduceLE, Int.reduceToNat, Int.reduceAdd, ↓reduceIte, Nat.reduceEqDiff, Nat.reduceAdd, Nat.reduceMul, Nat.reduceSub, Nat.reduceLeDiff, Nat.reduceLT, reduceCtorEq, if_true, eq_self, forall_const, implies_true]
        refine TXi_of (TX_unroll (@g52 J) 2 ?_)
        simp (maxSteps := 2000000) -implicitDefEqProofs only [↓G52, Int.reduceMul, q0, w1, v0, v8, v16, v24, u0, u8, u16, u24, wa, s_alt, s_alt20, s_alt2t, s_alt2f, ↓s_loopi, ↓v_pq, ↓PRE, POST, CORE, Nat.reduceDiv, Nat.reduceMod, Int.reduceLT, Int.reduceLE, Int.reduceToNat, Int.reduceAdd, ↓reduceIte, Nat.reduceEqDiff, Nat.reduceAdd, Nat.reduceMul, Nat.reduceSub, Nat.reduceLeDiff, Nat.reduceLT, reduceCtorEq, if_true, eq_self, forall_const, implies_true]
        rw [or_at (k := 0) (by omega) (by omega) ha (by omega)]
        simpa [leV] using hk
    · match w, hle with
      | [a, b], _ =>
        have q0 := hg 0 a rfl
        rw [Nat.add_zero] at q0
        have q1 := hg 1 b rfl
        have ha := hbw a (by simp)
        have wa := w_byte ha
        have hb := hbw b (by simp)
        have wb := w_byte hb
        simp (maxSteps := 2000000) -implicitDefEqProofs only [s_alt, s_alt20, s_alt2t, s_alt2f, ↓s_loopi, ↓v_pq, ↓PRE, POST, CORE, Nat.reduceDiv, Nat.reduceMod, Int.reduceLT, Int.reduceLE, Int.reduceToNat, Int.reduceAdd, ↓reduceIte, Nat.reduceEqDiff, Nat.reduceAdd, Nat.reduceMul, Nat.reduceSub, Nat.reduceLeDiff, Nat.reduceLT, reduceCtorEq, if_true, eq_self, forall_const, implies_true]
        refine TXi_of (TX_unroll (@g52 J) 3 ?_)
        simp (maxSteps := 2000000) -implicitDefEqProofs only [↓G52, Int.reduceMul, q0, q1, w1, w2, w3, w4, v0, v8, v16, v24, u0, u8, u16, u24, wa, wb, s_alt, s_alt20, s_alt2t, s_alt2f, ↓s_loopi, ↓v_pq, ↓PRE, POST, CORE, Nat.reduceDiv, Nat.reduceMod, Int.reduceLT, Int.reduceLE, Int.reduceToNat, Int.reduceAdd, ↓reduceIte, Nat.reduceEqDiff, Nat.reduceAdd, Nat.reduceMul, Nat.reduceSub, Nat.reduceLeDiff, Nat.reduceLT, reduceCtorEq, if_true, eq_self, forall_const, implies_true]
        rw [or_at (k := 0) (by omega) (by omega) ha (by omega), or_at (k := 8) (by omega) (by omega) hb (by omega)]
        simpa [leV, Int.mul_comm] using hk
    · match w, hle with
      | [a, b, c, d], _ =>
        have q0 := hg 0 a rfl
        rw [Nat.add_zero] at q0
        have q1 := hg 1 b rfl
        have q2 := hg 2 c rfl
        have q3 := hg 3 d rfl
        have ha := hbw a (by simp)
        have hb := hbw b (by simp)
        have hc := hbw c (by simp)
        have hd := hbw d (by simp)
        have wa := w_byte ha
        have wb := w_byte hb
        have wc := w_byte hc
        have wd := w_byte hd
        simp (maxSteps := 2000000) -implicitDefEqProofs only [s_alt, s_alt20, s_alt2t, s_alt2f, ↓s_loopi, ↓v_pq, ↓PRE, POST, CORE, Nat.reduceDiv, Nat.reduceMod, Int.reduceLT, Int.reduceLE, Int.reduceToNat, Int.reduceAdd, ↓reduceIte, Nat.reduceEqDiff, Nat.reduceAdd, Nat.reduceMul, Nat.reduceSub, Nat.reduceLeDiff, Nat.reduceLT, reduceCtorEq, if_true, eq_self, forall_const, implies_true]
        refine TXi_of (TX_unroll (@g52 J) 5 ?_)
        simp (maxSteps := 2000000) -implicitDefEqProofs only [↓G52, Int.reduceMul, q0, q1, q2, q3, w1, w2, w3, w4, v0, v8, v16, v24, u0, u8, u16, u24, wa, wb, wc, wd, s_alt, s_alt20, s_alt2t, s_alt2f, ↓s_loopi, ↓v_pq, ↓PRE, POST, CORE, Nat.reduceDiv, Nat.reduceMod, Int.reduceLT, Int.reduceLE, Int.reduceToNat, Int.reduceAdd, ↓reduceIte, Nat.reduceEqDiff, Nat.reduceAdd, Nat.reduceMul, Nat.reduceSub, Nat.reduceLeDiff, Nat.reduceLT, reduceCtorEq, if_true, eq_self, forall_const, implies_true]
        rw [or_at (k := 0) (by omega) (by omega) ha (by omega), or_at (k := 8) (by omega) (by omega) hb (by omega), or_at (k := 16) (by omega) (by omega) hc (by omega), or_at (k := 24) (by omega) (by omega) hd (by omega)]
        have e9 : (0 + a * 2 ^ 0 + b * 2 ^ 8 + c * 2 ^ 16 + d * 2 ^ 24 : Int) = leV [a, b, c, d] := by simp only [leV]; omega
        rw [e9]
        exact hk
theorem c52_ok [Inp] : Contract Try.prog 52 false c52 := by
  refine .full fn52 (G := fun J => @G52 J) (fun J => @g52 J) _ fun args m k h => ?_
  unfold c52 at h
  obtain ⟨sl, e, n, H, bs, rfl, rfl, hr, hn, hk⟩ := h
  exact ⟨by simp, fun J hJ hA => @ev52 J _ _ _ _ _ _ hr hn hk⟩
end Go.Proofs.Ytibefgdjijmncaa
end
section
namespace Go.Proofs.Ytibefgdjijmncaa
open Go.RowKit Sz
set_option maxHeartbeats 4000000
set_option maxRecDepth 20000
def RdQ (s : RS) : List SV → Mem → Prop := fun h H => ∃ sl, h = [sl, .v (.int .i64 s.2)] ∧ Rd sl H s.1 ∧ (H = [] ∨ ∃ B, H = [⟨true, bL B⟩])
def rH (s : RS) : SObj := absO (hide 0 (RdQ s)) []
theorem knowsL_v {I J : Inp} {m : Mem} : ∀ {us vs : List Value}, KnowsL I J m (us.map .v) vs → vs = us
  | [], vs, h => h
  | u :: us, vs, h => by
    obtain ⟨w, t, rfl, hk, ht⟩ := h
    rw [hk.1 _ rfl, knowsL_v ht]
theorem rd_le {sl : SV} {H : Mem} {bs : List Int} (h : Rd sl H bs) {g : List Nat} (hg : H ≠ [] → g[1]? = some 1) : Le g sl sl := by
  rcases h with ⟨o, B, rfl, rfl, _⟩ | ⟨_, rfl | ⟨p, c, rfl⟩⟩
  · simp only [Le, hg (by simp)]
  · simp only [Le]
  · simp only [Le]
theorem meth_rd [I : Inp] {f : FuncId} {eff : List FuncId} {N : Nat} {x : XC} {rs : List XR} (hF : FnX Try.prog f eff N x rs) {G : Inp → List CEntry} (hG : ∀ J, @GOk J Try.prog (G J)) (tr : Trans)
    (body : ∀ args m k, tr args m k → ∃ (j : Nat) (us : List Value) (s : RS), args = .ptr j 0 :: us.map .v ∧ m[j]? = some (rH s) ∧ us.length + 1 ≤ N ∧
      ∀ (J : Inp) (sl : SV) (H : Mem), Rd sl H s.1 → ∀ Q : SV → Mem → Prop, (∀ (v : Value) (sl2 : SV) (s2 : RS), Rd sl2 H s2.1 → k (.v v) (m.set j (rH s2)) → Q (.v v) (rdO sl2 s2.2 :: H)) →
        @evX J Try.prog N eff (G J) x (slots (argSlots 0 (.ptr 0 0 :: us.map SV.of))) (rdO sl s.2 :: H) (fun ex e m' => EndsX ex ∧ evR rs e m' fun v => Q v m')) : Contract Try.prog f false tr := by
  refine .methA hF hG _ fun args m k h => ?_
  obtain ⟨j, us, s, rfl, hm, hl, hb⟩ := body args m k h
  refine ⟨j, 0, us.map .v, RdQ s, [], [], rfl, hm, by simp, rfl, rfl, fun i q o hq => by simp at hq, by simpa using hl, fun h H hQ J hJ vs hvs => ?_⟩
  obtain ⟨sl, rfl, hr, hH⟩ := hQ
  obtain rfl := knowsL_v hvs
  refine hb J sl H hr (fun v m' => ∃ (c : Out) (Q' : List SV → Mem → Prop) (g : List Nat), NdL g c.mem ∧ FitM g m' g c.mem ∧ @KeepOk J g ∧ Le g (c.s.up (opM c.h c.os c.H).length) v ∧
          c.os.length = 0 ∧ (∀ o ∈ c.os, o.ok (0 + 1)) ∧ Q' c.h (c.H ++ c.X.map fun _ => ⟨false, []⟩) ∧ (∀ o ∈ c.H, o.own = true ∨ o.cells = []) ∧ (∀ o ∈ c.X, o.own = true) ∧
          k (c.s.up m.length) (putL m [j] (absO (hide 0 Q') [] :: c.os.map (RO.out [j])) ++ c.X.map (SObj.up m.length))) fun v sl2 s2 h2 hk => ?_
  have hkp : ∀ t, @KeepOk J (0 :: t) := fun t q hq => by
    rw [hJ] at hq
    obtain rfl : q = 0 := by omega
    rfl
  rcases hH with rfl | ⟨B, rfl⟩
  · refine ⟨⟨[sl2, .v (.int .i64 s2.2)], [], [], [], .v v⟩, RdQ s2, [0], ?_, ?_, hkp _, ?_, rfl, by simp, ⟨sl2, rfl, h2, .inl rfl⟩, by simp, by simp, ?_⟩
    · simp [NdL, NdA, Out.mem, opM]
    · simp [FitM, ObLe, LeL, Le, Out.mem, opM, rd_le h2]
    · simp [SV.up, Le]
    · simpa [SV.up, putL, rH] using hk
  · refine ⟨⟨[sl2, .v (.int .i64 s2.2)], [], [⟨true, bL B⟩], [], .v v⟩, RdQ s2, [0, 1], ?_, ?_, hkp _, ?_, rfl, by simp, ⟨sl2, rfl, h2, .inr ⟨B, rfl⟩⟩, by simp, by simp, ?_⟩
    · simp [NdL, NdA, Out.mem, opM]
    · have := rd_le h2 (g := [0, 1]) (fun _ => rfl)
      simp [FitM, ObLe, LeL, Le, Out.mem, opM, this, bL_le]
    · simp [SV.up, Le]
    · simpa [SV.up, putL, rH] using hk
def h52 [Inp] : Trans := fun args m k => ∃ (j n : Nat) (s : RS), args = [.ptr j 0, .v (.int .i64 n)] ∧ m[j]? = some (rH s) ∧ (n = 1 ∨ n = 2 ∨ n = 4) ∧ k (.v (.int .i64 (numR n s).1)) (m.set j (rH (numR n s).2))
theorem h52_ok [Inp] : Contract Try.prog 52 false h52 := by
  refine meth_rd fn52 (G := fun J => @G52 J) (fun J => @g52 J) _ fun args m k h => ?_
  unfold h52 at h
  obtain ⟨j, n, s, rfl, hm, hn, hk⟩ := h
  refine ⟨j, [.int .i64 n], s, rfl, hm, by simp, fun J sl H hr Q hQ => ?_⟩
  exact @ev52 J _ _ _ _ _ _ hr hn fun sl2 h2 => hQ _ sl2 (numR n s).2 h2 hk
-- (*almshouse/word.Reader).Text (2 parameters)
def x126 : XC := (.seq (.tree (.seq ⟨some 4, none, (.ofA (.mv (.cst (.v (.string ⟨#[]⟩)))))⟩
  .done))
 (.seq (.tree (.seq ⟨some 6, none, (.ofA (.mv (.tmp 0)))⟩
  (.seq ⟨some 7, none, (.call (.cst (.fn 52 [])) [(.tmp 6), (.cst (.v (.int .i64 2)))])⟩
  (.seq ⟨some 5, none, (.ofA (.mv (.tmp 7)))⟩
  .done))))
 (.seq (.seq (.tree (.seq ⟨some 8, none, (.ofA (.mv (.tmp 0)))⟩
  (.seq ⟨some 9, none, (.ofA (.eqn false 1 (.tmp 8) (.cst (.v (.pointer none)))))⟩
  (.seq ⟨some 10, none, (.ofA (.mv (.tmp 9)))⟩
  (.seq ⟨some 11, some (10, false), (.ofA (.mv (.tmp 0)))⟩
  (.seq ⟨some 12, some (10, false), (.ofA (.nilc (.tmp 11)))⟩
  (.seq ⟨some 13, some (10, false), (.ofA (.faddr 1 (.tmp 12)))⟩
  (.seq ⟨some 14, some (10, false), (.ofA (.load none (.tmp 13)))⟩
  (.seq ⟨some 15, some (10, false), (.ofA (.bin .neq (.tmp 14) (.cst (.v (.int .i64 0)))))⟩
  (.seq ⟨some 16, none, (.ofA (.pick (.tmp 10) (.cst (.v (.bool true))) (.tmp 15)))⟩
  (.seq ⟨some 17, none, (.ofA (.mv (.tmp 16)))⟩
  (.seq ⟨some 18, some (17, false), (.ofA (.mv (.tmp 5)))⟩
  (.seq ⟨some 19, some (17, false), (.ofA (.mv (.tmp 1)))⟩
  (.seq ⟨some 20, some (17, false), (.ofA (.bin .gtr (.tmp 18) (.tmp 19)))⟩
  (.seq ⟨some 21, some (17, false), (.ofA (.mv (.tmp 20)))⟩
  (.seq ⟨some 22, some (21, true), (.ofA (.mv (.tmp 0)))⟩
  (.seq ⟨some 23, some (21, true), (.call (.cst (.fn 97 [])) [(.tmp 22), (.cst (.v (.int .i64 3)))])⟩
  (.seq ⟨some 24, some (17, false), (.ofA (.pick (.tmp 21) (.tmp 23) (.cst (.v (.bool false)))))⟩
  (.seq ⟨some 25, none, (.ofA (.pick (.tmp 17) (.cst (.v (.bool true))) (.tmp 24)))⟩
  .done)))))))))))))))))))
 (.cond (.tmp 25)
 (.seq (.tree (.seq ⟨some 4, none, (.ofA (.mv (.cst (.v (.string ⟨#[]⟩)))))⟩
  .done))
 .ret)
 .skip))
 (.seq (.tree (.seq ⟨some 26, none, (.ofA (.mv (.tmp 0)))⟩
  (.seq ⟨some 27, none, (.ofA (.mv (.tmp 5)))⟩
  (.seq ⟨some 28, none, (.call (.cst (.fn 98 [])) [(.tmp 26), (.tmp 27)])⟩
  (.seq ⟨some 29, none, (.ofA (.b2s (.tmp 28)))⟩
  (.seq ⟨some 4, none, (.ofA (.mv (.tmp 29)))⟩
  .done))))))
 .ret))))
def r126 : List XR := [.tmp 4]
theorem fn126 : FnX Try.prog 126 [50, 51, 52, 54, 56, 95, 97, 98, 99, 100, 101, 125, 126] 30 x126 r126 := ⟨_, Try.func126, by kernel_rfl, by kernel_rfl, by kernel_rfl, by kernel_rfl⟩
-- (*almshouse/word.Reader).Done (1 parameters)
def x95 : XC := (.seq (.tree (.seq ⟨some 2, none, (.ofA (.mv (.cst (.v (.int .i64 0)))))⟩
  .done))
 (.seq (.seq (.tree (.seq ⟨some 3, none, (.ofA (.mv (.tmp 0)))⟩
  (.seq ⟨some 4, none, (.ofA (.eqn false 1 (.tmp 3) (.cst (.v (.pointer none)))))⟩
  .done)))
 (.cond (.tmp 4)
 (.seq (.tree (.seq ⟨some 2, none, (.ofA (.mv (.cst (.v (.int .i64 1)))))⟩
  .done))
 .ret)
 .skip))
 (.seq (.seq (.tree (.seq ⟨some 5, none, (.ofA (.mv (.tmp 0)))⟩
  (.seq ⟨some 6, none, (.ofA (.nilc (.tmp 5)))⟩
  (.seq ⟨some 7, none, (.ofA (.faddr 0 (.tmp 6)))⟩
  (.seq ⟨some 8, none, (.ofA (.load none (.tmp 7)))⟩
  (.seq ⟨some 9, none, (.ofA (.len (.tmp 8)))⟩
  (.seq ⟨some 10, none, (.ofA (.bin .gtr (.tmp 9) (.cst (.v (.int .i64 0)))))⟩
  .done)))))))
 (.cond (.tmp 10)
 (.tree (.seq ⟨some 11, none, (.ofA (.mv (.tmp 0)))⟩
  (.seq ⟨some 12, none, (.call (.cst (.fn 97 [])) [(.tmp 11), (.cst (.v (.int .i64 2)))])⟩
  .done)))
 .skip))
 (.seq (.tree (.seq ⟨some 13, none, (.ofA (.mv (.tmp 0)))⟩
  (.seq ⟨some 14, none, (.ofA (.nilc (.tmp 13)))⟩
  (.seq ⟨some 15, none, (.ofA (.faddr 1 (.tmp 14)))⟩
  (.seq ⟨some 16, none, (.ofA (.load none (.tmp 15)))⟩
  (.seq ⟨some 2, none, (.ofA (.mv (.tmp 16)))⟩
  .done))))))
 .ret))))
def r95 : List XR := [.tmp 2]
theorem fn95 : FnX Try.prog 95 [50, 51, 52, 54, 56, 95, 97, 98, 99, 100, 101, 125, 126] 17 x95 r95 := ⟨_, Try.func95, by kernel_rfl, by kernel_rfl, by kernel_rfl, by kernel_rfl⟩
-- (*almshouse/word.Reader).Left (1 parameters)
def x124 : XC := (.seq (.tree (.seq ⟨some 2, none, (.ofA (.mv (.cst (.v (.int .i64 0)))))⟩
  .done))
 (.seq (.seq (.tree (.seq ⟨some 3, none, (.ofA (.mv (.tmp 0)))⟩
  (.seq ⟨some 4, none, (.ofA (.eqn false 1 (.tmp 3) (.cst (.v (.pointer none)))))⟩
  .done)))
 (.cond (.tmp 4)
 (.seq (.tree (.seq ⟨some 2, none, (.ofA (.mv (.cst (.v (.int .i64 0)))))⟩
  .done))
 .ret)
 .skip))
 (.seq (.tree (.seq ⟨some 5, none, (.ofA (.mv (.tmp 0)))⟩
  (.seq ⟨some 6, none, (.ofA (.nilc (.tmp 5)))⟩
  (.seq ⟨some 7, none, (.ofA (.faddr 0 (.tmp 6)))⟩
  (.seq ⟨some 8, none, (.ofA (.load none (.tmp 7)))⟩
  (.seq ⟨some 9, none, (.ofA (.len (.tmp 8)))⟩
  (.seq ⟨some 2, none, (.ofA (.mv (.tmp 9)))⟩
  .done)))))))
 .ret)))
def r124 : List XR := [.tmp 2]
theorem fn124 : FnX Try.prog 124 [50, 51, 52, 54, 56, 95, 97, 98, 99, 100, 101, 125, 126] 10 x124 r124 := ⟨_, Try.func124, by kernel_rfl, by kernel_rfl, by kernel_rfl, by kernel_rfl⟩
-- (*almshouse/word.Reader).Flag (1 parameters)
def x100 : XC := (.seq (.tree (.seq ⟨some 2, none, (.ofA (.mv (.cst (.v (.bool false)))))⟩
  .done))
 (.seq (.tree (.seq ⟨some 4, none, (.ofA (.mv (.tmp 0)))⟩
  (.seq ⟨some 5, none, (.call (.cst (.fn 52 [])) [(.tmp 4), (.cst (.v (.int .i64 1)))])⟩
  (.seq ⟨some 3, none, (.ofA (.mv (.tmp 5)))⟩
  .done))))
 (.seq (.seq (.tree (.seq ⟨some 6, none, (.ofA (.mv (.tmp 3)))⟩
  (.seq ⟨some 7, none, (.ofA (.bin .gtr (.tmp 6) (.cst (.v (.int .i64 1)))))⟩
  .done)))
 (.cond (.tmp 7)
 (.tree (.seq ⟨some 8, none, (.ofA (.mv (.tmp 0)))⟩
  (.seq ⟨some 9, none, (.call (.cst (.fn 97 [])) [(.tmp 8), (.cst (.v (.int .i64 2)))])⟩
  .done)))
 .skip))
 (.seq (.tree (.seq ⟨some 10, none, (.ofA (.mv (.tmp 3)))⟩
  (.seq ⟨some 11, none, (.ofA (.bin .eql (.tmp 10) (.cst (.v (.int .i64 1)))))⟩
  (.seq ⟨some 2, none, (.ofA (.mv (.tmp 11)))⟩
  .done))))
 .ret))))
def r100 : List XR := [.tmp 2]
theorem fn100 : FnX Try.prog 100 [50, 51, 52, 54, 56, 95, 97, 98, 99, 100, 101, 125, 126] 12 x100 r100 := ⟨_, Try.func100, by kernel_rfl, by kernel_rfl, by kernel_rfl, by kernel_rfl⟩
theorem numR_byte {s : RS} (hb : Byt s.1) : 0 ≤ (numR 1 s).1 ∧ (numR 1 s).1 ≤ 255 := by
  unfold numR takeR
  split
  · split
    · simp [leV]
    · rename_i h0 h1
      have h2 := leV_bound (hb.take 1)
      have : (s.1.take 1).length ≤ 1 := by simp; omega
      have : (256 : Int) ^ (s.1.take 1).length ≤ 256 ^ 1 := by
        rcases Nat.lt_or_ge (s.1.take 1).length 1 with h | h
        · rw [show (s.1.take 1).length = 0 by omega]; decide
        · rw [show (s.1.take 1).length = 1 by omega]; decide
      show 0 ≤ leV (s.1.take 1) ∧ leV (s.1.take 1) ≤ 255
      omega
  · simp [leV]
def G100 [Inp] : List CEntry := [⟨97, false, c97⟩, ⟨52, false, c52⟩]
theorem g100 [Inp] : GOk Try.prog G100 := GOk.cons c97_ok (GOk.cons c52_ok (g0 _))
def h100 [Inp] : Trans := fun args m k => ∃ (j : Nat) (s : RS), args = [.ptr j 0] ∧ m[j]? = some (rH s) ∧ k (.v (.bool (flagR s).1)) (m.set j (rH (flagR s).2))
theorem h100_ok [Inp] : Contract Try.prog 100 false h100 := by
  refine meth_rd fn100 (G := fun J => @G100 J) (fun J => @g100 J) _ fun args m k h => ?_
  unfold h100 at h
  obtain ⟨j, s, rfl, hm, hk⟩ := h
  refine ⟨j, [], s, rfl, hm, by simp, fun J sl H hr Q hQ => ?_⟩
  obtain ⟨bs, e⟩ := s
  have hv := numR_byte (s := (bs, e)) hr.byt
  simp (maxSteps := 2000000) -implicitDefEqProofs only [↓x100, ↓r100, ↓G100, ↓c52, ↓c97, s_alt, s_alt20, s_alt2t, s_alt2f, ↓s_loopi, ↓v_pq, ↓PRE, POST, CORE, Nat.reduceDiv, Nat.reduceMod, Int.reduceLT, Int.reduceLE, Int.reduceToNat, Int.reduceAdd, ↓reduceIte, Nat.reduceEqDiff, Nat.reduceAdd, Nat.reduceMul, Nat.reduceSub, Nat.reduceLeDiff, Nat.reduceLT, reduceCtorEq, if_true, eq_self, forall_const, implies_true]
  refine ⟨sl, e, 1, H, bs, rfl, rfl, hr, by simp, fun sl2 h2 => ?_⟩
  unfold flagR at hk
  by_cases h1 : 1 < (numR 1 (bs, e)).1
  · rw [if_pos h1] at hk
    have d1 : decide (1 < (numR 1 (bs, e)).1) = true := decide_eq_true h1
    simp (maxSteps := 2000000) -implicitDefEqProofs only [↓G100, ↓c97, d1, s_alt, s_alt20, s_alt2t, s_alt2f, ↓s_loopi, ↓v_pq, ↓PRE, POST, CORE, Nat.reduceDiv, Nat.reduceMod, Int.reduceLT, Int.reduceLE, Int.reduceToNat, Int.reduceAdd, ↓reduceIte, Nat.reduceEqDiff, Nat.reduceAdd, Nat.reduceMul, Nat.reduceSub, Nat.reduceLeDiff, Nat.reduceLT, reduceCtorEq, if_true, eq_self, forall_const, implies_true]
    refine ⟨_, _, _, _, rfl, rfl, by decide, ?_⟩
    have := hQ (.bool ((numR 1 (bs, e)).1 == 1)) sl2 (failR 2 (numR 1 (bs, e)).2) ?_ hk
    · unfold failR at this
      split at this <;> rename_i he
      · rw [if_pos he]; exact this
      · rw [if_neg he]; exact this
    · unfold failR
      split <;> exact h2
  · rw [if_neg h1] at hk
    have d1 : decide (1 < (numR 1 (bs, e)).1) = false := decide_eq_false h1
    simp (maxSteps := 2000000) -implicitDefEqProofs only [↓G100, ↓c97, d1, s_alt, s_alt20, s_alt2t, s_alt2f, ↓s_loopi, ↓v_pq, ↓PRE, POST, CORE, Nat.reduceDiv, Nat.reduceMod, Int.reduceLT, Int.reduceLE, Int.reduceToNat, Int.reduceAdd, ↓reduceIte, Nat.reduceEqDiff, Nat.reduceAdd, Nat.reduceMul, Nat.reduceSub, Nat.reduceLeDiff, Nat.reduceLT, reduceCtorEq, if_true, eq_self, forall_const, implies_true]
    exact hQ (.bool ((numR 1 (bs, e)).1 == 1)) sl2 (numR 1 (bs, e)).2 h2 hk
def h124 [Inp] : Trans := fun args m k => ∃ (j : Nat) (s : RS), args = [.ptr j 0] ∧ m[j]? = some (rH s) ∧ k (.v (.int .i64 s.1.length)) (m.set j (rH s))
theorem h124_ok [Inp] : Contract Try.prog 124 false h124 := by
  refine meth_rd fn124 (G := fun _ => []) (fun J => @g0 J _) _ fun args m k h => ?_
  unfold h124 at h
  obtain ⟨j, s, rfl, hm, hk⟩ := h
  refine ⟨j, [], s, rfl, hm, by simp, fun J sl H hr Q hQ => ?_⟩
  obtain ⟨bs, e⟩ := s
  have := hQ _ sl (bs, e) hr hk
  rcases hr with ⟨o, B, rfl, rfl, e1, e2, e3, e4⟩ | ⟨rfl, rfl | ⟨p, c, rfl⟩⟩
  · simp (maxSteps := 2000000) -implicitDefEqProofs only [↓x124, ↓r124, s_alt, s_alt20, s_alt2t, s_alt2f, ↓s_loopi, ↓v_pq, ↓PRE, POST, CORE, Nat.reduceDiv, Nat.reduceMod, Int.reduceLT, Int.reduceLE, Int.reduceToNat, Int.reduceAdd, ↓reduceIte, Nat.reduceEqDiff, Nat.reduceAdd, Nat.reduceMul, Nat.reduceSub, Nat.reduceLeDiff, Nat.reduceLT, reduceCtorEq, if_true, eq_self, forall_const, implies_true]
    exact this
  · simp (maxSteps := 2000000) -implicitDefEqProofs only [↓x124, ↓r124, s_alt, s_alt20, s_alt2t, s_alt2f, ↓s_loopi, ↓v_pq, ↓PRE, POST, CORE, Nat.reduceDiv, Nat.reduceMod, Int.reduceLT, Int.reduceLE, Int.reduceToNat, Int.reduceAdd, ↓reduceIte, Nat.reduceEqDiff, Nat.reduceAdd, Nat.reduceMul, Nat.reduceSub, Nat.reduceLeDiff, Nat.reduceLT, reduceCtorEq, if_true, eq_self, forall_const, implies_true]
    exact this
  · simp (maxSteps := 2000000) -implicitDefEqProofs only [↓x124, ↓r124, s_alt, s_alt20, s_alt2t, s_alt2f, ↓s_loopi, ↓v_pq, ↓PRE, POST, CORE, Nat.reduceDiv, Nat.reduceMod, Int.reduceLT, Int.reduceLE, Int.reduceToNat, Int.reduceAdd, ↓reduceIte, Nat.reduceEqDiff, Nat.reduceAdd, Nat.reduceMul, Nat.reduceSub, Nat.reduceLeDiff, Nat.reduceLT, reduceCtorEq, if_true, eq_self, forall_const, implies_true]
    exact this
def G95 [Inp] : List CEntry := [⟨97, false, c97⟩]
theorem g95 [Inp] : GOk Try.prog G95 := GOk.cons c97_ok (g0 _)
def h95 [Inp] : Trans := fun args m k => ∃ (j : Nat) (s : RS), args = [.ptr j 0] ∧ m[j]? = some (rH s) ∧ ∀ s2, k (.v (.int .i64 (doneR s))) (m.set j (rH s2))
theorem h95_ok [Inp] : Contract Try.prog 95 false h95 := by
  refine meth_rd fn95 (G := fun J => @G95 J) (fun J => @g95 J) _ fun args m k h => ?_
  unfold h95 at h
  obtain ⟨j, s, rfl, hm, hk⟩ := h
  refine ⟨j, [], s, rfl, hm, by simp, fun J sl H hr Q hQ => ?_⟩
  obtain ⟨bs, e⟩ := s
  have q1 := hQ _ sl (bs, e) hr (hk _)
  have q2 := hQ _ sl (bs, if e = 0 then 2 else e) hr (hk _)
  unfold doneR failR at q1 q2
  simp only at q1 q2
  have hf : ∀ e : Int, (if e = 0 then ((bs, 2) : RS) else (bs, e)).2 = if e = 0 then 2 else e := fun e => by split <;> rfl
  rw [hf] at q1 q2
  by_cases hb : bs = []
  · rw [if_pos hb] at q1 q2
    have d1 : decide ((0 : Int) < ((0 : Nat) : Int)) = false := rfl
    rcases hr with ⟨o, B, rfl, rfl, e1, e2, e3, e4⟩ | ⟨rfl, rfl | ⟨p, c, rfl⟩⟩
    · have d2 : decide ((0 : Int) < (bs.length : Int)) = false := by subst hb; rfl
      simp (maxSteps := 2000000) -implicitDefEqProofs only [↓x95, ↓r95, ↓G95, ↓c97, d2, s_alt, s_alt20, s_alt2t, s_alt2f, ↓s_loopi, ↓v_pq, ↓PRE, POST, CORE, Nat.reduceDiv, Nat.reduceMod, Int.reduceLT, Int.reduceLE, Int.reduceToNat, Int.reduceAdd, ↓reduceIte, Nat.reduceEqDiff, Nat.reduceAdd, Nat.reduceMul, Nat.reduceSub, Nat.reduceLeDiff, Nat.reduceLT, reduceCtorEq, if_true, eq_self, forall_const, implies_true]
      exact q1
    · simp (maxSteps := 2000000) -implicitDefEqProofs only [↓x95, ↓r95, ↓G95, ↓c97, d1, s_alt, s_alt20, s_alt2t, s_alt2f, ↓s_loopi, ↓v_pq, ↓PRE, POST, CORE, Nat.reduceDiv, Nat.reduceMod, Int.reduceLT, Int.reduceLE, Int.reduceToNat, Int.reduceAdd, ↓reduceIte, Nat.reduceEqDiff, Nat.reduceAdd, Nat.reduceMul, Nat.reduceSub, Nat.reduceLeDiff, Nat.reduceLT, reduceCtorEq, if_true, eq_self, forall_const, implies_true]
      exact q1
    · simp (maxSteps := 2000000) -implicitDefEqProofs only [↓x95, ↓r95, ↓G95, ↓c97, d1, s_alt, s_alt20, s_alt2t, s_alt2f, ↓s_loopi, ↓v_pq, ↓PRE, POST, CORE, Nat.reduceDiv, Nat.reduceMod, Int.reduceLT, Int.reduceLE, Int.reduceToNat, Int.reduceAdd, ↓reduceIte, Nat.reduceEqDiff, Nat.reduceAdd, Nat.reduceMul, Nat.reduceSub, Nat.reduceLeDiff, Nat.reduceLT, reduceCtorEq, if_true, eq_self, forall_const, implies_true]
      exact q1
  · rw [if_neg hb] at q1 q2
    rcases hr with ⟨o, B, rfl, rfl, e1, e2, e3, e4⟩ | ⟨h0, _⟩
    · have d2 : decide ((0 : Int) < (bs.length : Int)) = true := by
        have : bs.length ≠ 0 := fun h => hb (List.length_eq_zero_iff.1 h)
        exact decide_eq_true (by omega)
      simp (maxSteps := 2000000) -implicitDefEqProofs only [↓x95, ↓r95, ↓G95, ↓c97, d2, s_alt, s_alt20, s_alt2t, s_alt2f, ↓s_loopi, ↓v_pq, ↓PRE, POST, CORE, Nat.reduceDiv, Nat.reduceMod, Int.reduceLT, Int.reduceLE, Int.reduceToNat, Int.reduceAdd, ↓reduceIte, Nat.reduceEqDiff, Nat.reduceAdd, Nat.reduceMul, Nat.reduceSub, Nat.reduceLeDiff, Nat.reduceLT, reduceCtorEq, if_true, eq_self, forall_const, implies_true]
      refine ⟨_, _, _, _, rfl, rfl, by decide, ?_⟩
      exact q2
    · exact (hb h0).elim
def G126 [Inp] : List CEntry := [⟨97, false, c97⟩, ⟨98, false, c98⟩, ⟨52, false, c52⟩]
theorem g126 [Inp] : GOk Try.prog G126 := GOk.cons c97_ok (GOk.cons c98_ok (GOk.cons c52_ok (g0 _)))
def h126 [Inp] : Trans := fun args m k => ∃ (j : Nat) (most : Int) (s : RS), args = [.ptr j 0, .v (.int .i64 most)] ∧ m[j]? = some (rH s) ∧ k (.v (.string (strB (textR most s).1))) (m.set j (rH (textR most s).2))
theorem slOf_rd [Inp] {t : SV} {o : SObj} {H : Mem} {w : List Int} (h : Rd t H w) : slOf (o :: H) 1 t = some (w.length, bL w) := by
  rcases h with ⟨a, B, rfl, rfl, e1, e2, e3, e4⟩ | ⟨rfl, rfl | ⟨p, c, rfl⟩⟩
  · have h1 : (bL B).length = B.length := bL_len B
    have h2 : ((bL B).drop a).take w.length = bL w := by
      conv => rhs; rw [← e1]
      unfold bL
      rw [List.map_take, List.map_drop]
    unfold slOf
    simp only [if_true, List.getElem?_cons_succ, List.getElem?_cons_zero, Nat.mul_one]
    rw [if_pos (by rw [h1]; exact e2), h2]
  · rfl
  · unfold slOf inpL
    rfl
theorem bytesV_bL : ∀ w : List Int, bytesV (bL w) = some (w.map fun x => UInt8.ofNat x.toNat)
  | [] => rfl
  | x :: w => by
    show (bytesV (bL w)).map (UInt8.ofNat x.toNat :: ·) = _
    rw [bytesV_bL w]
    rfl
theorem b2s_rd [Inp] {t : SV} {o : SObj} {H : Mem} {w : List Int} {K : SV → Prop} (h : Rd t H w) : b2sK (slOf (o :: H) 1 t) K = K (.v (.string (strB w))) := by
  rw [slOf_rd h]
  unfold b2sK
  simp only [bytesV_bL]
  rfl
theorem num2 {s : RS} (hb : Byt s.1) : 0 ≤ (numR 2 s).1 ∧ (numR 2 s).1 < 65536 := by
  unfold numR takeR
  split
  · split
    · simp [leV]
    · rename_i h0 h1
      have h2 := leV_bound (hb.take 2)
      have : (s.1.take 2).length = 2 := by simp; omega
      rw [this] at h2
      show 0 ≤ leV (s.1.take 2) ∧ leV (s.1.take 2) < 65536
      omega
  · simp [leV]
theorem h126_ok [Inp] : Contract Try.prog 126 false h126 := by
  refine meth_rd fn126 (G := fun J => @G126 J) (fun J => @g126 J) _ fun args m k h => ?_
  unfold h126 at h
  obtain ⟨j, most, s, rfl, hm, hk⟩ := h
  refine ⟨j, [.int .i64 most], s, rfl, hm, by simp, fun J sl H hr Q hQ => ?_⟩
  obtain ⟨bs, e⟩ := s
  have hv : 0 ≤ (numR 2 (bs, e)).1 ∧ (numR 2 (bs, e)).1 < 65536 := num2 hr.byt
  simp (maxSteps := 2000000) -implicitDefEqProofs only [↓x126, ↓r126, ↓G126, ↓c52, ↓c97, s_alt, s_alt20, s_alt2t, s_alt2f, ↓s_loopi, ↓v_pq, ↓PRE, POST, CORE, Nat.reduceDiv, Nat.reduceMod, Int.reduceLT, Int.reduceLE, Int.reduceToNat, Int.reduceAdd, ↓reduceIte, Nat.reduceEqDiff, Nat.reduceAdd, Nat.reduceMul, Nat.reduceSub, Nat.reduceLeDiff, Nat.reduceLT, reduceCtorEq, if_true, eq_self, forall_const, implies_true]
  refine ⟨sl, e, 2, H, bs, rfl, rfl, hr, by simp, fun sl2 h2 => ?_⟩
  unfold textR at hk
  by_cases h0 : (numR 2 (bs, e)).2.2 = 0
  · rw [if_pos h0] at hk
    have d0 : ((numR 2 (bs, e)).2.2 != 0) = false := by rw [h0]; rfl
    by_cases h1 : most < (numR 2 (bs, e)).1
    · rw [if_pos h1] at hk
      have d1 : decide (most < (numR 2 (bs, e)).1) = true := decide_eq_true h1
      simp (maxSteps := 2000000) -implicitDefEqProofs only [↓G126, ↓c97, d0, d1, s_alt, s_alt20, s_alt2t, s_alt2f, ↓s_loopi, ↓v_pq, ↓PRE, POST, CORE, Nat.reduceDiv, Nat.reduceMod, Int.reduceLT, Int.reduceLE, Int.reduceToNat, Int.reduceAdd, ↓reduceIte, Nat.reduceEqDiff, Nat.reduceAdd, Nat.reduceMul, Nat.reduceSub, Nat.reduceLeDiff, Nat.reduceLT, reduceCtorEq, if_true, eq_self, forall_const, implies_true]
      refine ⟨_, _, _, _, rfl, rfl, by decide, ?_⟩
      rw [if_pos h0]
      exact hQ _ sl2 ((numR 2 (bs, e)).2.1, 3) h2 hk
    · rw [if_neg h1] at hk
      have d1 : decide (most < (numR 2 (bs, e)).1) = false := decide_eq_false h1
      simp (maxSteps := 2000000) -implicitDefEqProofs only [↓G126, ↓c97, ↓c98, d0, d1, s_alt, s_alt20, s_alt2t, s_alt2f, ↓s_loopi, ↓v_pq, ↓PRE, POST, CORE, Nat.reduceDiv, Nat.reduceMod, Int.reduceLT, Int.reduceLE, Int.reduceToNat, Int.reduceAdd, ↓reduceIte, Nat.reduceEqDiff, Nat.reduceAdd, Nat.reduceMul, Nat.reduceSub, Nat.reduceLeDiff, Nat.reduceLT, reduceCtorEq, if_true, eq_self, forall_const, implies_true]
      have hN : (numR 2 (bs, e)).1 = ((numR 2 (bs, e)).1.toNat : Int) := by omega
      refine ⟨sl2, (numR 2 (bs, e)).2.2, (numR 2 (bs, e)).1.toNat, H, (numR 2 (bs, e)).2.1, by rw [← hN], rfl, h2, fun t sl3 ht h3 => ?_⟩
      try simp (maxSteps := 2000000) -implicitDefEqProofs only [s_alt, s_alt20, s_alt2t, s_alt2f, ↓s_loopi, ↓v_pq, ↓PRE, POST, CORE, Nat.reduceDiv, Nat.reduceMod, Int.reduceLT, Int.reduceLE, Int.reduceToNat, Int.reduceAdd, ↓reduceIte, Nat.reduceEqDiff, Nat.reduceAdd, Nat.reduceMul, Nat.reduceSub, Nat.reduceLeDiff, Nat.reduceLT, reduceCtorEq, if_true, eq_self, forall_const, implies_true]
      rw [b2s_rd ht]
      exact hQ _ sl3 (takeR (numR 2 (bs, e)).1.toNat (numR 2 (bs, e)).2).2 h3 hk
  · rw [if_neg h0] at hk
    have d0 : ((numR 2 (bs, e)).2.2 != 0) = true := by simpa using h0
    simp (maxSteps := 2000000) -implicitDefEqProofs only [↓G126, ↓c97, d0, s_alt, s_alt20, s_alt2t, s_alt2f, ↓s_loopi, ↓v_pq, ↓PRE, POST, CORE, Nat.reduceDiv, Nat.reduceMod, Int.reduceLT, Int.reduceLE, Int.reduceToNat, Int.reduceAdd, ↓reduceIte, Nat.reduceEqDiff, Nat.reduceAdd, Nat.reduceMul, Nat.reduceSub, Nat.reduceLeDiff, Nat.reduceLT, reduceCtorEq, if_true, eq_self, forall_const, implies_true]
    exact hQ _ sl2 (numR 2 (bs, e)).2 h2 hk
end Go.Proofs.Ytibefgdjijmncaa
end
section
namespace Go.Proofs.Ytibefgdjijmncaa
open Go.RowKit Sz
set_option maxHeartbeats 4000000
set_option maxRecDepth 20000
def c90x [Inp] : Trans := fun args m k => ∃ (s : SV) (bs : List Int), args = [s] ∧ rdB m s = some bs ∧ bs.length ≤ 1000000 ∧ k (.row m.length 0 bs.length 1) (m ++ [⟨true, bL bs⟩]) ∧ (bs = [] → k (.v (.slice none 0 0)) m)
theorem c90x_ok [Inp] : Contract Try.prog 90 true c90x := by
  refine .readF fn90 (G := fun _ => []) (fun J => @g0 J _) _ fun args m k h => ?_
  unfold c90x at h
  obtain ⟨s, bs, rfl, hb, hmax, hk, hk0⟩ := h
  refine ⟨by simp, fun J hJ us hus => ?_⟩
  obtain ⟨u, t1, rfl, hk1, rfl⟩ := hus
  obtain ⟨p, c, rfl, hin⟩ := rdB_knows hb hk1
  cases p with
  | none =>
    have hn : bs = [] := by
      rcases Nat.eq_zero_or_pos bs.length with h | h
      · exact List.length_eq_zero_iff.1 h
      · have := inpL_isSome hin (by omega)
        simp at this
    subst hn
    have hk := hk0 rfl
    have hp2 : (none : Option Addr).isNone = true := rfl
    simp (maxSteps := 2000000) -implicitDefEqProofs only [↓x90, ↓r90, hp2, s_alt, s_alt20, s_alt2t, s_alt2f, ↓s_loopi, ↓v_pq, ↓PRE, POST, CORE, Nat.reduceDiv, Nat.reduceMod, Int.reduceLT, Int.reduceLE, Int.reduceToNat, Int.reduceAdd, ↓reduceIte, Nat.reduceEqDiff, Nat.reduceAdd, Nat.reduceMul, Nat.reduceSub, Nat.reduceLeDiff, Nat.reduceLT, reduceCtorEq, if_true, eq_self, forall_const, implies_true]
    refine ⟨[], .v (.slice none 0 0), [], by simp, trivial, by simp, by simp only [Le], ?_⟩
    simpa [SV.up] using hk
  | some a =>
    have hp2 : (some a).isNone = false := rfl
    have h1 := bL_len bs
    have h2 := bL_one bs
    by_cases h0 : bs.length = 0
    · have hn : bs = [] := List.length_eq_zero_iff.1 h0
      subst hn
      have hin0 : inpL (some a) 0 = some [] := rfl
      simp (maxSteps := 2000000) -implicitDefEqProofs only [↓x90, ↓r90, hp2, hin0, List.map_nil, Option.map_some, s_alt, s_alt20, s_alt2t, s_alt2f, ↓s_loopi, ↓v_pq, ↓PRE, POST, CORE, Nat.reduceDiv, Nat.reduceMod, Int.reduceLT, Int.reduceLE, Int.reduceToNat, Int.reduceAdd, ↓reduceIte, Nat.reduceEqDiff, Nat.reduceAdd, Nat.reduceMul, Nat.reduceSub, Nat.reduceLeDiff, Nat.reduceLT, reduceCtorEq, if_true, eq_self, forall_const, implies_true]
      refine ⟨[0], .row 0 0 0 1, [⟨true, []⟩], by simp, ?_, by simp, by simp only [Le]; rfl, ?_⟩
      · simp [FitM, ObLe, LeL]
      · simpa [SV.up, SObj.up, upL, bL] using hk
    · have h3 : 0 < bs.length := by omega
      simp (maxSteps := 2000000) -implicitDefEqProofs only [↓x90, ↓r90, hp2, hin, h0, h1, h2, h3, bL_fold, s_alt, s_alt20, s_alt2t, s_alt2f, ↓s_loopi, ↓v_pq, ↓PRE, POST, CORE, Nat.reduceDiv, Nat.reduceMod, Int.reduceLT, Int.reduceLE, Int.reduceToNat, Int.reduceAdd, ↓reduceIte, Nat.reduceEqDiff, Nat.reduceAdd, Nat.reduceMul, Nat.reduceSub, Nat.reduceLeDiff, Nat.reduceLT, reduceCtorEq, if_true, eq_self, forall_const, implies_true]
      refine ⟨⟨by unfold maxLen; omega, by omega⟩, [1], .row 0 0 bs.length 1, [⟨true, bL bs⟩], by simp, ?_, by simp, by simp only [Le]; rfl, ?_⟩
      · simp [FitM, ObLe, bL_le]
      · simpa [SV.up, SObj.up, bL_up] using hk
-- almshouse/word.Read (1 parameters)
def x94 : XC := (.seq (.tree (.seq ⟨some 2, none, (.ofA (.mv (.cst (.v (.pointer none)))))⟩
  .done))
 (.seq (.tree (.seq ⟨some 3, none, (.ofA (.mv (.tmp 0)))⟩
  (.seq ⟨some 4, none, (.call (.cst (.fn 90 [])) [(.tmp 3)])⟩
  (.seq ⟨some 5, none, (.build [(.v (.slice none 0 0)), (.v (.int .i64 0))] [(0, 1, (.tmp 4))])⟩
  (.seq ⟨some 6, none, (.box (.tmp 5))⟩
  (.seq ⟨some 2, none, (.ofA (.mv (.tmp 6)))⟩
  .done))))))
 .ret))
def r94 : List XR := [.tmp 2]
theorem fn94 : FnX Try.prog 94 [50, 51, 52, 54, 56, 95, 97, 98, 99, 100, 101, 125, 126] 7 x94 r94 := ⟨_, Try.func94, by kernel_rfl, by kernel_rfl, by kernel_rfl, by kernel_rfl⟩
theorem rH_le {g : List Nat} {s : RS} : ObLe g (rH s) (rH s) := .inr ⟨fun h => h, by simp [rH, absO, LeL], ⟨rfl, rfl, rfl⟩⟩
def G94 [Inp] : List CEntry := [⟨90, true, c90x⟩]
theorem g94 [Inp] : GOk Try.prog G94 := GOk.cons c90x_ok (g0 _)
def h94 [Inp] : Trans := fun args m k => ∃ (s : SV) (bs : List Int), args = [s] ∧ rdB m s = some bs ∧ bs.length ≤ 1000000 ∧ Byt bs ∧ k (.ptr m.length 0) (m ++ [rH (bs, 0)])
theorem h94_ok [Inp] : Contract Try.prog 94 true h94 := by
  refine .readT fn94 (G := fun J => @G94 J) (fun J => @g94 J) _ fun args m k h => ?_
  unfold h94 at h
  obtain ⟨s, bs, rfl, hb, hmax, hB, hk⟩ := h
  refine ⟨by simp, fun J hJ us hus => ?_⟩
  obtain ⟨u, t1, rfl, hk1, rfl⟩ := hus
  obtain ⟨p, c, rfl, hin⟩ := rdB_knows hb hk1
  have hr : ∀ m, rdB m (.v (.slice p bs.length c)) = some bs := fun m => rdB_v hin
  have hup : SObj.up m.length (rH (bs, 0)) = rH (bs, 0) := rfl
  simp (maxSteps := 2000000) -implicitDefEqProofs only [↓x94, ↓r94, ↓G94, ↓c90x, s_alt, s_alt20, s_alt2t, s_alt2f, ↓s_loopi, ↓v_pq, ↓PRE, POST, CORE, Nat.reduceDiv, Nat.reduceMod, Int.reduceLT, Int.reduceLE, Int.reduceToNat, Int.reduceAdd, ↓reduceIte, Nat.reduceEqDiff, Nat.reduceAdd, Nat.reduceMul, Nat.reduceSub, Nat.reduceLeDiff, Nat.reduceLT, reduceCtorEq, if_true, eq_self, forall_const, implies_true]
  refine ⟨_, bs, rfl, hr _, hmax, ?_, ?_⟩
  · skip
    have t1 : @Turn J 0 [⟨true, bL bs⟩, rdO (.row 0 0 bs.length 1) 0] (.ptr 1 0) [rdO (.row 1 0 bs.length 1) 0, ⟨true, bL bs⟩] (.ptr 0 0) :=
      Turn.fit [1, 0] (by simp [NdL, NdA]) (by simp [FitM, ObLe, LeL, Le, bL_le]) (by simp [Le]) (by simp)
    have t2 : @Turn J 0 [rdO (.row 1 0 bs.length 1) 0, ⟨true, bL bs⟩] (.ptr 0 0) [rH (bs, 0), ⟨false, []⟩] (.ptr 0 0) :=
      Turn.seal (j := 0) (n := 0) (refs := []) (gh := [1]) (h := [.row 1 0 bs.length 1, .v (.int .i64 0)]) (H := [⟨true, bL bs⟩]) (Q := RdQ (bs, 0)) rfl (by simp) (by simp [FitM, ObLe, LeL, Le, bL_le, hidM]) ⟨_, rfl, .inl ⟨0, bs, rfl, rfl, by simp, by simp, hB, hmax⟩, .inr ⟨bs, rfl⟩⟩ (by simp)
    have t3 : @Turn J 0 [rH (bs, 0), ⟨false, []⟩] (.ptr 0 0) [rH (bs, 0)] (.ptr 0 0) :=
      Turn.fit [0] (by simp [NdL, NdA]) (by simp [FitM, rH_le]) (by simp [Le]) (by simp)
    exact ⟨_, _, (t1.trans t2).trans t3, by simp [rH, absO_own], by simpa [SV.up, hup] using hk⟩
  · intro h0
    subst h0
    have t2 : @Turn J 0 [rdO (.v (.slice none 0 0)) 0] (.ptr 0 0) [rH ([], 0)] (.ptr 0 0) :=
      Turn.seal (j := 0) (n := 0) (refs := []) (gh := []) (h := [.v (.slice none 0 0), .v (.int .i64 0)]) (H := []) (Q := RdQ ([], 0)) rfl (by simp) (by simp [FitM, ObLe, LeL, Le, hidM]) ⟨_, rfl, .inr ⟨rfl, .inr ⟨_, _, rfl⟩⟩, .inl rfl⟩ (by simp)
    exact ⟨_, _, t2, by simp [rH, absO_own], by simpa [SV.up, hup] using hk⟩
end Go.Proofs.Ytibefgdjijmncaa
end
section
namespace Go.Proofs.Ytibefgdjijmncaa
open Go.RowKit Sz
set_option maxHeartbeats 4000000
set_option maxRecDepth 20000
-- slices.Equal[[]almshouse/image.Page,almshouse/image.Page] (2 parameters)
def x104 : XC := (.seq (.tree (.seq ⟨some 4, none, (.ofA (.mv (.cst (.v (.bool false)))))⟩
  .done))
 (.seq (.seq (.tree (.seq ⟨some 6, none, (.ofA (.mv (.tmp 0)))⟩
  (.seq ⟨some 7, none, (.ofA (.len (.tmp 6)))⟩
  (.seq ⟨some 8, none, (.ofA (.mv (.tmp 1)))⟩
  (.seq ⟨some 9, none, (.ofA (.len (.tmp 8)))⟩
  (.seq ⟨some 10, none, (.ofA (.bin .neq (.tmp 7) (.tmp 9)))⟩
  .done))))))
 (.cond (.tmp 10)
 (.seq (.tree (.seq ⟨some 4, none, (.ofA (.mv (.cst (.v (.bool false)))))⟩
  .done))
 .ret)
 .skip))
 (.seq (.seq (.tree (.seq ⟨some 11, none, (.ofA (.mv (.tmp 0)))⟩
  (.seq ⟨some 12, none, (.ofA (.len (.tmp 11)))⟩
  (.seq ⟨some 13, none, (.ofA (.mv (.cst (.v (.int .i64 0)))))⟩
  .done))))
 (.block 0 (.loop (.seq (.tree (.seq ⟨some 14, none, (.ofA (.bin .lss (.tmp 13) (.tmp 12)))⟩
  .done))
 (.seq (.cond (.tmp 14)
 .skip
 (.exit 0))
 (.seq (.block 1 (.seq (.tree (.seq ⟨some 15, none, (.ofA (.mv (.tmp 13)))⟩
  (.seq ⟨some 5, none, (.ofA (.mv (.tmp 15)))⟩
  .done)))
 (.seq (.tree (.take ⟨some 16, none, (.ofA (.mv (.tmp 0)))⟩
  (.take ⟨some 17, none, (.ofA (.mv (.tmp 5)))⟩
  (.take ⟨some 18, none, (.ofA (.isl 3 (.tmp 16) (.tmp 17)))⟩
  (.take ⟨some 19, none, (.ofA (.load (some 3) (.tmp 18)))⟩
  (.take ⟨some 20, none, (.ofA (.mv (.tmp 1)))⟩
  (.take ⟨some 21, none, (.ofA (.mv (.tmp 5)))⟩
  (.take ⟨some 22, none, (.ofA (.isl 3 (.tmp 20) (.tmp 21)))⟩
  (.take ⟨some 23, none, (.ofA (.load (some 3) (.tmp 22)))⟩
  (.take ⟨some 24, none, (.ofA (.eqs true [.bool, .str, .str] (.tmp 19) (.tmp 23)))⟩
  .done))))))))))
 (.cond (.tmp 24)
 (.seq (.tree (.seq ⟨some 4, none, (.ofA (.mv (.cst (.v (.bool false)))))⟩
  .done))
 .ret)
 .skip))))
 (.tree (.seq ⟨some 25, none, (.ofA (.bin .add (.tmp 13) (.cst (.v (.int .i64 1)))))⟩
  (.seq ⟨some 13, none, (.ofA (.mv (.tmp 25)))⟩
  .done)))))))))
 (.seq (.tree (.seq ⟨some 4, none, (.ofA (.mv (.cst (.v (.bool true)))))⟩
  .done))
 .ret))))
def r104 : List XR := [.tmp 4]
theorem fn104 : FnX Try.prog 104 [] 26 x104 r104 := ⟨_, Try.func104, by kernel_rfl, by kernel_rfl, by kernel_rfl, by kernel_rfl⟩
-- almshouse/image.same (2 parameters)
def x62 : XC := (.seq (.tree (.seq ⟨some 2, none, (.box (.tmp 0))⟩
  (.seq ⟨some 3, none, (.box (.tmp 1))⟩
  (.seq ⟨some 4, none, (.ofA (.mv (.cst (.v (.bool false)))))⟩
  .done))))
 (.seq (.tree (.seq ⟨some 5, none, (.ofA (.faddr 0 (.tmp 2)))⟩
  (.seq ⟨some 6, none, (.ofA (.load none (.tmp 5)))⟩
  (.seq ⟨some 7, none, (.ofA (.faddr 0 (.tmp 3)))⟩
  (.seq ⟨some 8, none, (.ofA (.load none (.tmp 7)))⟩
  (.seq ⟨some 9, none, (.ofA (.eqb false (.tmp 6) (.tmp 8)))⟩
  (.seq ⟨some 10, none, (.ofA (.mv (.tmp 9)))⟩
  (.seq ⟨some 11, some (10, true), (.ofA (.faddr 1 (.tmp 2)))⟩
  (.seq ⟨some 12, some (10, true), (.ofA (.load none (.tmp 11)))⟩
  (.seq ⟨some 13, some (10, true), (.ofA (.faddr 1 (.tmp 3)))⟩
  (.seq ⟨some 14, some (10, true), (.ofA (.load none (.tmp 13)))⟩
  (.seq ⟨some 15, some (10, true), (.ofA (.bin .eql (.tmp 12) (.tmp 14)))⟩
  (.seq ⟨some 16, none, (.ofA (.pick (.tmp 10) (.tmp 15) (.cst (.v (.bool false)))))⟩
  (.seq ⟨some 17, none, (.ofA (.mv (.tmp 16)))⟩
  (.seq ⟨some 18, some (17, true), (.ofA (.faddr 2 (.tmp 2)))⟩
  (.seq ⟨some 19, some (17, true), (.ofA (.load none (.tmp 18)))⟩
  (.seq ⟨some 20, some (17, true), (.ofA (.faddr 2 (.tmp 3)))⟩
  (.seq ⟨some 21, some (17, true), (.ofA (.load none (.tmp 20)))⟩
  (.seq ⟨some 22, some (17, true), (.call (.cst (.fn 104 [])) [(.tmp 19), (.tmp 21)])⟩
  (.seq ⟨some 23, none, (.ofA (.pick (.tmp 17) (.tmp 22) (.cst (.v (.bool false)))))⟩
  (.seq ⟨some 4, none, (.ofA (.mv (.tmp 23)))⟩
  .done)))))))))))))))))))))
 .ret))
def r62 : List XR := [.tmp 4]
theorem fn62 : FnX Try.prog 62 [] 24 x62 r62 := ⟨_, Try.func62, by kernel_rfl, by kernel_rfl, by kernel_rfl, by kernel_rfl⟩
-- slices.EqualFunc[[]almshouse/image.Block,[]almshouse/image.Block,almshouse/image.Block,almshouse/image.Block] (3 parameters)
def x61 : XC := (.seq (.tree (.seq ⟨some 6, none, (.ofA (.mv (.cst (.v (.bool false)))))⟩
  .done))
 (.seq (.seq (.tree (.seq ⟨some 10, none, (.ofA (.mv (.tmp 0)))⟩
  (.seq ⟨some 11, none, (.ofA (.len (.tmp 10)))⟩
  (.seq ⟨some 12, none, (.ofA (.mv (.tmp 1)))⟩
  (.seq ⟨some 13, none, (.ofA (.len (.tmp 12)))⟩
  (.seq ⟨some 14, none, (.ofA (.bin .neq (.tmp 11) (.tmp 13)))⟩
  .done))))))
 (.cond (.tmp 14)
 (.seq (.tree (.seq ⟨some 6, none, (.ofA (.mv (.cst (.v (.bool false)))))⟩
  .done))
 .ret)
 .skip))
 (.seq (.seq (.tree (.seq ⟨some 15, none, (.ofA (.mv (.tmp 0)))⟩
  (.seq ⟨some 16, none, (.ofA (.len (.tmp 15)))⟩
  (.seq ⟨some 17, none, (.ofA (.mv (.cst (.v (.int .i64 0)))))⟩
  .done))))
 (.block 0 (.loop (.seq (.tree (.seq ⟨some 18, none, (.ofA (.bin .lss (.tmp 17) (.tmp 16)))⟩
  .done))
 (.seq (.cond (.tmp 18)
 .skip
 (.exit 0))
 (.seq (.block 1 (.seq (.tree (.seq ⟨some 19, none, (.ofA (.mv (.tmp 17)))⟩
  (.seq ⟨some 20, none, (.ofA (.isl 3 (.tmp 15) (.tmp 17)))⟩
  (.seq ⟨some 21, none, (.ofA (.load (some 3) (.tmp 20)))⟩
  (.seq ⟨some 8, none, (.alloc [(.v (.bool false)), (.v (.int .i64 0)), (.v (.slice none 0 0))])⟩
  (.seq ⟨some 7, none, (.ofA (.mv (.tmp 19)))⟩
  (.seq ⟨none, none, (.store 3 (.tmp 8) (.tmp 21))⟩
  .done)))))))
 (.seq (.tree (.seq ⟨some 22, none, (.ofA (.mv (.tmp 1)))⟩
  (.seq ⟨some 23, none, (.ofA (.mv (.tmp 7)))⟩
  (.seq ⟨some 24, none, (.ofA (.isl 3 (.tmp 22) (.tmp 23)))⟩
  (.seq ⟨some 25, none, (.ofA (.load (some 3) (.tmp 24)))⟩
  (.seq ⟨some 9, none, (.alloc [(.v (.bool false)), (.v (.int .i64 0)), (.v (.slice none 0 0))])⟩
  (.seq ⟨none, none, (.store 3 (.tmp 9) (.tmp 25))⟩
  .done)))))))
 (.seq (.tree (.seq ⟨some 26, none, (.ofA (.mv (.tmp 2)))⟩
  (.seq ⟨some 27, none, (.ofA (.load (some 3) (.tmp 8)))⟩
  (.seq ⟨some 28, none, (.ofA (.load (some 3) (.tmp 9)))⟩
  (.seq ⟨some 29, none, (.call (.tmp 26) [(.tmp 27), (.tmp 28)])⟩
  (.seq ⟨some 30, none, (.ofA (.un .not (.tmp 29)))⟩
  .done))))))
 (.cond (.tmp 30)
 (.seq (.tree (.seq ⟨some 6, none, (.ofA (.mv (.cst (.v (.bool false)))))⟩
  .done))
 .ret)
 .skip)))))
 (.tree (.seq ⟨some 31, none, (.ofA (.bin .add (.tmp 17) (.cst (.v (.int .i64 1)))))⟩
  (.seq ⟨some 17, none, (.ofA (.mv (.tmp 31)))⟩
  .done)))))))))
 (.seq (.tree (.seq ⟨some 6, none, (.ofA (.mv (.cst (.v (.bool true)))))⟩
  .done))
 .ret))))
def r61 : List XR := [.tmp 6]
theorem fn61 : FnX Try.prog 61 [] 32 x61 r61 := ⟨_, Try.func61, by kernel_rfl, by kernel_rfl, by kernel_rfl, by kernel_rfl⟩
-- almshouse/image.Same (2 parameters)
def x17 : XC := (.seq (.tree (.seq ⟨some 2, none, (.box (.tmp 0))⟩
  (.seq ⟨some 3, none, (.box (.tmp 1))⟩
  (.seq ⟨some 4, none, (.ofA (.mv (.cst (.v (.bool false)))))⟩
  .done))))
 (.seq (.tree (.seq ⟨some 5, none, (.ofA (.faddr 0 (.tmp 2)))⟩
  (.seq ⟨some 6, none, (.ofA (.load (some 4) (.tmp 5)))⟩
  (.seq ⟨some 7, none, (.ofA (.faddr 0 (.tmp 3)))⟩
  (.seq ⟨some 8, none, (.ofA (.load (some 4) (.tmp 7)))⟩
  (.seq ⟨some 9, none, (.ofA (.eqs false [.int, .int, .int, .int] (.tmp 6) (.tmp 8)))⟩
  (.seq ⟨some 10, none, (.ofA (.mv (.tmp 9)))⟩
  (.seq ⟨some 11, some (10, true), (.ofA (.faddr 4 (.tmp 2)))⟩
  (.seq ⟨some 12, some (10, true), (.ofA (.load none (.tmp 11)))⟩
  (.seq ⟨some 13, some (10, true), (.ofA (.faddr 4 (.tmp 3)))⟩
  (.seq ⟨some 14, some (10, true), (.ofA (.load none (.tmp 13)))⟩
  (.seq ⟨some 15, some (10, true), (.call (.cst (.fn 61 [])) [(.tmp 12), (.tmp 14), (.cst (.fn 62 []))])⟩
  (.seq ⟨some 16, none, (.ofA (.pick (.tmp 10) (.tmp 15) (.cst (.v (.bool false)))))⟩
  (.seq ⟨some 4, none, (.ofA (.mv (.tmp 16)))⟩
  .done))))))))))))))
 .ret))
def r17 : List XR := [.tmp 4]
theorem fn17 : FnX Try.prog 17 [] 17 x17 r17 := ⟨_, Try.func17, by kernel_rfl, by kernel_rfl, by kernel_rfl, by kernel_rfl⟩
-- almshouse/image.Diff (2 parameters)
def x18 : XC := (.seq (.tree (.seq ⟨some 2, none, (.box (.tmp 0))⟩
  (.seq ⟨some 3, none, (.box (.tmp 1))⟩
  (.seq ⟨some 4, none, (.ofA (.mv (.cst (.v (.slice none 0 0)))))⟩
  .done))))
 (.seq (.tree (.seq ⟨some 5, none, (.ofA (.mv (.cst (.v (.slice none 0 0)))))⟩
  .done))
 (.seq (.seq (.tree (.seq ⟨some 7, none, (.ofA (.faddr 4 (.tmp 2)))⟩
  (.seq ⟨some 8, none, (.ofA (.load none (.tmp 7)))⟩
  (.seq ⟨some 9, none, (.ofA (.len (.tmp 8)))⟩
  (.seq ⟨some 10, none, (.ofA (.faddr 4 (.tmp 3)))⟩
  (.seq ⟨some 11, none, (.ofA (.load none (.tmp 10)))⟩
  (.seq ⟨some 12, none, (.ofA (.len (.tmp 11)))⟩
  (.seq ⟨some 13, none, (.ofA (.mx true (.tmp 9) [(.tmp 12)]))⟩
  (.seq ⟨some 14, none, (.ofA (.mv (.cst (.v (.int .i64 0)))))⟩
  .done)))))))))
 (.block 0 (.loop (.seq (.tree (.seq ⟨some 15, none, (.ofA (.bin .lss (.tmp 14) (.tmp 13)))⟩
  .done))
 (.seq (.cond (.tmp 15)
 .skip
 (.exit 0))
 (.seq (.block 1 (.seq (.tree (.seq ⟨some 16, none, (.ofA (.mv (.tmp 14)))⟩
  (.seq ⟨some 6, none, (.ofA (.mv (.tmp 16)))⟩
  .done)))
 (.seq (.tree (.take ⟨some 17, none, (.ofA (.mv (.tmp 6)))⟩
  (.take ⟨some 18, none, (.ofA (.faddr 4 (.tmp 2)))⟩
  (.take ⟨some 19, none, (.ofA (.load none (.tmp 18)))⟩
  (.take ⟨some 20, none, (.ofA (.len (.tmp 19)))⟩
  (.take ⟨some 21, none, (.ofA (.bin .geq (.tmp 17) (.tmp 20)))⟩
  (.take ⟨some 22, none, (.ofA (.mv (.tmp 21)))⟩
  (.take ⟨some 23, some (22, false), (.ofA (.mv (.tmp 6)))⟩
  (.take ⟨some 24, some (22, false), (.ofA (.faddr 4 (.tmp 3)))⟩
  (.take ⟨some 25, some (22, false), (.ofA (.load none (.tmp 24)))⟩
  (.take ⟨some 26, some (22, false), (.ofA (.len (.tmp 25)))⟩
  (.take ⟨some 27, some (22, false), (.ofA (.bin .geq (.tmp 23) (.tmp 26)))⟩
  (.take ⟨some 28, none, (.ofA (.pick (.tmp 22) (.cst (.v (.bool true))) (.tmp 27)))⟩
  (.take ⟨some 29, none, (.ofA (.mv (.tmp 28)))⟩
  (.take ⟨some 30, some (29, false), (.ofA (.faddr 4 (.tmp 2)))⟩
  (.take ⟨some 31, some (29, false), (.ofA (.load none (.tmp 30)))⟩
  (.take ⟨some 32, some (29, false), (.ofA (.mv (.tmp 6)))⟩
  (.take ⟨some 33, some (29, false), (.ofA (.isl 3 (.tmp 31) (.tmp 32)))⟩
  (.take ⟨some 34, some (29, false), (.ofA (.load (some 3) (.tmp 33)))⟩
  (.take ⟨some 35, some (29, false), (.ofA (.faddr 4 (.tmp 3)))⟩
  (.take ⟨some 36, some (29, false), (.ofA (.load none (.tmp 35)))⟩
  (.take ⟨some 37, some (29, false), (.ofA (.mv (.tmp 6)))⟩
  (.take ⟨some 38, some (29, false), (.ofA (.isl 3 (.tmp 36) (.tmp 37)))⟩
  (.take ⟨some 39, some (29, false), (.ofA (.load (some 3) (.tmp 38)))⟩
  (.act true [(⟨some 40, some (29, false), (.call (.cst (.fn 62 [])) [(.tmp 34), (.tmp 39)])⟩,
 (.take ⟨some 41, some (29, false), (.ofA (.un .not (.tmp 40)))⟩
  (.take ⟨some 42, none, (.ofA (.pick (.tmp 29) (.cst (.v (.bool true))) (.tmp 41)))⟩
  .done)))])))))))))))))))))))))))))
 (.cond (.tmp 42)
 (.tree (.seq ⟨some 43, none, (.ofA (.mv (.tmp 5)))⟩
  (.seq ⟨some 44, none, (.ofA (.mv (.tmp 6)))⟩
  (.seq ⟨some 45, none, (.buildSl 1 1 [(.v (.int .i64 0))] [(0, 1, (.tmp 44))])⟩
  (.seq ⟨some 46, none, (.app 1 8 (.tmp 43) (.tmp 45))⟩
  (.seq ⟨some 5, none, (.ofA (.mv (.tmp 46)))⟩
  .done))))))
 .skip))))
 (.tree (.seq ⟨some 47, none, (.ofA (.bin .add (.tmp 14) (.cst (.v (.int .i64 1)))))⟩
  (.seq ⟨some 14, none, (.ofA (.mv (.tmp 47)))⟩
  .done)))))))))
 (.seq (.tree (.seq ⟨some 48, none, (.ofA (.mv (.tmp 5)))⟩
  (.seq ⟨some 4, none, (.ofA (.mv (.tmp 48)))⟩
  .done)))
 .ret))))
def r18 : List XR := [.tmp 4]
theorem fn18 : FnX Try.prog 18 [] 49 x18 r18 := ⟨_, Try.func18, by kernel_rfl, by kernel_rfl, by kernel_rfl, by kernel_rfl⟩
theorem zip_at {α β : Type} {us : List α} {bs : List β} {x : Nat} {a : α} {b : β} (h : us[x]? = some a) (h2 : bs[x]? = some b) : (us.zip bs)[x]? = some (a, b) := List.getElem?_zip_eq_some.2 ⟨h, h2⟩
def c104 [Inp] : Trans := fun args m k => match args with
  | [.v (.slice p n c), .v (.slice p' n' c')] => ∃ ps qs : List Pg, inpL p (n * 3) = some (rowV Pg.cs ps) ∧ ps.length = n ∧ inpL p' (n' * 3) = some (rowV Pg.cs qs) ∧ qs.length = n' ∧ n ≤ 9223372036854775807 ∧ k (.v (.bool (eqPs ps qs))) m
  | _ => False
theorem c104_ok [I : Inp] : Contract Try.prog 104 true c104 := by
  refine .readN fn104 (G := fun J => []) (fun J => @g0 J _) _ fun args m k h => ?_
  unfold c104 at h
  split at h
  case h_2 => exact h.elim
  rename_i p n c p' n' c'
  obtain ⟨ps, qs, hin0, rfl, hin0', rfl, hn, hk⟩ := h
  refine ⟨by simp, fun J hJ us hus hI => ?_⟩
  obtain ⟨u, t1, rfl, hk1, u2, t2, rfl, hk2, rfl⟩ := hus
  have hin := hI _ _ _ hin0
  have hin' := hI _ _ _ hin0'
  obtain rfl := hk1.1 _ rfl
  obtain rfl := hk2.1 _ rfl
  unfold eqPs at hk
  by_cases hl : ps.length = qs.length
  · have hl1 : ((ps.length : Int) != (qs.length : Int)) = false := by simp [hl]
    have hl2 : (ps.length == qs.length) = true := by simp [hl]
    rw [hl2, Bool.true_and] at hk
    have hitem : ∀ (i : Nat) (x : Pg), ps[i]? = some x → inpL (plusA p (i * 3)) 3 = some x.cs := fun i x hx => inp_item Pg.len hin rfl hx
    have hitem' : ∀ (i : Nat) (x : Pg), qs[i]? = some x → inpL (plusA p' (i * 3)) 3 = some x.cs := fun i x hx => inp_item Pg.len hin' rfl hx
    simp (maxSteps := 2000000) -implicitDefEqProofs only [↓x104, ↓r104, hl1, s_alt, s_alt20, s_alt2t, s_alt2f, ↓s_loopi, ↓v_pq, ↓PRE, POST, CORE, Nat.reduceDiv, Nat.reduceMod, Int.reduceLT, Int.reduceLE, Int.reduceToNat, Int.reduceAdd, ↓reduceIte, Nat.reduceEqDiff, Nat.reduceAdd, Nat.reduceMul, Nat.reduceSub, Nat.reduceLeDiff, Nat.reduceLT, reduceCtorEq, if_true, eq_self, forall_const, implies_true]
    refine TXi_of (TX_count (g0 _) ps.length (fun x => [(0, .v (.slice p ps.length c)), (1, .v (.slice p' qs.length c')), (12, .v (.int .i64 ps.length)), (13, .v (.int .i64 (x : Int)))]) (fun _ => []) (fun x => ((ps.zip qs).take x).all (fun z => eqP z.1 z.2) = true) rfl (by refine ⟨[], by simp [NdL, NdA, oO_cells, oO_own, iL_nil], ?_, ?_, keep0 hJ⟩ <;> simp only [FitM, FitE, ObLe, LeL, Le, List.cons_append, List.nil_append] <;> (try (simp (maxSteps := 2000000) -implicitDefEqProofs only [s_alt, s_alt20, s_alt2t, s_alt2f, ↓s_loopi, ↓v_pq, ↓PRE, POST, CORE, Nat.reduceDiv, Nat.reduceMod, Int.reduceLT, Int.reduceLE, Int.reduceToNat, Int.reduceAdd, ↓reduceIte, Nat.reduceEqDiff, Nat.reduceAdd, Nat.reduceMul, Nat.reduceSub, Nat.reduceLeDiff, Nat.reduceLT, reduceCtorEq, if_true, eq_self, forall_const, implies_true])) <;> (try simp only [Sz.Le, Sz.LeL, List.getElem?_cons_zero, List.getElem?_cons_succ]) <;> (try simp)) ?_ ?_)
    · intro x hx hI2
      obtain ⟨a, ha⟩ : ∃ a, ps[x]? = some a := ⟨_, List.getElem?_eq_getElem hx⟩
      obtain ⟨b, hb⟩ : ∃ b, qs[x]? = some b := ⟨_, List.getElem?_eq_getElem (by omega)⟩
      have f : inpL (plusA p (x * 3)) 3 = some [.bool a.torn, .string a.beside, .string a.data] := hitem x a ha
      have f' : inpL (plusA p' (x * 3)) 3 = some [.bool b.torn, .string b.beside, .string b.data] := hitem' x b hb
      have hp : p.isSome = true := inpL_isSome hin (by omega)
      have hp' : p'.isSome = true := inpL_isSome hin' (by omega)
      have i0 : (0 : Int) ≤ (x : Int) := by omega
      have i1 : (x : Int) < (ps.length : Int) := by omega
      have i2 : (x : Int) < (qs.length : Int) := by omega
      have w1 : IntKind.i64.wrap ((x : Int) + 1) = (x : Int) + 1 := Sz.w_64 (by omega) (by omega)
      have hz := zip_at ha hb
      have he : eqP a b = (a.torn == b.torn && (a.beside.toList == b.beside.toList && a.data.toList == b.data.toList)) := by simp [eqP]
      have next : eqP a b = true → ((ps.zip qs).take (x + 1)).all (fun z => eqP z.1 z.2) = true := fun h => by rw [all_snoc _ hz, hI2]; simpa using h
      have bad : eqP a b = false → k (.v (.bool false)) m := fun h => by
        have : (ps.zip qs).all (fun z => eqP z.1 z.2) = false := all_bad hz h
        rw [this] at hk; exact hk
      simp (maxSteps := 2000000) -implicitDefEqProofs only [f, f', hp, hp', i0, i1, i2, w1, s_alt, s_alt20, s_alt2t, s_alt2f, ↓s_loopi, ↓v_pq, ↓PRE, POST, CORE, Nat.reduceDiv, Nat.reduceMod, Int.reduceLT, Int.reduceLE, Int.reduceToNat, Int.reduceAdd, ↓reduceIte, Nat.reduceEqDiff, Nat.reduceAdd, Nat.reduceMul, Nat.reduceSub, Nat.reduceLeDiff, Nat.reduceLT, reduceCtorEq, if_true, eq_self, forall_const, implies_true]
      rw [← he]
      split
      · rename_i h
        exact bad (by simpa using h)
      · rename_i h
        exact ⟨next (by simpa using h), (by refine ⟨[], by simp [NdL, NdA, oO_cells, oO_own, iL_nil], ?_, ?_, keep0 hJ⟩ <;> simp only [FitM, FitE, ObLe, LeL, Le, List.cons_append, List.nil_append] <;> (try (simp (maxSteps := 2000000) -implicitDefEqProofs only [s_alt, s_alt20, s_alt2t, s_alt2f, ↓s_loopi, ↓v_pq, ↓PRE, POST, CORE, Nat.reduceDiv, Nat.reduceMod, Int.reduceLT, Int.reduceLE, Int.reduceToNat, Int.reduceAdd, ↓reduceIte, Nat.reduceEqDiff, Nat.reduceAdd, Nat.reduceMul, Nat.reduceSub, Nat.reduceLeDiff, Nat.reduceLT, reduceCtorEq, if_true, eq_self, forall_const, implies_true])) <;> (try simp only [Sz.Le, Sz.LeL, List.getElem?_cons_zero, List.getElem?_cons_succ]) <;> (try simp))⟩
    · intro hI2
      have i1 : ¬ (ps.length : Int) < (ps.length : Int) := by omega
      have hzl : (ps.zip qs).length = ps.length := by simp [hl]
      rw [← hzl, List.take_length] at hI2
      rw [hI2] at hk
      simp (maxSteps := 2000000) -implicitDefEqProofs only [i1, s_alt, s_alt20, s_alt2t, s_alt2f, ↓s_loopi, ↓v_pq, ↓PRE, POST, CORE, Nat.reduceDiv, Nat.reduceMod, Int.reduceLT, Int.reduceLE, Int.reduceToNat, Int.reduceAdd, ↓reduceIte, Nat.reduceEqDiff, Nat.reduceAdd, Nat.reduceMul, Nat.reduceSub, Nat.reduceLeDiff, Nat.reduceLT, reduceCtorEq, if_true, eq_self, forall_const, implies_true]
      exact hk
  · have hl1 : ((ps.length : Int) != (qs.length : Int)) = true := by simp; omega
    have hl2 : (ps.length == qs.length) = false := by simp [hl]
    rw [hl2, Bool.false_and] at hk
    simp (maxSteps := 2000000) -implicitDefEqProofs only [↓x104, ↓r104, hl1, s_alt, s_alt20, s_alt2t, s_alt2f, ↓s_loopi, ↓v_pq, ↓PRE, POST, CORE, Nat.reduceDiv, Nat.reduceMod, Int.reduceLT, Int.reduceLE, Int.reduceToNat, Int.reduceAdd, ↓reduceIte, Nat.reduceEqDiff, Nat.reduceAdd, Nat.reduceMul, Nat.reduceSub, Nat.reduceLeDiff, Nat.reduceLT, reduceCtorEq, if_true, eq_self, forall_const, implies_true]
    exact hk
def c62 [Inp] : Trans := fun args m k => ∃ x y : Bi, args = [.agg (x.cs.map .v), .agg (y.cs.map .v)] ∧ x.In ∧ y.In ∧ x.b.pages.length ≤ 9223372036854775807 ∧ k (.v (.bool (eqB x.b y.b))) m
theorem g104 [Inp] : GOk Try.prog [⟨104, true, c104⟩] := GOk.cons c104_ok (g0 _)
theorem c62_ok [I : Inp] : Contract Try.prog 62 true c62 := by
  refine .readN fn62 (G := fun J => [⟨104, true, @c104 J⟩]) (fun J => @g104 J) _ fun args m k h => ?_
  obtain ⟨x, y, rfl, hx, hy, hn, hk⟩ := h
  refine ⟨by simp, fun J hJ us hus hI => ?_⟩
  obtain ⟨u, t1, rfl, hk1, u2, t2, rfl, hk2, rfl⟩ := hus
  have hx' := hI _ _ _ hx
  have hy' := hI _ _ _ hy
  obtain rfl := hk1.2.1 _ rfl
  obtain rfl := hk2.2.1 _ rfl
  have e : ∀ z : Bi, SV.of (.agg z.cs.toArray) = .agg [.v (.bool z.b.bad), .v (.int .i64 z.b.er), .v (.slice z.a z.b.pages.length z.c)] := fun z => by rw [of_agg]; rfl
  rw [List.map_cons, List.map_cons, e, e, List.map_nil]
  unfold eqB at hk
  simp (maxSteps := 2000000) -implicitDefEqProofs only [↓x62, ↓r62, ↓c104, s_alt, s_alt20, s_alt2t, s_alt2f, ↓s_loopi, ↓v_pq, ↓PRE, POST, CORE, Nat.reduceDiv, Nat.reduceMod, Int.reduceLT, Int.reduceLE, Int.reduceToNat, Int.reduceAdd, ↓reduceIte, Nat.reduceEqDiff, Nat.reduceAdd, Nat.reduceMul, Nat.reduceSub, Nat.reduceLeDiff, Nat.reduceLT, reduceCtorEq, if_true, eq_self, forall_const, implies_true]
  cases h1 : (x.b.bad == y.b.bad) with
  | false =>
    rw [h1, Bool.false_and] at hk
    simp (maxSteps := 2000000) -implicitDefEqProofs only [s_alt, s_alt20, s_alt2t, s_alt2f, ↓s_loopi, ↓v_pq, ↓PRE, POST, CORE, Nat.reduceDiv, Nat.reduceMod, Int.reduceLT, Int.reduceLE, Int.reduceToNat, Int.reduceAdd, ↓reduceIte, Nat.reduceEqDiff, Nat.reduceAdd, Nat.reduceMul, Nat.reduceSub, Nat.reduceLeDiff, Nat.reduceLT, reduceCtorEq, if_true, eq_self, forall_const, implies_true]
    exact hk
  | true =>
    rw [h1, Bool.true_and] at hk
    cases h2 : (x.b.er == y.b.er) with
    | false =>
      rw [h2, Bool.false_and] at hk
      simp (maxSteps := 2000000) -implicitDefEqProofs only [h2, s_alt, s_alt20, s_alt2t, s_alt2f, ↓s_loopi, ↓v_pq, ↓PRE, POST, CORE, Nat.reduceDiv, Nat.reduceMod, Int.reduceLT, Int.reduceLE, Int.reduceToNat, Int.reduceAdd, ↓reduceIte, Nat.reduceEqDiff, Nat.reduceAdd, Nat.reduceMul, Nat.reduceSub, Nat.reduceLeDiff, Nat.reduceLT, reduceCtorEq, if_true, eq_self, forall_const, implies_true]
      exact hk
    | true =>
      rw [h2, Bool.true_and] at hk
      simp (maxSteps := 2000000) -implicitDefEqProofs only [h2, ↓c104, s_alt, s_alt20, s_alt2t, s_alt2f, ↓s_loopi, ↓v_pq, ↓PRE, POST, CORE, Nat.reduceDiv, Nat.reduceMod, Int.reduceLT, Int.reduceLE, Int.reduceToNat, Int.reduceAdd, ↓reduceIte, Nat.reduceEqDiff, Nat.reduceAdd, Nat.reduceMul, Nat.reduceSub, Nat.reduceLeDiff, Nat.reduceLT, reduceCtorEq, if_true, eq_self, forall_const, implies_true]
      exact ⟨_, _, hx', rfl, hy', rfl, hn, hk⟩
def c61 [Inp] : Trans := fun args m k => match args with
  | [.v (.slice p n c), .v (.slice p' n' c'), .fn 62 []] => ∃ xs ys : List Bi, inpL p (n * 3) = some (rowV Bi.cs xs) ∧ xs.length = n ∧ inpL p' (n' * 3) = some (rowV Bi.cs ys) ∧ ys.length = n' ∧ (∀ x ∈ xs, x.In) ∧ (∀ y ∈ ys, y.In) ∧ n ≤ 9223372036854775807 ∧ (∀ x ∈ xs, x.b.pages.length ≤ 9223372036854775807) ∧ k (.v (.bool (eqBs (xs.map Bi.b) (ys.map Bi.b)))) m
  | _ => False
theorem g62 [Inp] : GOk Try.prog [⟨62, true, c62⟩] := GOk.cons c62_ok (g0 _)
theorem In_J {I J : Inp} {m : Mem} {K : SV → Value → Prop} (hK : Kn I J m K) {x : Bi} (h : @Bi.In I x) : @Bi.In J x := hK.inp _ _ _ h
theorem c61_ok [I : Inp] : Contract Try.prog 61 true c61 := by
  refine .readGf fn61 (G := fun J => [⟨62, true, @c62 J⟩]) (fun J => @g62 J) _ fun args m k h => ?_
  unfold c61 at h
  split at h
  case h_2 => exact h.elim
  rename_i p n c p' n' c'
  obtain ⟨xs, ys, hin0, rfl, hin0', rfl, hx0, hy0, hn, hpn, hk⟩ := h
  refine ⟨by simp, fun J hJ K hK us hus => ?_⟩
  obtain ⟨u, t1, rfl, hk1, u2, t2, rfl, hk2, u3, t3, rfl, hk3, rfl⟩ := hus
  have hin := hK.inp _ _ _ hin0
  have hin' := hK.inp _ _ _ hin0'
  obtain rfl := hK.v _ _ hk1
  obtain rfl := hK.v _ _ hk2
  show @evX J _ _ _ _ _ (slots (argSlots 0 [.v (.slice p xs.length c), .v (.slice p' ys.length c'), .fn 62 []])) [] _
  unfold eqBs at hk
  rw [List.length_map, List.length_map] at hk
  by_cases hl : xs.length = ys.length
  · have hl1 : ((xs.length : Int) != (ys.length : Int)) = false := by simp [hl]
    have hl2 : (xs.length == ys.length) = true := by simp [hl]
    rw [hl2, Bool.true_and] at hk
    have hitem : ∀ (i : Nat) (x : Bi), xs[i]? = some x → inpL (plusA p (i * 3)) 3 = some x.cs := fun i x hx => inp_item Bi.len hin rfl hx
    have hitem' : ∀ (i : Nat) (x : Bi), ys[i]? = some x → inpL (plusA p' (i * 3)) 3 = some x.cs := fun i x hx => inp_item Bi.len hin' rfl hx
    simp (maxSteps := 2000000) -implicitDefEqProofs only [↓x61, ↓r61, hl1, s_alt, s_alt20, s_alt2t, s_alt2f, ↓s_loopi, ↓v_pq, ↓PRE, POST, CORE, Nat.reduceDiv, Nat.reduceMod, Int.reduceLT, Int.reduceLE, Int.reduceToNat, Int.reduceAdd, ↓reduceIte, Nat.reduceEqDiff, Nat.reduceAdd, Nat.reduceMul, Nat.reduceSub, Nat.reduceLeDiff, Nat.reduceLT, reduceCtorEq, if_true, eq_self, forall_const, implies_true]
    refine TXi_of (TX_count (@g62 J) xs.length (fun x => [(0, .v (.slice p xs.length c)), (1, .v (.slice p' ys.length c')), (2, .fn 62 []), (15, .v (.slice p xs.length c)), (16, .v (.int .i64 xs.length)), (17, .v (.int .i64 (x : Int)))]) (fun _ => []) (fun x => (((xs.map Bi.b).zip (ys.map Bi.b)).take x).all (fun z => eqB z.1 z.2) = true) rfl (by refine ⟨[], by simp [NdL, NdA, oO_cells, oO_own, iL_nil], ?_, ?_, keep0 hJ⟩ <;> simp only [FitM, FitE, ObLe, LeL, Le, List.cons_append, List.nil_append] <;> (try (simp (maxSteps := 2000000) -implicitDefEqProofs only [LeL, s_alt, s_alt20, s_alt2t, s_alt2f, ↓s_loopi, ↓v_pq, ↓PRE, POST, CORE, Nat.reduceDiv, Nat.reduceMod, Int.reduceLT, Int.reduceLE, Int.reduceToNat, Int.reduceAdd, ↓reduceIte, Nat.reduceEqDiff, Nat.reduceAdd, Nat.reduceMul, Nat.reduceSub, Nat.reduceLeDiff, Nat.reduceLT, reduceCtorEq, if_true, eq_self, forall_const, implies_true])) <;> (try simp only [Sz.Le, Sz.LeL, List.getElem?_cons_zero, List.getElem?_cons_succ]) <;> (try simp)) ?_ ?_)
    · intro x hx hI2
      obtain ⟨a, ha⟩ : ∃ a, xs[x]? = some a := ⟨_, List.getElem?_eq_getElem hx⟩
      obtain ⟨b, hb⟩ : ∃ b, ys[x]? = some b := ⟨_, List.getElem?_eq_getElem (by omega)⟩
      have f : inpL (plusA p (x * 3)) 3 = some [.bool a.b.bad, .int .i64 a.b.er, .slice a.a a.b.pages.length a.c] := hitem x a ha
      have f' : inpL (plusA p' (x * 3)) 3 = some [.bool b.b.bad, .int .i64 b.b.er, .slice b.a b.b.pages.length b.c] := hitem' x b hb
      have hp : p.isSome = true := inpL_isSome hin (by omega)
      have hp' : p'.isSome = true := inpL_isSome hin' (by omega)
      have i0 : (0 : Int) ≤ (x : Int) := by omega
      have i1 : (x : Int) < (xs.length : Int) := by omega
      have i2 : (x : Int) < (ys.length : Int) := by omega
      have w1 : IntKind.i64.wrap ((x : Int) + 1) = (x : Int) + 1 := Sz.w_64 (by omega) (by omega)
      have hz := zip_at (us := xs.map Bi.b) (bs := ys.map Bi.b) (x := x) (a := a.b) (b := b.b) (by rw [List.getElem?_map, ha]; rfl) (by rw [List.getElem?_map, hb]; rfl)
      simp (maxSteps := 2000000) -implicitDefEqProofs only [f, f', hp, hp', i0, i1, i2, w1, ↓c62, s_alt, s_alt20, s_alt2t, s_alt2f, ↓s_loopi, ↓v_pq, ↓PRE, POST, CORE, Nat.reduceDiv, Nat.reduceMod, Int.reduceLT, Int.reduceLE, Int.reduceToNat, Int.reduceAdd, ↓reduceIte, Nat.reduceEqDiff, Nat.reduceAdd, Nat.reduceMul, Nat.reduceSub, Nat.reduceLeDiff, Nat.reduceLT, reduceCtorEq, if_true, eq_self, forall_const, implies_true]
      refine ⟨a, b, rfl, In_J hK (hx0 a (List.mem_of_getElem? ha)), In_J hK (hy0 b (List.mem_of_getElem? hb)), hpn a (List.mem_of_getElem? ha), ?_⟩
      cases he : eqB a.b b.b with
      | false =>
        have : (((xs.map Bi.b).zip (ys.map Bi.b))).all (fun z => eqB z.1 z.2) = false := all_bad hz he
        rw [this] at hk
        simp (maxSteps := 2000000) -implicitDefEqProofs only [s_alt, s_alt20, s_alt2t, s_alt2f, ↓s_loopi, ↓v_pq, ↓PRE, POST, CORE, Nat.reduceDiv, Nat.reduceMod, Int.reduceLT, Int.reduceLE, Int.reduceToNat, Int.reduceAdd, ↓reduceIte, Nat.reduceEqDiff, Nat.reduceAdd, Nat.reduceMul, Nat.reduceSub, Nat.reduceLeDiff, Nat.reduceLT, reduceCtorEq, if_true, eq_self, forall_const, implies_true]
        exact hk
      | true =>
        simp (maxSteps := 2000000) -implicitDefEqProofs only [w1, s_alt, s_alt20, s_alt2t, s_alt2f, ↓s_loopi, ↓v_pq, ↓PRE, POST, CORE, Nat.reduceDiv, Nat.reduceMod, Int.reduceLT, Int.reduceLE, Int.reduceToNat, Int.reduceAdd, ↓reduceIte, Nat.reduceEqDiff, Nat.reduceAdd, Nat.reduceMul, Nat.reduceSub, Nat.reduceLeDiff, Nat.reduceLT, reduceCtorEq, if_true, eq_self, forall_const, implies_true]
        exact ⟨by rw [all_snoc _ hz, hI2]; simpa using he, (by refine ⟨[], by simp [NdL, NdA, oO_cells, oO_own, iL_nil], ?_, ?_, keep0 hJ⟩ <;> simp only [FitM, FitE, ObLe, LeL, Le, List.cons_append, List.nil_append] <;> (try (simp (maxSteps := 2000000) -implicitDefEqProofs only [LeL, s_alt, s_alt20, s_alt2t, s_alt2f, ↓s_loopi, ↓v_pq, ↓PRE, POST, CORE, Nat.reduceDiv, Nat.reduceMod, Int.reduceLT, Int.reduceLE, Int.reduceToNat, Int.reduceAdd, ↓reduceIte, Nat.reduceEqDiff, Nat.reduceAdd, Nat.reduceMul, Nat.reduceSub, Nat.reduceLeDiff, Nat.reduceLT, reduceCtorEq, if_true, eq_self, forall_const, implies_true])) <;> (try simp only [Sz.Le, Sz.LeL, List.getElem?_cons_zero, List.getElem?_cons_succ]) <;> (try simp))⟩
    · intro hI2
      have i1 : ¬ (xs.length : Int) < (xs.length : Int) := by omega
      have hzl : ((xs.map Bi.b).zip (ys.map Bi.b)).length = xs.length := by simp [hl]
      rw [← hzl, List.take_length] at hI2
      rw [hI2] at hk
      simp (maxSteps := 2000000) -implicitDefEqProofs only [i1, s_alt, s_alt20, s_alt2t, s_alt2f, ↓s_loopi, ↓v_pq, ↓PRE, POST, CORE, Nat.reduceDiv, Nat.reduceMod, Int.reduceLT, Int.reduceLE, Int.reduceToNat, Int.reduceAdd, ↓reduceIte, Nat.reduceEqDiff, Nat.reduceAdd, Nat.reduceMul, Nat.reduceSub, Nat.reduceLeDiff, Nat.reduceLT, reduceCtorEq, if_true, eq_self, forall_const, implies_true]
      exact hk
  · have hl1 : ((xs.length : Int) != (ys.length : Int)) = true := by simp; omega
    have hl2 : (xs.length == ys.length) = false := by simp [hl]
    rw [hl2, Bool.false_and] at hk
    simp (maxSteps := 2000000) -implicitDefEqProofs only [↓x61, ↓r61, hl1, s_alt, s_alt20, s_alt2t, s_alt2f, ↓s_loopi, ↓v_pq, ↓PRE, POST, CORE, Nat.reduceDiv, Nat.reduceMod, Int.reduceLT, Int.reduceLE, Int.reduceToNat, Int.reduceAdd, ↓reduceIte, Nat.reduceEqDiff, Nat.reduceAdd, Nat.reduceMul, Nat.reduceSub, Nat.reduceLeDiff, Nat.reduceLT, reduceCtorEq, if_true, eq_self, forall_const, implies_true]
    exact hk
end Go.Proofs.Ytibefgdjijmncaa
end
