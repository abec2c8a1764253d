/- Walks and plain facts for the law ImageParses, part MIPE. No condition. -/
import Derived.Test.YtibefgdjijmncaaMIPD
import Derived.Test.YtibefgdjijmncaaProg
set_option linter.unusedVariables false
set_option linter.unusedSimpArgs false
section
namespace Go.Proofs.Ytibefgdjijmncaa
open Go.RowKit Sz
set_option maxHeartbeats 4000000
set_option maxRecDepth 20000
-- (*almshouse/word.Reader).fail (2 parameters)
def x97 : XC := (.seq (.tree (.seq ⟨some 4, none, (.ofA (.mv (.cst (.v (.bool false)))))⟩
 .done))
 (.seq (.seq (.tree (.seq ⟨some 5, none, (.ofA (.mv (.tmp 0)))⟩
 (.seq ⟨some 6, none, (.ofA (.nilc (.tmp 5)))⟩
 (.seq ⟨some 7, none, (.ofA (.faddr 1 (.tmp 6)))⟩
 (.seq ⟨some 8, none, (.ofA (.load none (.tmp 7)))⟩
 (.seq ⟨some 9, none, (.ofA (.bin .eql (.tmp 8) (.cst (.v (.int .i64 0)))))⟩
 .done))))))
 (.cond (.tmp 9)
 (.tree (.seq ⟨some 10, none, (.ofA (.mv (.tmp 0)))⟩
 (.seq ⟨some 11, none, (.ofA (.mv (.tmp 1)))⟩
 (.seq ⟨some 12, none, (.ofA (.nilc (.tmp 10)))⟩
 (.seq ⟨some 13, none, (.ofA (.faddr 1 (.tmp 12)))⟩
 (.seq ⟨none, none, (.store 1 (.tmp 13) (.tmp 11))⟩
 .done))))))
 .skip))
 (.seq (.tree (.seq ⟨some 14, none, (.ofA (.mv (.tmp 0)))⟩
 (.seq ⟨some 15, none, (.ofA (.nilc (.tmp 14)))⟩
 (.seq ⟨some 16, none, (.ofA (.faddr 1 (.tmp 15)))⟩
 (.seq ⟨some 17, none, (.ofA (.load none (.tmp 16)))⟩
 (.seq ⟨some 18, none, (.ofA (.bin .neq (.tmp 17) (.cst (.v (.int .i64 0)))))⟩
 (.seq ⟨some 4, none, (.ofA (.mv (.tmp 18)))⟩
 .done)))))))
 .ret)))
def r97 : List XR := [.tmp 4]
theorem fn97 : FnX Try.prog 97 [50, 51, 52, 54, 56, 95, 97, 98, 99, 100, 101, 125, 126] 19 x97 r97 := ⟨_, Try.func97, by kernel_rfl, by kernel_rfl, by kernel_rfl, by kernel_rfl⟩
-- (*almshouse/word.Reader).next (2 parameters)
def x98 : XC := (.seq (.tree (.seq ⟨some 4, none, (.ofA (.mv (.cst (.v (.slice none 0 0)))))⟩
 .done))
 (.seq (.seq (.tree (.seq ⟨some 6, none, (.ofA (.mv (.tmp 0)))⟩
 (.seq ⟨some 7, none, (.ofA (.nilc (.tmp 6)))⟩
 (.seq ⟨some 8, none, (.ofA (.faddr 1 (.tmp 7)))⟩
 (.seq ⟨some 9, none, (.ofA (.load none (.tmp 8)))⟩
 (.seq ⟨some 10, none, (.ofA (.bin .neq (.tmp 9) (.cst (.v (.int .i64 0)))))⟩
 (.seq ⟨some 11, none, (.ofA (.mv (.tmp 10)))⟩
 (.seq ⟨some 12, some (11, false), (.ofA (.mv (.tmp 1)))⟩
 (.seq ⟨some 13, some (11, false), (.ofA (.mv (.tmp 0)))⟩
 (.seq ⟨some 14, some (11, false), (.ofA (.nilc (.tmp 13)))⟩
 (.seq ⟨some 15, some (11, false), (.ofA (.faddr 0 (.tmp 14)))⟩
 (.seq ⟨some 16, some (11, false), (.ofA (.load none (.tmp 15)))⟩
 (.seq ⟨some 17, some (11, false), (.ofA (.len (.tmp 16)))⟩
 (.seq ⟨some 18, some (11, false), (.ofA (.bin .gtr (.tmp 12) (.tmp 17)))⟩
 (.seq ⟨some 19, some (11, false), (.ofA (.mv (.tmp 18)))⟩
 (.seq ⟨some 20, some (19, true), (.ofA (.mv (.tmp 0)))⟩
 (.seq ⟨some 21, some (19, true), (.call (.cst (.fn 97 [])) [(.tmp 20), (.cst (.v (.int .i64 2)))])⟩
 (.seq ⟨some 22, some (11, false), (.ofA (.pick (.tmp 19) (.tmp 21) (.cst (.v (.bool false)))))⟩
 (.seq ⟨some 23, none, (.ofA (.pick (.tmp 11) (.cst (.v (.bool true))) (.tmp 22)))⟩
 .done)))))))))))))))))))
 (.cond (.tmp 23)
 (.seq (.tree (.seq ⟨some 4, none, (.ofA (.mv (.cst (.v (.slice none 0 0)))))⟩
 .done))
 .ret)
 .skip))
 (.seq (.tree (.seq ⟨some 24, none, (.ofA (.mv (.tmp 0)))⟩
 (.seq ⟨some 25, none, (.ofA (.nilc (.tmp 24)))⟩
 (.seq ⟨some 26, none, (.ofA (.faddr 0 (.tmp 25)))⟩
 (.seq ⟨some 27, none, (.ofA (.load none (.tmp 26)))⟩
 (.seq ⟨some 28, none, (.ofA (.mv (.tmp 1)))⟩
 (.seq ⟨some 29, none, (.ofA (.mv (.tmp 1)))⟩
 (.seq ⟨some 30, none, (.ofA (.slc3 1 (.tmp 27) none (.tmp 28) (.tmp 29)))⟩
 (.seq ⟨some 5, none, (.ofA (.mv (.tmp 30)))⟩
 .done)))))))))
 (.seq (.tree (.seq ⟨some 31, none, (.ofA (.mv (.tmp 0)))⟩
 (.seq ⟨some 32, none, (.ofA (.mv (.tmp 0)))⟩
 (.seq ⟨some 33, none, (.ofA (.nilc (.tmp 32)))⟩
 (.seq ⟨some 34, none, (.ofA (.faddr 0 (.tmp 33)))⟩
 (.seq ⟨some 35, none, (.ofA (.load none (.tmp 34)))⟩
 (.seq ⟨some 36, none, (.ofA (.mv (.tmp 1)))⟩
 (.seq ⟨some 37, none, (.ofA (.slc 1 (.tmp 35) (some (.tmp 36)) none))⟩
 (.seq ⟨some 38, none, (.ofA (.nilc (.tmp 31)))⟩
 (.seq ⟨some 39, none, (.ofA (.faddr 0 (.tmp 38)))⟩
 (.seq ⟨none, none, (.store 1 (.tmp 39) (.tmp 37))⟩
 .done)))))))))))
 (.seq (.tree (.seq ⟨some 40, none, (.ofA (.mv (.tmp 5)))⟩
 (.seq ⟨some 4, none, (.ofA (.mv (.tmp 40)))⟩
 .done)))
 .ret)))))
def r98 : List XR := [.tmp 4]
theorem fn98 : FnX Try.prog 98 [50, 51, 52, 54, 56, 95, 97, 98, 99, 100, 101, 125, 126] 41 x98 r98 := ⟨_, Try.func98, by kernel_rfl, by kernel_rfl, by kernel_rfl, by kernel_rfl⟩
-- (*almshouse/word.Reader).Number (2 parameters)
def x52 : XC := (.seq (.tree (.seq ⟨some 4, none, (.ofA (.mv (.cst (.v (.int .i64 0)))))⟩
 .done))
 (.seq (.seq (.tree (.seq ⟨some 8, none, (.ofA (.mv (.tmp 0)))⟩
 (.seq ⟨some 9, none, (.ofA (.eqn false 1 (.tmp 8) (.cst (.v (.pointer none)))))⟩
 (.seq ⟨some 10, none, (.ofA (.mv (.tmp 9)))⟩
 (.seq ⟨some 11, some (10, false), (.ofA (.mv (.tmp 1)))⟩
 (.seq ⟨some 12, some (10, false), (.call (.cst (.fn 96 [])) [(.tmp 11)])⟩
 (.seq ⟨some 13, some (10, false), (.ofA (.un .not (.tmp 12)))⟩
 (.seq ⟨some 14, some (10, false), (.ofA (.mv (.tmp 13)))⟩
 (.seq ⟨some 15, some (14, true), (.ofA (.mv (.tmp 0)))⟩
 (.seq ⟨some 16, some (14, true), (.call (.cst (.fn 97 [])) [(.tmp 15), (.cst (.v (.int .i64 1)))])⟩
 (.seq ⟨some 17, some (10, false), (.ofA (.pick (.tmp 14) (.tmp 16) (.cst (.v (.bool false)))))⟩
 (.seq ⟨some 18, none, (.ofA (.pick (.tmp 10) (.cst (.v (.bool true))) (.tmp 17)))⟩
 .done))))))))))))
 (.cond (.tmp 18)
 (.seq (.tree (.seq ⟨some 4, none, (.ofA (.mv (.cst (.v (.int .i64 0)))))⟩
 .done))
 .ret)
 .skip))
 (.seq (.tree (.seq ⟨some 5, none, (.ofA (.mv (.cst (.v (.int .i64 0)))))⟩
 .done))
 (.seq (.seq (.tree (.seq ⟨some 19, none, (.ofA (.mv (.tmp 0)))⟩
 (.seq ⟨some 20, none, (.ofA (.mv (.tmp 1)))⟩
 (.seq ⟨some 21, none, (.call (.cst (.fn 98 [])) [(.tmp 19), (.tmp 20)])⟩
 (.seq ⟨some 22, none, (.ofA (.len (.tmp 21)))⟩
 (.seq ⟨some 23, none, (.ofA (.mv (.cst (.v (.int .i64 0)))))⟩
 .done))))))
 (.block 0 (.loop (.seq (.tree (.seq ⟨some 24, none, (.ofA (.bin .lss (.tmp 23) (.tmp 22)))⟩
 .done))
 (.seq (.cond (.tmp 24)
 .skip
 (.exit 0))
 (.seq (.block 1 (.seq (.tree (.seq ⟨some 25, none, (.ofA (.mv (.tmp 23)))⟩
 (.seq ⟨some 26, none, (.ofA (.isl 1 (.tmp 21) (.tmp 23)))⟩
 (.seq ⟨some 27, none, (.ofA (.load none (.tmp 26)))⟩
 (.seq ⟨some 6, none, (.ofA (.mv (.tmp 25)))⟩
 (.seq ⟨some 7, none, (.ofA (.mv (.tmp 27)))⟩
 .done))))))
 (.tree (.seq ⟨some 28, none, (.ofA (.mv (.tmp 5)))⟩
 (.seq ⟨some 29, none, (.ofA (.mv (.tmp 7)))⟩
 (.seq ⟨some 30, none, (.ofA (.conv .i64 (.tmp 29)))⟩
 (.seq ⟨some 31, none, (.ofA (.mv (.tmp 6)))⟩
 (.seq ⟨some 32, none, (.ofA (.bin .mul (.cst (.v (.int .i64 8))) (.tmp 31)))⟩
 (.seq ⟨some 33, none, (.ofA (.conv .u64 (.tmp 32)))⟩
 (.seq ⟨some 34, none, (.ofA (.bin .shl (.tmp 30) (.tmp 33)))⟩
 (.seq ⟨some 35, none, (.ofA (.bin .or (.tmp 28) (.tmp 34)))⟩
 (.seq ⟨some 5, none, (.ofA (.mv (.tmp 35)))⟩
 .done))))))))))))
 (.tree (.seq ⟨some 36, none, (.ofA (.bin .add (.tmp 23) (.cst (.v (.int .i64 1)))))⟩
 (.seq ⟨some 23, none, (.ofA (.mv (.tmp 36)))⟩
 .done)))))))))
 (.seq (.tree (.seq ⟨some 37, none, (.ofA (.mv (.tmp 5)))⟩
 (.seq ⟨some 4, none, (.ofA (.mv (.tmp 37)))⟩
 .done)))
 .ret)))))
def r52 : List XR := [.tmp 4]
theorem fn52 : FnX Try.prog 52 [50, 51, 52, 54, 56, 95, 97, 98, 99, 100, 101, 125, 126] 38 x52 r52 := ⟨_, Try.func52, by kernel_rfl, by kernel_rfl, by kernel_rfl, by kernel_rfl⟩
def Rd (sl : SV) (H : Mem) (bs : List Int) : Prop :=
  (∃ (o : Nat) (B : List Int), sl = .row 1 o bs.length 1 ∧ H = [⟨true, bL B⟩] ∧ (B.drop o).take bs.length = bs ∧ o + bs.length ≤ B.length ∧ Byt B ∧ B.length ≤ 1000000) ∨ (bs = [] ∧ (sl = .emp ∨ ∃ p c, sl = .v (.slice p 0 c)))
theorem Rd.byt {sl : SV} {H : Mem} {bs : List Int} (h : Rd sl H bs) : Byt bs := by
  rcases h with ⟨o, B, _, _, e, _, hb, _⟩ | ⟨rfl, _⟩
  · rw [← e]; exact (hb.drop o).take _
  · intro x hx; simp at hx
theorem Rd.len {sl : SV} {H : Mem} {bs : List Int} (h : Rd sl H bs) : bs.length ≤ 1000000 := by
  rcases h with ⟨o, B, _, _, e, h2, hb, h3⟩ | ⟨rfl, _⟩
  · omega
  · simp
theorem Rd.nil {H : Mem} : Rd (.v (.slice none 0 0)) H [] := .inr ⟨rfl, .inr ⟨_, _, rfl⟩⟩
abbrev rdO (sl : SV) (e : Int) : SObj := ⟨true, [sl, .v (.int .i64 e)]⟩
def c97 [Inp] : Trans := fun args m k => ∃ (sl : SV) (e c : Int) (H : Mem), args = [.ptr 0 0, .v (.int .i64 c)] ∧ m = rdO sl e :: H ∧ c ≠ 0 ∧ k (.v (.bool true)) (rdO sl (if e = 0 then c else e) :: H)
theorem c97_ok [Inp] : Contract Try.prog 97 false c97 := by
  refine .full fn97 (G := fun _ => []) (fun J => @g0 J _) _ fun args m k h => ?_
  unfold c97 at h
  obtain ⟨sl, e, c, H, rfl, rfl, hc, hk⟩ := h
  refine ⟨by simp, fun J hJ hA => ?_⟩
  by_cases he : e = 0
  · subst he
    rw [if_pos rfl] at hk
    have hc2 : (c != 0) = true := by simpa using hc
    have h00 : ((0 : Int) == 0) = true := rfl
    simp (maxSteps := 2000000) -implicitDefEqProofs only [↓x97, ↓r97, hc2, h00, s_alt, s_alt20, s_alt2t, s_alt2f, ↓s_loopi, ↓v_pq, ↓PRE, POST, CORE, Nat.reduceDiv, Nat.reduceMod, Int.reduceLT, Int.reduceLE, Int.reduceToNat, Int.reduceAdd, ↓reduceIte, Nat.reduceEqDiff, Nat.reduceAdd, Nat.reduceMul, Nat.reduceSub, Nat.reduceLeDiff, Nat.reduceLT, reduceCtorEq, if_true, eq_self, forall_const, implies_true]
    exact hk
  · rw [if_neg he] at hk
    have he2 : (e == 0) = false := by simpa using he
    have he3 : (e != 0) = true := by simpa using he
    simp (maxSteps := 2000000) -implicitDefEqProofs only [↓x97, ↓r97, he2, he3, s_alt, s_alt20, s_alt2t, s_alt2f, ↓s_loopi, ↓v_pq, ↓PRE, POST, CORE, Nat.reduceDiv, Nat.reduceMod, Int.reduceLT, Int.reduceLE, Int.reduceToNat, Int.reduceAdd, ↓reduceIte, Nat.reduceEqDiff, Nat.reduceAdd, Nat.reduceMul, Nat.reduceSub, Nat.reduceLeDiff, Nat.reduceLT, reduceCtorEq, if_true, eq_self, forall_const, implies_true]
    exact hk
def c98 [Inp] : Trans := fun args m k => ∃ (sl : SV) (e : Int) (n : Nat) (H : Mem) (bs : List Int), args = [.ptr 0 0, .v (.int .i64 n)] ∧ m = rdO sl e :: H ∧ Rd sl H bs ∧
  ∀ t sl2, Rd t H (takeR n (bs, e)).1 → Rd sl2 H (takeR n (bs, e)).2.1 → k t (rdO sl2 (takeR n (bs, e)).2.2 :: H)
def G98 [Inp] : List CEntry := [⟨97, false, c97⟩]
theorem g98 [Inp] : GOk Try.prog G98 := GOk.cons c97_ok (g0 _)
theorem c98_ok [Inp] : Contract Try.prog 98 false c98 := by
  refine .full fn98 (G := fun J => @G98 J) (fun J => @g98 J) _ fun args m k h => ?_
  unfold c98 at h
  obtain ⟨sl, e, n, H, bs, rfl, rfl, hr, hk⟩ := h
  refine ⟨by simp, fun J hJ hA => ?_⟩
  by_cases he : e = 0
  · subst he
    by_cases hn : bs.length < n
    · have hk := hk (.v (.slice none 0 0)) sl
      rw [show takeR n (bs, 0) = ([], (bs, 2)) by unfold takeR; simp [hn]] at hk
      have hk := hk Rd.nil hr
      have hl := hr.len
      have d1 : decide ((bs.length : Int) < (n : Int)) = true := decide_eq_true (by omega)
      have h00 : ((0 : Int) != 0) = false := rfl
      rcases hr with ⟨o, B, rfl, rfl, e1, e2, e3, e4⟩ | ⟨rfl, rfl | ⟨p, c, rfl⟩⟩
      · simp (maxSteps := 2000000) -implicitDefEqProofs only [↓x98, ↓r98, ↓G98, ↓c97, d1, h00, s_alt, s_alt20, s_alt2t, s_alt2f, ↓s_loopi, ↓v_pq, ↓PRE, POST, CORE, Nat.reduceDiv, Nat.reduceMod, Int.reduceLT, Int.reduceLE, Int.reduceToNat, Int.reduceAdd, ↓reduceIte, Nat.reduceEqDiff, Nat.reduceAdd, Nat.reduceMul, Nat.reduceSub, Nat.reduceLeDiff, Nat.reduceLT, reduceCtorEq, if_true, eq_self, forall_const, implies_true]
        exact ⟨_, _, _, _, rfl, rfl, by decide, hk⟩
      · have d1 : decide ((0 : Int) < (n : Int)) = true := decide_eq_true (by simp at hn; omega)
        simp (maxSteps := 2000000) -implicitDefEqProofs only [↓x98, ↓r98, ↓G98, ↓c97, d1, h00, s_alt, s_alt20, s_alt2t, s_alt2f, ↓s_loopi, ↓v_pq, ↓PRE, POST, CORE, Nat.reduceDiv, Nat.reduceMod, Int.reduceLT, Int.reduceLE, Int.reduceToNat, Int.reduceAdd, ↓reduceIte, Nat.reduceEqDiff, Nat.reduceAdd, Nat.reduceMul, Nat.reduceSub, Nat.reduceLeDiff, Nat.reduceLT, reduceCtorEq, if_true, eq_self, forall_const, implies_true]
        exact ⟨_, _, _, _, rfl, rfl, by decide, hk⟩
      · have d1 : decide ((0 : Int) < (n : Int)) = true := decide_eq_true (by simp at hn; omega)
        simp (maxSteps := 2000000) -implicitDefEqProofs only [↓x98, ↓r98, ↓G98, ↓c97, d1, h00, s_alt, s_alt20, s_alt2t, s_alt2f, ↓s_loopi, ↓v_pq, ↓PRE, POST, CORE, Nat.reduceDiv, Nat.reduceMod, Int.reduceLT, Int.reduceLE, Int.reduceToNat, Int.reduceAdd, ↓reduceIte, Nat.reduceEqDiff, Nat.reduceAdd, Nat.reduceMul, Nat.reduceSub, Nat.reduceLeDiff, Nat.reduceLT, reduceCtorEq, if_true, eq_self, forall_const, implies_true]
        exact ⟨_, _, _, _, rfl, rfl, by decide, hk⟩
    · rw [show takeR n (bs, 0) = (bs.take n, (bs.drop n, 0)) by unfold takeR; simp [hn]] at hk
      have hl := hr.len
      have d1 : decide ((bs.length : Int) < (n : Int)) = false := decide_eq_false (by omega)
      have h00 : ((0 : Int) != 0) = false := rfl
      have d2 : n ≤ bs.length := by omega
      rcases hr with ⟨o, B, rfl, rfl, e1, e2, e3, e4⟩ | ⟨rfl, rfl | ⟨p, c, rfl⟩⟩
      · have lt : (bs.take n).length = n := by simp; omega
        have ld : (bs.drop n).length = bs.length - n := by simp
        have k1 : Rd (.row 1 o n 1) [⟨true, bL B⟩] (bs.take n) := .inl ⟨o, B, by rw [lt], rfl, by rw [lt, ← e1, List.take_take]; simp [e1]; omega, by omega, e3, e4⟩
        simp (maxSteps := 2000000) -implicitDefEqProofs only [↓x98, ↓r98, ↓G98, ↓c97, d1, d2, h00, s_alt, s_alt20, s_alt2t, s_alt2f, ↓s_loopi, ↓v_pq, ↓PRE, POST, CORE, Nat.reduceDiv, Nat.reduceMod, Int.reduceLT, Int.reduceLE, Int.reduceToNat, Int.reduceAdd, ↓reduceIte, Nat.reduceEqDiff, Nat.reduceAdd, Nat.reduceMul, Nat.reduceSub, Nat.reduceLeDiff, Nat.reduceLT, reduceCtorEq, if_true, eq_self, forall_const, implies_true]
        refine ⟨by omega, by omega, by omega, ?_⟩
        rw [if_pos (Or.inl trivial)]
        refine ⟨by omega, ?_⟩
        rw [Nat.sub_zero]
        split
        · rename_i h0
          have e5 : (B.drop (o + n)).take (bs.length - n) = bs.drop n := by rw [← List.drop_drop, ← List.drop_take, e1]
          exact hk _ _ k1 (.inl ⟨o + n, B, by rw [ld], rfl, by rw [ld]; exact e5, by rw [ld]; omega, e3, e4⟩)
        · rename_i h0
          have : n = bs.length := by omega
          exact hk _ _ k1 (.inr ⟨by simp [this], .inl rfl⟩)
      · have : n = 0 := by simpa using d2
        subst this
        have d1 : decide ((0 : Int) < ((0 : Nat) : Int)) = false := rfl
        simp (maxSteps := 2000000) -implicitDefEqProofs only [↓x98, ↓r98, ↓G98, ↓c97, d1, h00, Sz.v_slce, Sz.v_slc3e, s_alt, s_alt20, s_alt2t, s_alt2f, ↓s_loopi, ↓v_pq, ↓PRE, POST, CORE, Nat.reduceDiv, Nat.reduceMod, Int.reduceLT, Int.reduceLE, Int.reduceToNat, Int.reduceAdd, ↓reduceIte, Nat.reduceEqDiff, Nat.reduceAdd, Nat.reduceMul, Nat.reduceSub, Nat.reduceLeDiff, Nat.reduceLT, reduceCtorEq, if_true, eq_self, forall_const, implies_true]
        exact hk _ _ (.inr ⟨rfl, .inl rfl⟩) (.inr ⟨rfl, .inl rfl⟩)
      · have : n = 0 := by simpa using d2
        subst this
        have d1 : decide ((0 : Int) < ((0 : Nat) : Int)) = false := rfl
        simp (maxSteps := 2000000) -implicitDefEqProofs only [↓x98, ↓r98, ↓G98, ↓c97, d1, h00, s_alt, s_alt20, s_alt2t, s_alt2f, ↓s_loopi, ↓v_pq, ↓PRE, POST, CORE, Nat.reduceDiv, Nat.reduceMod, Int.reduceLT, Int.reduceLE, Int.reduceToNat, Int.reduceAdd, ↓reduceIte, Nat.reduceEqDiff, Nat.reduceAdd, Nat.reduceMul, Nat.reduceSub, Nat.reduceLeDiff, Nat.reduceLT, reduceCtorEq, if_true, eq_self, forall_const, implies_true]
        exact ⟨by omega, by omega, hk _ _ (.inr ⟨rfl, .inr ⟨_, _, rfl⟩⟩) (.inr ⟨rfl, .inr ⟨_, _, rfl⟩⟩)⟩
  · have hk := hk (.v (.slice none 0 0)) sl
    rw [show takeR n (bs, e) = ([], (bs, e)) by unfold takeR; simp [he]] at hk
    have hk := hk Rd.nil hr
    have he3 : (e != 0) = true := by simpa using he
    simp (maxSteps := 2000000) -implicitDefEqProofs only [↓x98, ↓r98, ↓G98, ↓c97, he3, s_alt, s_alt20, s_alt2t, s_alt2f, ↓s_loopi, ↓v_pq, ↓PRE, POST, CORE, Nat.reduceDiv, Nat.reduceMod, Int.reduceLT, Int.reduceLE, Int.reduceToNat, Int.reduceAdd, ↓reduceIte, Nat.reduceEqDiff, Nat.reduceAdd, Nat.reduceMul, Nat.reduceSub, Nat.reduceLeDiff, Nat.reduceLT, reduceCtorEq, if_true, eq_self, forall_const, implies_true]
    exact hk
theorem takeR_len {n : Nat} {s : RS} : (takeR n s).1 = [] ∨ ((takeR n s).1.length = n) := by
  unfold takeR
  split
  · split
    · exact .inl rfl
    · refine .inr ?_
      simp; omega
  · exact .inl rfl
theorem w1 : IntKind.i64.wrap 1 = 1 := rfl
theorem w2 : IntKind.i64.wrap 2 = 2 := rfl
theorem w3 : IntKind.i64.wrap 3 = 3 := rfl
theorem w4 : IntKind.i64.wrap 4 = 4 := rfl
theorem v0 : IntKind.i64.wrap 0 = 0 := rfl
theorem v8 : IntKind.i64.wrap 8 = 8 := rfl
theorem v16 : IntKind.i64.wrap 16 = 16 := rfl
theorem v24 : IntKind.i64.wrap 24 = 24 := rfl
theorem u0 : IntKind.u64.wrap 0 = 0 := rfl
theorem u8 : IntKind.u64.wrap 8 = 8 := rfl
theorem u16 : IntKind.u64.wrap 16 = 16 := rfl
theorem u24 : IntKind.u64.wrap 24 = 24 := rfl
theorem w_byte {x : Int} (h : 0 ≤ x ∧ x ≤ 255) : IntKind.i64.wrap x = x := Sz.w_64 (by omega) (by omega)
theorem or_at {acc x : Int} {k : Nat} (h0 : 0 ≤ acc) (h1 : acc < 2 ^ k) (hx : 0 ≤ x ∧ x ≤ 255) (hk : k ≤ 24) :
    IntKind.i64.wrap ↑(BitVec.ofInt IntKind.i64.bits acc ||| BitVec.ofInt IntKind.i64.bits (IntKind.i64.wrap (x * 2 ^ min k IntKind.i64.bits))).toNat = acc + x * 2 ^ k := by
  obtain ⟨A, rfl⟩ := Int.eq_ofNat_of_zero_le h0
  obtain ⟨X, rfl⟩ := Int.eq_ofNat_of_zero_le hx.1
  have hA : A < 2 ^ k := by exact_mod_cast h1
  have hX : X ≤ 255 := by omega
  have hk2 : 2 ^ k ≤ 16777216 := Nat.le_trans (Nat.pow_le_pow_right (by decide) hk) (by decide)
  have hm : X * 2 ^ k ≤ 255 * 16777216 := Nat.mul_le_mul hX hk2
  have e1 : min k IntKind.i64.bits = k := Nat.min_eq_left (Nat.le_trans hk (by decide))
  have e2 : ((X : Int) * 2 ^ k) = ((X * 2 ^ k : Nat) : Int) := by simp
  have e3 : IntKind.i64.wrap ((X * 2 ^ k : Nat) : Int) = ((X * 2 ^ k : Nat) : Int) := Sz.w_64 (by omega) (by omega)
  have e4 : ∀ n : Nat, n < 18446744073709551616 → (BitVec.ofInt 64 (n : Int)).toNat = n := fun n hn => by
    rw [BitVec.ofInt_natCast, BitVec.toNat_ofNat]
    exact Nat.mod_eq_of_lt hn
  rw [e1, e2, e3]
  show IntKind.i64.wrap ↑(BitVec.ofInt 64 (A : Int) ||| BitVec.ofInt 64 ((X * 2 ^ k : Nat) : Int)).toNat = _
  rw [BitVec.toNat_or, e4 A (by omega), e4 _ (by omega)]
  have e5 : A ||| X * 2 ^ k = A + X * 2 ^ k := by
    rw [Nat.or_comm, Nat.mul_comm, ← Nat.two_pow_add_eq_or_of_lt hA, Nat.add_comm]
  rw [e5, ← Int.natCast_add]
  exact Sz.w_64 (by omega) (by omega)
def c52 [Inp] : Trans := fun args m k => ∃ (sl : SV) (e : Int) (n : Nat) (H : Mem) (bs : List Int), args = [.ptr 0 0, .v (.int .i64 n)] ∧ m = rdO sl e :: H ∧ Rd sl H bs ∧ (n = 1 ∨ n = 2 ∨ n = 4) ∧
  ∀ sl2, Rd sl2 H (numR n (bs, e)).2.1 → k (.v (.int .i64 (numR n (bs, e)).1)) (rdO sl2 (numR n (bs, e)).2.2 :: H)
def G52 [Inp] : List CEntry := [⟨96, true, c96⟩, ⟨97, false, c97⟩, ⟨98, false, c98⟩]
theorem g52 [Inp] : GOk Try.prog G52 := GOk.cons c96_ok (GOk.cons c97_ok (GOk.cons c98_ok (g0 _)))
theorem ev52 [J : Inp] {k : SV → Mem → Prop} {sl : SV} {e : Int} {n : Nat} {H : Mem} {bs : List Int} (hr : Rd sl H bs) (hn : n = 1 ∨ n = 2 ∨ n = 4)
    (hk : ∀ sl2, Rd sl2 H (numR n (bs, e)).2.1 → k (.v (.int .i64 (numR n (bs, e)).1)) (rdO sl2 (numR n (bs, e)).2.2 :: H)) :
    evX Try.prog 38 [50, 51, 52, 54, 56, 95, 97, 98, 99, 100, 101, 125, 126] G52 x52 (slots (argSlots 0 [.ptr 0 0, .v (.int .i64 n)])) (rdO sl e :: H) (fun ex e m' => EndsX ex ∧ evR r52 e m' fun s => k s m') := by
  have hs : sizedF (n : Int) = true := by rcases hn with rfl | rfl | rfl <;> rfl
  unfold numR at hk
  simp (maxSteps := 2000000) -implicitDefEqProofs only [↓x52, ↓r52, ↓G52, ↓c96, ↓c97, ↓c98, hs, s_alt, s_alt20, s_alt2t, s_alt2f, ↓s_loopi, ↓v_pq, ↓PRE, POST, CORE, Nat.reduceDiv, Nat.reduceMod, Int.reduceLT, Int.reduceLE, Int.reduceToNat, Int.reduceAdd, ↓reduceIte, Nat.reduceEqDiff, Nat.reduceAdd, Nat.reduceMul, Nat.reduceSub, Nat.reduceLeDiff, Nat.reduceLT, reduceCtorEq, if_true, eq_self, forall_const, implies_true]
  refine ⟨sl, e, n, H, bs, rfl, rfl, hr, fun t sl2 ht h2 => ?_⟩
  have hk := hk sl2 h2
  have hle := takeR_len (n := n) (s := (bs, e))
  generalize (takeR n (bs, e)).1 = w at *
  generalize (takeR n (bs, e)).2 = r at *
  by_cases hw : w = []
  · subst hw
    rcases ht with ⟨o, B, rfl, rfl, e1, e2, e3, e4⟩ | ⟨_, rfl | ⟨p, c, rfl⟩⟩ <;> simp (maxSteps := 2000000) -implicitDefEqProofs only [s_alt, s_alt20, s_alt2t, s_alt2f, ↓s_loopi, ↓v_pq, ↓PRE, POST, CORE, Nat.reduceDiv, Nat.reduceMod, Int.reduceLT, Int.reduceLE, Int.reduceToNat, Int.reduceAdd, ↓reduceIte, Nat.reduceEqDiff, Nat.reduceAdd, Nat.reduceMul, Nat.reduceSub, Nat.reduceLeDiff, Nat.reduceLT, reduceCtorEq, if_true, eq_self, forall_const, implies_true]
    all_goals refine TXi_of (TX_unroll (@g52 J) 1 ?_)
    all_goals simp (maxSteps := 2000000) -implicitDefEqProofs only [↓G52, s_alt, s_alt20, s_alt2t, s_alt2f, ↓s_loopi, ↓v_pq, ↓PRE, POST, CORE, Nat.reduceDiv, Nat.reduceMod, Int.reduceLT, Int.reduceLE, Int.reduceToNat, Int.reduceAdd, ↓reduceIte, Nat.reduceEqDiff, Nat.reduceAdd, Nat.reduceMul, Nat.reduceSub, Nat.reduceLeDiff, Nat.reduceLT, reduceCtorEq, if_true, eq_self, forall_const, implies_true]
    all_goals exact hk
  · have hle : w.length = n := hle.resolve_left hw
    rcases ht with ⟨o, B, rfl, rfl, e1, e2, e3, e4⟩ | ⟨h0, _⟩
    case inr => exact (hw h0).elim
    have hg : ∀ (i : Nat) (x : Int), w[i]? = some x → (bL B)[o + i]? = some (.v (.int .u8 x)) := fun i x hx => by
      rw [← e1, List.getElem?_take] at hx
      split at hx
      · rw [List.getElem?_drop] at hx
        simp [bL, hx]
      · cases hx
    have hbw : Byt w := by rw [← e1]; exact (e3.drop o).take _
    rcases hn with rfl | rfl | rfl
    · match w, hle with
      | [a], _ =>
        have q0 := hg 0 a rfl
        rw [Nat.add_zero] at q0
        have ha := hbw a (by simp)
        have wa := w_byte ha
        simp (maxSteps := 2000000) -implicitDefEqProofs only [s_alt, s_alt20, s_alt2t, s_alt2f, ↓s_loopi, ↓v_pq, ↓PRE, POST, CORE, Nat.reduceDiv, Nat.reduceMod, Int.reduceLT, Int.reduceLE, Int.reduceToNat, Int.reduceAdd, ↓reduceIte, Nat.reduceEqDiff, Nat.reduceAdd, Nat.reduceMul, Nat.reduceSub, Nat.reduceLeDiff, Nat.reduceLT, reduceCtorEq, if_true, eq_self, forall_const, implies_true]
        refine TXi_of (TX_unroll (@g52 J) 2 ?_)
        simp (maxSteps := 2000000) -implicitDefEqProofs only [↓G52, Int.reduceMul, q0, w1, v0, v8, v16, v24, u0, u8, u16, u24, wa, s_alt, s_alt20, s_alt2t, s_alt2f, ↓s_loopi, ↓v_pq, ↓PRE, POST, CORE, Nat.reduceDiv, Nat.reduceMod, Int.reduceLT, Int.reduceLE, Int.reduceToNat, Int.reduceAdd, ↓reduceIte, Nat.reduceEqDiff, Nat.reduceAdd, Nat.reduceMul, Nat.reduceSub, Nat.reduceLeDiff, Nat.reduceLT, reduceCtorEq, if_true, eq_self, forall_const, implies_true]
        rw [or_at (k := 0) (by omega) (by omega) ha (by omega)]
        simpa [leV] using hk
    · match w, hle with
      | [a, b], _ =>
        have q0 := hg 0 a rfl
        rw [Nat.add_zero] at q0
        have q1 := hg 1 b rfl
        have ha := hbw a (by simp)
        have wa := w_byte ha
        have hb := hbw b (by simp)
        have wb := w_byte hb
        simp (maxSteps := 2000000) -implicitDefEqProofs only [s_alt, s_alt20, s_alt2t, s_alt2f, ↓s_loopi, ↓v_pq, ↓PRE, POST, CORE, Nat.reduceDiv, Nat.reduceMod, Int.reduceLT, Int.reduceLE, Int.reduceToNat, Int.reduceAdd, ↓reduceIte, Nat.reduceEqDiff, Nat.reduceAdd, Nat.reduceMul, Nat.reduceSub, Nat.reduceLeDiff, Nat.reduceLT, reduceCtorEq, if_true, eq_self, forall_const, implies_true]
        refine TXi_of (TX_unroll (@g52 J) 3 ?_)
        simp (maxSteps := 2000000) -implicitDefEqProofs only [↓G52, Int.reduceMul, q0, q1, w1, w2, w3, w4, v0, v8, v16, v24, u0, u8, u16, u24, wa, wb, s_alt, s_alt20, s_alt2t, s_alt2f, ↓s_loopi, ↓v_pq, ↓PRE, POST, CORE, Nat.reduceDiv, Nat.reduceMod, Int.reduceLT, Int.reduceLE, Int.reduceToNat, Int.reduceAdd, ↓reduceIte, Nat.reduceEqDiff, Nat.reduceAdd, Nat.reduceMul, Nat.reduceSub, Nat.reduceLeDiff, Nat.reduceLT, reduceCtorEq, if_true, eq_self, forall_const, implies_true]
        rw [or_at (k := 0) (by omega) (by omega) ha (by omega), or_at (k := 8) (by omega) (by omega) hb (by omega)]
        simpa [leV, Int.mul_comm] using hk
    · match w, hle with
      | [a, b, c, d], _ =>
        have q0 := hg 0 a rfl
        rw [Nat.add_zero] at q0
        have q1 := hg 1 b rfl
        have q2 := hg 2 c rfl
        have q3 := hg 3 d rfl
        have ha := hbw a (by simp)
        have hb := hbw b (by simp)
        have hc := hbw c (by simp)
        have hd := hbw d (by simp)
        have wa := w_byte ha
        have wb := w_byte hb
        have wc := w_byte hc
        have wd := w_byte hd
        simp (maxSteps := 2000000) -implicitDefEqProofs only [s_alt, s_alt20, s_alt2t, s_alt2f, ↓s_loopi, ↓v_pq, ↓PRE, POST, CORE, Nat.reduceDiv, Nat.reduceMod, Int.reduceLT, Int.reduceLE, Int.reduceToNat, Int.reduceAdd, ↓reduceIte, Nat.reduceEqDiff, Nat.reduceAdd, Nat.reduceMul, Nat.reduceSub, Nat.reduceLeDiff, Nat.reduceLT, reduceCtorEq, if_true, eq_self, forall_const, implies_true]
        refine TXi_of (TX_unroll (@g52 J) 5 ?_)
        simp (maxSteps := 2000000) -implicitDefEqProofs only [↓G52, Int.reduceMul, q0, q1, q2, q3, w1, w2, w3, w4, v0, v8, v16, v24, u0, u8, u16, u24, wa, wb, wc, wd, s_alt, s_alt20, s_alt2t, s_alt2f, ↓s_loopi, ↓v_pq, ↓PRE, POST, CORE, Nat.reduceDiv, Nat.reduceMod, Int.reduceLT, Int.reduceLE, Int.reduceToNat, Int.reduceAdd, ↓reduceIte, Nat.reduceEqDiff, Nat.reduceAdd, Nat.reduceMul, Nat.reduceSub, Nat.reduceLeDiff, Nat.reduceLT, reduceCtorEq, if_true, eq_self, forall_const, implies_true]
        rw [or_at (k := 0) (by omega) (by omega) ha (by omega), or_at (k := 8) (by omega) (by omega) hb (by omega), or_at (k := 16) (by omega) (by omega) hc (by omega), or_at (k := 24) (by omega) (by omega) hd (by omega)]
        have e9 : (0 + a * 2 ^ 0 + b * 2 ^ 8 + c * 2 ^ 16 + d * 2 ^ 24 : Int) = leV [a, b, c, d] := by simp only [leV]; omega
        rw [e9]
        exact hk
theorem c52_ok [Inp] : Contract Try.prog 52 false c52 := by
  refine .full fn52 (G := fun J => @G52 J) (fun J => @g52 J) _ fun args m k h => ?_
  unfold c52 at h
  obtain ⟨sl, e, n, H, bs, rfl, rfl, hr, hn, hk⟩ := h
  exact ⟨by simp, fun J hJ hA => @ev52 J _ _ _ _ _ _ hr hn hk⟩
end Go.Proofs.Ytibefgdjijmncaa
end
section
namespace Go.Proofs.Ytibefgdjijmncaa
open Go.RowKit Sz
set_option maxHeartbeats 4000000
set_option maxRecDepth 20000
def RdQ (s : RS) : List SV → Mem → Prop := fun h H => ∃ sl, h = [sl, .v (.int .i64 s.2)] ∧ Rd sl H s.1 ∧ (H = [] ∨ ∃ B, H = [⟨true, bL B⟩])
def rH (s : RS) : SObj := absO (hide 0 (RdQ s)) []
theorem knowsL_v {I J : Inp} {m : Mem} : ∀ {us vs : List Value}, KnowsL I J m (us.map .v) vs → vs = us
  | [], vs, h => h
  | u :: us, vs, h => by
    obtain ⟨w, t, rfl, hk, ht⟩ := h
    rw [hk.1 _ rfl, knowsL_v ht]
theorem rd_le {sl : SV} {H : Mem} {bs : List Int} (h : Rd sl H bs) {g : List Nat} (hg : H ≠ [] → g[1]? = some 1) : Le g sl sl := by
  rcases h with ⟨o, B, rfl, rfl, _⟩ | ⟨_, rfl | ⟨p, c, rfl⟩⟩
  · simp only [Le, hg (by simp)]
  · simp only [Le]
  · simp only [Le]
theorem meth_rd [I : Inp] {f : FuncId} {eff : List FuncId} {N : Nat} {x : XC} {rs : List XR} (hF : FnX Try.prog f eff N x rs) {G : Inp → List CEntry} (hG : ∀ J, @GOk J Try.prog (G J)) (tr : Trans)
    (body : ∀ args m k, tr args m k → ∃ (j : Nat) (us : List Value) (s : RS), args = .ptr j 0 :: us.map .v ∧ m[j]? = some (rH s) ∧ us.length + 1 ≤ N ∧
      ∀ (J : Inp) (sl : SV) (H : Mem), Rd sl H s.1 → ∀ Q : SV → Mem → Prop, (∀ (v : Value) (sl2 : SV) (s2 : RS), Rd sl2 H s2.1 → k (.v v) (m.set j (rH s2)) → Q (.v v) (rdO sl2 s2.2 :: H)) →
        @evX J Try.prog N eff (G J) x (slots (argSlots 0 (.ptr 0 0 :: us.map SV.of))) (rdO sl s.2 :: H) (fun ex e m' => EndsX ex ∧ evR rs e m' fun v => Q v m')) : Contract Try.prog f false tr := by
  refine .methA hF hG _ fun args m k h => ?_
  obtain ⟨j, us, s, rfl, hm, hl, hb⟩ := body args m k h
  refine ⟨j, 0, us.map .v, RdQ s, [], [], rfl, hm, by simp, rfl, rfl, fun i q o hq => by simp at hq, by simpa using hl, fun h H hQ J hJ vs hvs => ?_⟩
  obtain ⟨sl, rfl, hr, hH⟩ := hQ
  obtain rfl := knowsL_v hvs
  refine hb J sl H hr (fun v m' => ∃ (c : Out) (Q' : List SV → Mem → Prop) (g : List Nat), NdL g c.mem ∧ FitM g m' g c.mem ∧ @KeepOk J g ∧ Le g (c.s.up (opM c.h c.os c.H).length) v ∧
          c.os.length = 0 ∧ (∀ o ∈ c.os, o.ok (0 + 1)) ∧ Q' c.h (c.H ++ c.X.map fun _ => ⟨false, []⟩) ∧ (∀ o ∈ c.H, o.own = true ∨ o.cells = []) ∧ (∀ o ∈ c.X, o.own = true) ∧
          k (c.s.up m.length) (putL m [j] (absO (hide 0 Q') [] :: c.os.map (RO.out [j])) ++ c.X.map (SObj.up m.length))) fun v sl2 s2 h2 hk => ?_
  have hkp : ∀ t, @KeepOk J (0 :: t) := fun t q hq => by
    rw [hJ] at hq
    obtain rfl : q = 0 := by omega
    rfl
  rcases hH with rfl | ⟨B, rfl⟩
  · refine ⟨⟨[sl2, .v (.int .i64 s2.2)], [], [], [], .v v⟩, RdQ s2, [0], ?_, ?_, hkp _, ?_, rfl, by simp, ⟨sl2, rfl, h2, .inl rfl⟩, by simp, by simp, ?_⟩
    · simp [NdL, NdA, Out.mem, opM]
    · simp [FitM, ObLe, LeL, Le, Out.mem, opM, rd_le h2]
    · simp [SV.up, Le]
    · simpa [SV.up, putL, rH] using hk
  · refine ⟨⟨[sl2, .v (.int .i64 s2.2)], [], [⟨true, bL B⟩], [], .v v⟩, RdQ s2, [0, 1], ?_, ?_, hkp _, ?_, rfl, by simp, ⟨sl2, rfl, h2, .inr ⟨B, rfl⟩⟩, by simp, by simp, ?_⟩
    · simp [NdL, NdA, Out.mem, opM]
    · have := rd_le h2 (g := [0, 1]) (fun _ => rfl)
      simp [FitM, ObLe, LeL, Le, Out.mem, opM, this, bL_le]
    · simp [SV.up, Le]
    · simpa [SV.up, putL, rH] using hk
def h52 [Inp] : Trans := fun args m k => ∃ (j n : Nat) (s : RS), args = [.ptr j 0, .v (.int .i64 n)] ∧ m[j]? = some (rH s) ∧ (n = 1 ∨ n = 2 ∨ n = 4) ∧ k (.v (.int .i64 (numR n s).1)) (m.set j (rH (numR n s).2))
theorem h52_ok [Inp] : Contract Try.prog 52 false h52 := by
  refine meth_rd fn52 (G := fun J => @G52 J) (fun J => @g52 J) _ fun args m k h => ?_
  unfold h52 at h
  obtain ⟨j, n, s, rfl, hm, hn, hk⟩ := h
  refine ⟨j, [.int .i64 n], s, rfl, hm, by simp, fun J sl H hr Q hQ => ?_⟩
  exact @ev52 J _ _ _ _ _ _ hr hn fun sl2 h2 => hQ _ sl2 (numR n s).2 h2 hk
-- (*almshouse/word.Reader).Text (2 parameters)
def x126 : XC := (.seq (.tree (.seq ⟨some 4, none, (.ofA (.mv (.cst (.v (.string ⟨#[]⟩)))))⟩
 .done))
 (.seq (.tree (.seq ⟨some 6, none, (.ofA (.mv (.tmp 0)))⟩
 (.seq ⟨some 7, none, (.call (.cst (.fn 52 [])) [(.tmp 6), (.cst (.v (.int .i64 2)))])⟩
 (.seq ⟨some 5, none, (.ofA (.mv (.tmp 7)))⟩
 .done))))
 (.seq (.seq (.tree (.seq ⟨some 8, none, (.ofA (.mv (.tmp 0)))⟩
 (.seq ⟨some 9, none, (.ofA (.eqn false 1 (.tmp 8) (.cst (.v (.pointer none)))))⟩
 (.seq ⟨some 10, none, (.ofA (.mv (.tmp 9)))⟩
 (.seq ⟨some 11, some (10, false), (.ofA (.mv (.tmp 0)))⟩
 (.seq ⟨some 12, some (10, false), (.ofA (.nilc (.tmp 11)))⟩
 (.seq ⟨some 13, some (10, false), (.ofA (.faddr 1 (.tmp 12)))⟩
 (.seq ⟨some 14, some (10, false), (.ofA (.load none (.tmp 13)))⟩
 (.seq ⟨some 15, some (10, false), (.ofA (.bin .neq (.tmp 14) (.cst (.v (.int .i64 0)))))⟩
 (.seq ⟨some 16, none, (.ofA (.pick (.tmp 10) (.cst (.v (.bool true))) (.tmp 15)))⟩
 (.seq ⟨some 17, none, (.ofA (.mv (.tmp 16)))⟩
 (.seq ⟨some 18, some (17, false), (.ofA (.mv (.tmp 5)))⟩
 (.seq ⟨some 19, some (17, false), (.ofA (.mv (.tmp 1)))⟩
 (.seq ⟨some 20, some (17, false), (.ofA (.bin .gtr (.tmp 18) (.tmp 19)))⟩
 (.seq ⟨some 21, some (17, false), (.ofA (.mv (.tmp 20)))⟩
 (.seq ⟨some 22, some (21, true), (.ofA (.mv (.tmp 0)))⟩
 (.seq ⟨some 23, some (21, true), (.call (.cst (.fn 97 [])) [(.tmp 22), (.cst (.v (.int .i64 3)))])⟩
 (.seq ⟨some 24, some (17, false), (.ofA (.pick (.tmp 21) (.tmp 23) (.cst (.v (.bool false)))))⟩
 (.seq ⟨some 25, none, (.ofA (.pick (.tmp 17) (.cst (.v (.bool true))) (.tmp 24)))⟩
 .done)))))))))))))))))))
 (.cond (.tmp 25)
 (.seq (.tree (.seq ⟨some 4, none, (.ofA (.mv (.cst (.v (.string ⟨#[]⟩)))))⟩
 .done))
 .ret)
 .skip))
 (.seq (.tree (.seq ⟨some 26, none, (.ofA (.mv (.tmp 0)))⟩
 (.seq ⟨some 27, none, (.ofA (.mv (.tmp 5)))⟩
 (.seq ⟨some 28, none, (.call (.cst (.fn 98 [])) [(.tmp 26), (.tmp 27)])⟩
 (.seq ⟨some 29, none, (.ofA (.b2s (.tmp 28)))⟩
 (.seq ⟨some 4, none, (.ofA (.mv (.tmp 29)))⟩
 .done))))))
 .ret))))
def r126 : List XR := [.tmp 4]
theorem fn126 : FnX Try.prog 126 [50, 51, 52, 54, 56, 95, 97, 98, 99, 100, 101, 125, 126] 30 x126 r126 := ⟨_, Try.func126, by kernel_rfl, by kernel_rfl, by kernel_rfl, by kernel_rfl⟩
-- (*almshouse/word.Reader).Done (1 parameters)
def x95 : XC := (.seq (.tree (.seq ⟨some 2, none, (.ofA (.mv (.cst (.v (.int .i64 0)))))⟩
 .done))
 (.seq (.seq (.tree (.seq ⟨some 3, none, (.ofA (.mv (.tmp 0)))⟩
 (.seq ⟨some 4, none, (.ofA (.eqn false 1 (.tmp 3) (.cst (.v (.pointer none)))))⟩
 .done)))
 (.cond (.tmp 4)
 (.seq (.tree (.seq ⟨some 2, none, (.ofA (.mv (.cst (.v (.int .i64 1)))))⟩
 .done))
 .ret)
 .skip))
 (.seq (.seq (.tree (.seq ⟨some 5, none, (.ofA (.mv (.tmp 0)))⟩
 (.seq ⟨some 6, none, (.ofA (.nilc (.tmp 5)))⟩
 (.seq ⟨some 7, none, (.ofA (.faddr 0 (.tmp 6)))⟩
 (.seq ⟨some 8, none, (.ofA (.load none (.tmp 7)))⟩
 (.seq ⟨some 9, none, (.ofA (.len (.tmp 8)))⟩
 (.seq ⟨some 10, none, (.ofA (.bin .gtr (.tmp 9) (.cst (.v (.int .i64 0)))))⟩
 .done)))))))
 (.cond (.tmp 10)
 (.tree (.seq ⟨some 11, none, (.ofA (.mv (.tmp 0)))⟩
 (.seq ⟨some 12, none, (.call (.cst (.fn 97 [])) [(.tmp 11), (.cst (.v (.int .i64 2)))])⟩
 .done)))
 .skip))
 (.seq (.tree (.seq ⟨some 13, none, (.ofA (.mv (.tmp 0)))⟩
 (.seq ⟨some 14, none, (.ofA (.nilc (.tmp 13)))⟩
 (.seq ⟨some 15, none, (.ofA (.faddr 1 (.tmp 14)))⟩
 (.seq ⟨some 16, none, (.ofA (.load none (.tmp 15)))⟩
 (.seq ⟨some 2, none, (.ofA (.mv (.tmp 16)))⟩
 .done))))))
 .ret))))
def r95 : List XR := [.tmp 2]
theorem fn95 : FnX Try.prog 95 [50, 51, 52, 54, 56, 95, 97, 98, 99, 100, 101, 125, 126] 17 x95 r95 := ⟨_, Try.func95, by kernel_rfl, by kernel_rfl, by kernel_rfl, by kernel_rfl⟩
-- (*almshouse/word.Reader).Left (1 parameters)
def x124 : XC := (.seq (.tree (.seq ⟨some 2, none, (.ofA (.mv (.cst (.v (.int .i64 0)))))⟩
 .done))
 (.seq (.seq (.tree (.seq ⟨some 3, none, (.ofA (.mv (.tmp 0)))⟩
 (.seq ⟨some 4, none, (.ofA (.eqn false 1 (.tmp 3) (.cst (.v (.pointer none)))))⟩
 .done)))
 (.cond (.tmp 4)
 (.seq (.tree (.seq ⟨some 2, none, (.ofA (.mv (.cst (.v (.int .i64 0)))))⟩
 .done))
 .ret)
 .skip))
 (.seq (.tree (.seq ⟨some 5, none, (.ofA (.mv (.tmp 0)))⟩
 (.seq ⟨some 6, none, (.ofA (.nilc (.tmp 5)))⟩
 (.seq ⟨some 7, none, (.ofA (.faddr 0 (.tmp 6)))⟩
 (.seq ⟨some 8, none, (.ofA (.load none (.tmp 7)))⟩
 (.seq ⟨some 9, none, (.ofA (.len (.tmp 8)))⟩
 (.seq ⟨some 2, none, (.ofA (.mv (.tmp 9)))⟩
 .done)))))))
 .ret)))
def r124 : List XR := [.tmp 2]
theorem fn124 : FnX Try.prog 124 [50, 51, 52, 54, 56, 95, 97, 98, 99, 100, 101, 125, 126] 10 x124 r124 := ⟨_, Try.func124, by kernel_rfl, by kernel_rfl, by kernel_rfl, by kernel_rfl⟩
-- (*almshouse/word.Reader).Flag (1 parameters)
def x100 : XC := (.seq (.tree (.seq ⟨some 2, none, (.ofA (.mv (.cst (.v (.bool false)))))⟩
 .done))
 (.seq (.tree (.seq ⟨some 4, none, (.ofA (.mv (.tmp 0)))⟩
 (.seq ⟨some 5, none, (.call (.cst (.fn 52 [])) [(.tmp 4), (.cst (.v (.int .i64 1)))])⟩
 (.seq ⟨some 3, none, (.ofA (.mv (.tmp 5)))⟩
 .done))))
 (.seq (.seq (.tree (.seq ⟨some 6, none, (.ofA (.mv (.tmp 3)))⟩
 (.seq ⟨some 7, none, (.ofA (.bin .gtr (.tmp 6) (.cst (.v (.int .i64 1)))))⟩
 .done)))
 (.cond (.tmp 7)
 (.tree (.seq ⟨some 8, none, (.ofA (.mv (.tmp 0)))⟩
 (.seq ⟨some 9, none, (.call (.cst (.fn 97 [])) [(.tmp 8), (.cst (.v (.int .i64 2)))])⟩
 .done)))
 .skip))
 (.seq (.tree (.seq ⟨some 10, none, (.ofA (.mv (.tmp 3)))⟩
 (.seq ⟨some 11, none, (.ofA (.bin .eql (.tmp 10) (.cst (.v (.int .i64 1)))))⟩
 (.seq ⟨some 2, none, (.ofA (.mv (.tmp 11)))⟩
 .done))))
 .ret))))
def r100 : List XR := [.tmp 2]
theorem fn100 : FnX Try.prog 100 [50, 51, 52, 54, 56, 95, 97, 98, 99, 100, 101, 125, 126] 12 x100 r100 := ⟨_, Try.func100, by kernel_rfl, by kernel_rfl, by kernel_rfl, by kernel_rfl⟩
theorem numR_byte {s : RS} (hb : Byt s.1) : 0 ≤ (numR 1 s).1 ∧ (numR 1 s).1 ≤ 255 := by
  unfold numR takeR
  split
  · split
    · simp [leV]
    · rename_i h0 h1
      have h2 := leV_bound (hb.take 1)
      have : (s.1.take 1).length ≤ 1 := by simp; omega
      have : (256 : Int) ^ (s.1.take 1).length ≤ 256 ^ 1 := by
        rcases Nat.lt_or_ge (s.1.take 1).length 1 with h | h
        · rw [show (s.1.take 1).length = 0 by omega]; decide
        · rw [show (s.1.take 1).length = 1 by omega]; decide
      show 0 ≤ leV (s.1.take 1) ∧ leV (s.1.take 1) ≤ 255
      omega
  · simp [leV]
def G100 [Inp] : List CEntry := [⟨97, false, c97⟩, ⟨52, false, c52⟩]
theorem g100 [Inp] : GOk Try.prog G100 := GOk.cons c97_ok (GOk.cons c52_ok (g0 _))
def h100 [Inp] : Trans := fun args m k => ∃ (j : Nat) (s : RS), args = [.ptr j 0] ∧ m[j]? = some (rH s) ∧ k (.v (.bool (flagR s).1)) (m.set j (rH (flagR s).2))
theorem h100_ok [Inp] : Contract Try.prog 100 false h100 := by
  refine meth_rd fn100 (G := fun J => @G100 J) (fun J => @g100 J) _ fun args m k h => ?_
  unfold h100 at h
  obtain ⟨j, s, rfl, hm, hk⟩ := h
  refine ⟨j, [], s, rfl, hm, by simp, fun J sl H hr Q hQ => ?_⟩
  obtain ⟨bs, e⟩ := s
  have hv := numR_byte (s := (bs, e)) hr.byt
  simp (maxSteps := 2000000) -implicitDefEqProofs only [↓x100, ↓r100, ↓G100, ↓c52, ↓c97, s_alt, s_alt20, s_alt2t, s_alt2f, ↓s_loopi, ↓v_pq, ↓PRE, POST, CORE, Nat.reduceDiv, Nat.reduceMod, Int.reduceLT, Int.reduceLE, Int.reduceToNat, Int.reduceAdd, ↓reduceIte, Nat.reduceEqDiff, Nat.reduceAdd, Nat.reduceMul, Nat.reduceSub, Nat.reduceLeDiff, Nat.reduceLT, reduceCtorEq, if_true, eq_self, forall_const, implies_true]
  refine ⟨sl, e, 1, H, bs, rfl, rfl, hr, by simp, fun sl2 h2 => ?_⟩
  unfold flagR at hk
  by_cases h1 : 1 < (numR 1 (bs, e)).1
  · rw [if_pos h1] at hk
    have d1 : decide (1 < (numR 1 (bs, e)).1) = true := decide_eq_true h1
    simp (maxSteps := 2000000) -implicitDefEqProofs only [↓G100, ↓c97, d1, s_alt, s_alt20, s_alt2t, s_alt2f, ↓s_loopi, ↓v_pq, ↓PRE, POST, CORE, Nat.reduceDiv, Nat.reduceMod, Int.reduceLT, Int.reduceLE, Int.reduceToNat, Int.reduceAdd, ↓reduceIte, Nat.reduceEqDiff, Nat.reduceAdd, Nat.reduceMul, Nat.reduceSub, Nat.reduceLeDiff, Nat.reduceLT, reduceCtorEq, if_true, eq_self, forall_const, implies_true]
    refine ⟨_, _, _, _, rfl, rfl, by decide, ?_⟩
    have := hQ (.bool ((numR 1 (bs, e)).1 == 1)) sl2 (failR 2 (numR 1 (bs, e)).2) ?_ hk
    · unfold failR at this
      split at this <;> rename_i he
      · rw [if_pos he]; exact this
      · rw [if_neg he]; exact this
    · unfold failR
      split <;> exact h2
  · rw [if_neg h1] at hk
    have d1 : decide (1 < (numR 1 (bs, e)).1) = false := decide_eq_false h1
    simp (maxSteps := 2000000) -implicitDefEqProofs only [↓G100, ↓c97, d1, s_alt, s_alt20, s_alt2t, s_alt2f, ↓s_loopi, ↓v_pq, ↓PRE, POST, CORE, Nat.reduceDiv, Nat.reduceMod, Int.reduceLT, Int.reduceLE, Int.reduceToNat, Int.reduceAdd, ↓reduceIte, Nat.reduceEqDiff, Nat.reduceAdd, Nat.reduceMul, Nat.reduceSub, Nat.reduceLeDiff, Nat.reduceLT, reduceCtorEq, if_true, eq_self, forall_const, implies_true]
    exact hQ (.bool ((numR 1 (bs, e)).1 == 1)) sl2 (numR 1 (bs, e)).2 h2 hk
def h124 [Inp] : Trans := fun args m k => ∃ (j : Nat) (s : RS), args = [.ptr j 0] ∧ m[j]? = some (rH s) ∧ k (.v (.int .i64 s.1.length)) (m.set j (rH s))
theorem h124_ok [Inp] : Contract Try.prog 124 false h124 := by
  refine meth_rd fn124 (G := fun _ => []) (fun J => @g0 J _) _ fun args m k h => ?_
  unfold h124 at h
  obtain ⟨j, s, rfl, hm, hk⟩ := h
  refine ⟨j, [], s, rfl, hm, by simp, fun J sl H hr Q hQ => ?_⟩
  obtain ⟨bs, e⟩ := s
  have := hQ _ sl (bs, e) hr hk
  rcases hr with ⟨o, B, rfl, rfl, e1, e2, e3, e4⟩ | ⟨rfl, rfl | ⟨p, c, rfl⟩⟩
  · simp (maxSteps := 2000000) -implicitDefEqProofs only [↓x124, ↓r124, s_alt, s_alt20, s_alt2t, s_alt2f, ↓s_loopi, ↓v_pq, ↓PRE, POST, CORE, Nat.reduceDiv, Nat.reduceMod, Int.reduceLT, Int.reduceLE, Int.reduceToNat, Int.reduceAdd, ↓reduceIte, Nat.reduceEqDiff, Nat.reduceAdd, Nat.reduceMul, Nat.reduceSub, Nat.reduceLeDiff, Nat.reduceLT, reduceCtorEq, if_true, eq_self, forall_const, implies_true]
    exact this
  · simp (maxSteps := 2000000) -implicitDefEqProofs only [↓x124, ↓r124, s_alt, s_alt20, s_alt2t, s_alt2f, ↓s_loopi, ↓v_pq, ↓PRE, POST, CORE, Nat.reduceDiv, Nat.reduceMod, Int.reduceLT, Int.reduceLE, Int.reduceToNat, Int.reduceAdd, ↓reduceIte, Nat.reduceEqDiff, Nat.reduceAdd, Nat.reduceMul, Nat.reduceSub, Nat.reduceLeDiff, Nat.reduceLT, reduceCtorEq, if_true, eq_self, forall_const, implies_true]
    exact this
  · simp (maxSteps := 2000000) -implicitDefEqProofs only [↓x124, ↓r124, s_alt, s_alt20, s_alt2t, s_alt2f, ↓s_loopi, ↓v_pq, ↓PRE, POST, CORE, Nat.reduceDiv, Nat.reduceMod, Int.reduceLT, Int.reduceLE, Int.reduceToNat, Int.reduceAdd, ↓reduceIte, Nat.reduceEqDiff, Nat.reduceAdd, Nat.reduceMul, Nat.reduceSub, Nat.reduceLeDiff, Nat.reduceLT, reduceCtorEq, if_true, eq_self, forall_const, implies_true]
    exact this
def G95 [Inp] : List CEntry := [⟨97, false, c97⟩]
theorem g95 [Inp] : GOk Try.prog G95 := GOk.cons c97_ok (g0 _)
def h95 [Inp] : Trans := fun args m k => ∃ (j : Nat) (s : RS), args = [.ptr j 0] ∧ m[j]? = some (rH s) ∧ ∀ s2, k (.v (.int .i64 (doneR s))) (m.set j (rH s2))
theorem h95_ok [Inp] : Contract Try.prog 95 false h95 := by
  refine meth_rd fn95 (G := fun J => @G95 J) (fun J => @g95 J) _ fun args m k h => ?_
  unfold h95 at h
  obtain ⟨j, s, rfl, hm, hk⟩ := h
  refine ⟨j, [], s, rfl, hm, by simp, fun J sl H hr Q hQ => ?_⟩
  obtain ⟨bs, e⟩ := s
  have q1 := hQ _ sl (bs, e) hr (hk _)
  have q2 := hQ _ sl (bs, if e = 0 then 2 else e) hr (hk _)
  unfold doneR failR at q1 q2
  simp only at q1 q2
  have hf : ∀ e : Int, (if e = 0 then ((bs, 2) : RS) else (bs, e)).2 = if e = 0 then 2 else e := fun e => by split <;> rfl
  rw [hf] at q1 q2
  by_cases hb : bs = []
  · rw [if_pos hb] at q1 q2
    have d1 : decide ((0 : Int) < ((0 : Nat) : Int)) = false := rfl
    rcases hr with ⟨o, B, rfl, rfl, e1, e2, e3, e4⟩ | ⟨rfl, rfl | ⟨p, c, rfl⟩⟩
    · have d2 : decide ((0 : Int) < (bs.length : Int)) = false := by subst hb; rfl
      simp (maxSteps := 2000000) -implicitDefEqProofs only [↓x95, ↓r95, ↓G95, ↓c97, d2, s_alt, s_alt20, s_alt2t, s_alt2f, ↓s_loopi, ↓v_pq, ↓PRE, POST, CORE, Nat.reduceDiv, Nat.reduceMod, Int.reduceLT, Int.reduceLE, Int.reduceToNat, Int.reduceAdd, ↓reduceIte, Nat.reduceEqDiff, Nat.reduceAdd, Nat.reduceMul, Nat.reduceSub, Nat.reduceLeDiff, Nat.reduceLT, reduceCtorEq, if_true, eq_self, forall_const, implies_true]
      exact q1
    · simp (maxSteps := 2000000) -implicitDefEqProofs only [↓x95, ↓r95, ↓G95, ↓c97, d1, s_alt, s_alt20, s_alt2t, s_alt2f, ↓s_loopi, ↓v_pq, ↓PRE, POST, CORE, Nat.reduceDiv, Nat.reduceMod, Int.reduceLT, Int.reduceLE, Int.reduceToNat, Int.reduceAdd, ↓reduceIte, Nat.reduceEqDiff, Nat.reduceAdd, Nat.reduceMul, Nat.reduceSub, Nat.reduceLeDiff, Nat.reduceLT, reduceCtorEq, if_true, eq_self, forall_const, implies_true]
      exact q1
    · simp (maxSteps := 2000000) -implicitDefEqProofs only [↓x95, ↓r95, ↓G95, ↓c97, d1, s_alt, s_alt20, s_alt2t, s_alt2f, ↓s_loopi, ↓v_pq, ↓PRE, POST, CORE, Nat.reduceDiv, Nat.reduceMod, Int.reduceLT, Int.reduceLE, Int.reduceToNat, Int.reduceAdd, ↓reduceIte, Nat.reduceEqDiff, Nat.reduceAdd, Nat.reduceMul, Nat.reduceSub, Nat.reduceLeDiff, Nat.reduceLT, reduceCtorEq, if_true, eq_self, forall_const, implies_true]
      exact q1
  · rw [if_neg hb] at q1 q2
    rcases hr with ⟨o, B, rfl, rfl, e1, e2, e3, e4⟩ | ⟨h0, _⟩
    · have d2 : decide ((0 : Int) < (bs.length : Int)) = true := by
        have : bs.length ≠ 0 := fun h => hb (List.length_eq_zero_iff.1 h)
        exact decide_eq_true (by omega)
      simp (maxSteps := 2000000) -implicitDefEqProofs only [↓x95, ↓r95, ↓G95, ↓c97, d2, s_alt, s_alt20, s_alt2t, s_alt2f, ↓s_loopi, ↓v_pq, ↓PRE, POST, CORE, Nat.reduceDiv, Nat.reduceMod, Int.reduceLT, Int.reduceLE, Int.reduceToNat, Int.reduceAdd, ↓reduceIte, Nat.reduceEqDiff, Nat.reduceAdd, Nat.reduceMul, Nat.reduceSub, Nat.reduceLeDiff, Nat.reduceLT, reduceCtorEq, if_true, eq_self, forall_const, implies_true]
      refine ⟨_, _, _, _, rfl, rfl, by decide, ?_⟩
      exact q2
    · exact (hb h0).elim
def G126 [Inp] : List CEntry := [⟨97, false, c97⟩, ⟨98, false, c98⟩, ⟨52, false, c52⟩]
theorem g126 [Inp] : GOk Try.prog G126 := GOk.cons c97_ok (GOk.cons c98_ok (GOk.cons c52_ok (g0 _)))
def h126 [Inp] : Trans := fun args m k => ∃ (j : Nat) (most : Int) (s : RS), args = [.ptr j 0, .v (.int .i64 most)] ∧ m[j]? = some (rH s) ∧ k (.v (.string (strB (textR most s).1))) (m.set j (rH (textR most s).2))
theorem slOf_rd [Inp] {t : SV} {o : SObj} {H : Mem} {w : List Int} (h : Rd t H w) : slOf (o :: H) 1 t = some (w.length, bL w) := by
  rcases h with ⟨a, B, rfl, rfl, e1, e2, e3, e4⟩ | ⟨rfl, rfl | ⟨p, c, rfl⟩⟩
  · have h1 : (bL B).length = B.length := bL_len B
    have h2 : ((bL B).drop a).take w.length = bL w := by
      conv => rhs; rw [← e1]
      unfold bL
      rw [List.map_take, List.map_drop]
    unfold slOf
    simp only [if_true, List.getElem?_cons_succ, List.getElem?_cons_zero, Nat.mul_one]
    rw [if_pos (by rw [h1]; exact e2), h2]
  · rfl
  · unfold slOf inpL
    rfl
theorem bytesV_bL : ∀ w : List Int, bytesV (bL w) = some (w.map fun x => UInt8.ofNat x.toNat)
  | [] => rfl
  | x :: w => by
    show (bytesV (bL w)).map (UInt8.ofNat x.toNat :: ·) = _
    rw [bytesV_bL w]
    rfl
theorem b2s_rd [Inp] {t : SV} {o : SObj} {H : Mem} {w : List Int} {K : SV → Prop} (h : Rd t H w) : b2sK (slOf (o :: H) 1 t) K = K (.v (.string (strB w))) := by
  rw [slOf_rd h]
  unfold b2sK
  simp only [bytesV_bL]
  rfl
theorem num2 {s : RS} (hb : Byt s.1) : 0 ≤ (numR 2 s).1 ∧ (numR 2 s).1 < 65536 := by
  unfold numR takeR
  split
  · split
    · simp [leV]
    · rename_i h0 h1
      have h2 := leV_bound (hb.take 2)
      have : (s.1.take 2).length = 2 := by simp; omega
      rw [this] at h2
      show 0 ≤ leV (s.1.take 2) ∧ leV (s.1.take 2) < 65536
      omega
  · simp [leV]
theorem h126_ok [Inp] : Contract Try.prog 126 false h126 := by
  refine meth_rd fn126 (G := fun J => @G126 J) (fun J => @g126 J) _ fun args m k h => ?_
  unfold h126 at h
  obtain ⟨j, most, s, rfl, hm, hk⟩ := h
  refine ⟨j, [.int .i64 most], s, rfl, hm, by simp, fun J sl H hr Q hQ => ?_⟩
  obtain ⟨bs, e⟩ := s
  have hv : 0 ≤ (numR 2 (bs, e)).1 ∧ (numR 2 (bs, e)).1 < 65536 := num2 hr.byt
  simp (maxSteps := 2000000) -implicitDefEqProofs only [↓x126, ↓r126, ↓G126, ↓c52, ↓c97, s_alt, s_alt20, s_alt2t, s_alt2f, ↓s_loopi, ↓v_pq, ↓PRE, POST, CORE, Nat.reduceDiv, Nat.reduceMod, Int.reduceLT, Int.reduceLE, Int.reduceToNat, Int.reduceAdd, ↓reduceIte, Nat.reduceEqDiff, Nat.reduceAdd, Nat.reduceMul, Nat.reduceSub, Nat.reduceLeDiff, Nat.reduceLT, reduceCtorEq, if_true, eq_self, forall_const, implies_true]
  refine ⟨sl, e, 2, H, bs, rfl, rfl, hr, by simp, fun sl2 h2 => ?_⟩
  unfold textR at hk
  by_cases h0 : (numR 2 (bs, e)).2.2 = 0
  · rw [if_pos h0] at hk
    have d0 : ((numR 2 (bs, e)).2.2 != 0) = false := by rw [h0]; rfl
    by_cases h1 : most < (numR 2 (bs, e)).1
    · rw [if_pos h1] at hk
      have d1 : decide (most < (numR 2 (bs, e)).1) = true := decide_eq_true h1
      simp (maxSteps := 2000000) -implicitDefEqProofs only [↓G126, ↓c97, d0, d1, s_alt, s_alt20, s_alt2t, s_alt2f, ↓s_loopi, ↓v_pq, ↓PRE, POST, CORE, Nat.reduceDiv, Nat.reduceMod, Int.reduceLT, Int.reduceLE, Int.reduceToNat, Int.reduceAdd, ↓reduceIte, Nat.reduceEqDiff, Nat.reduceAdd, Nat.reduceMul, Nat.reduceSub, Nat.reduceLeDiff, Nat.reduceLT, reduceCtorEq, if_true, eq_self, forall_const, implies_true]
      refine ⟨_, _, _, _, rfl, rfl, by decide, ?_⟩
      rw [if_pos h0]
      exact hQ _ sl2 ((numR 2 (bs, e)).2.1, 3) h2 hk
    · rw [if_neg h1] at hk
      have d1 : decide (most < (numR 2 (bs, e)).1) = false := decide_eq_false h1
      simp (maxSteps := 2000000) -implicitDefEqProofs only [↓G126, ↓c97, ↓c98, d0, d1, s_alt, s_alt20, s_alt2t, s_alt2f, ↓s_loopi, ↓v_pq, ↓PRE, POST, CORE, Nat.reduceDiv, Nat.reduceMod, Int.reduceLT, Int.reduceLE, Int.reduceToNat, Int.reduceAdd, ↓reduceIte, Nat.reduceEqDiff, Nat.reduceAdd, Nat.reduceMul, Nat.reduceSub, Nat.reduceLeDiff, Nat.reduceLT, reduceCtorEq, if_true, eq_self, forall_const, implies_true]
      have hN : (numR 2 (bs, e)).1 = ((numR 2 (bs, e)).1.toNat : Int) := by omega
      refine ⟨sl2, (numR 2 (bs, e)).2.2, (numR 2 (bs, e)).1.toNat, H, (numR 2 (bs, e)).2.1, by rw [← hN], rfl, h2, fun t sl3 ht h3 => ?_⟩
      try simp (maxSteps := 2000000) -implicitDefEqProofs only [s_alt, s_alt20, s_alt2t, s_alt2f, ↓s_loopi, ↓v_pq, ↓PRE, POST, CORE, Nat.reduceDiv, Nat.reduceMod, Int.reduceLT, Int.reduceLE, Int.reduceToNat, Int.reduceAdd, ↓reduceIte, Nat.reduceEqDiff, Nat.reduceAdd, Nat.reduceMul, Nat.reduceSub, Nat.reduceLeDiff, Nat.reduceLT, reduceCtorEq, if_true, eq_self, forall_const, implies_true]
      rw [b2s_rd ht]
      exact hQ _ sl3 (takeR (numR 2 (bs, e)).1.toNat (numR 2 (bs, e)).2).2 h3 hk
  · rw [if_neg h0] at hk
    have d0 : ((numR 2 (bs, e)).2.2 != 0) = true := by simpa using h0
    simp (maxSteps := 2000000) -implicitDefEqProofs only [↓G126, ↓c97, d0, s_alt, s_alt20, s_alt2t, s_alt2f, ↓s_loopi, ↓v_pq, ↓PRE, POST, CORE, Nat.reduceDiv, Nat.reduceMod, Int.reduceLT, Int.reduceLE, Int.reduceToNat, Int.reduceAdd, ↓reduceIte, Nat.reduceEqDiff, Nat.reduceAdd, Nat.reduceMul, Nat.reduceSub, Nat.reduceLeDiff, Nat.reduceLT, reduceCtorEq, if_true, eq_self, forall_const, implies_true]
    exact hQ _ sl2 (numR 2 (bs, e)).2 h2 hk
end Go.Proofs.Ytibefgdjijmncaa
end
section
namespace Go.Proofs.Ytibefgdjijmncaa
open Go.RowKit Sz
set_option maxHeartbeats 4000000
set_option maxRecDepth 20000
def c90x [Inp] : Trans := fun args m k => ∃ (s : SV) (bs : List Int), args = [s] ∧ rdB m s = some bs ∧ bs.length ≤ 1000000 ∧ k (.row m.length 0 bs.length 1) (m ++ [⟨true, bL bs⟩]) ∧ (bs = [] → k (.v (.slice none 0 0)) m)
theorem c90x_ok [Inp] : Contract Try.prog 90 true c90x := by
  refine .readF fn90 (G := fun _ => []) (fun J => @g0 J _) _ fun args m k h => ?_
  unfold c90x at h
  obtain ⟨s, bs, rfl, hb, hmax, hk, hk0⟩ := h
  refine ⟨by simp, fun J hJ us hus => ?_⟩
  obtain ⟨u, t1, rfl, hk1, rfl⟩ := hus
  obtain ⟨p, c, rfl, hin⟩ := rdB_knows hb hk1
  cases p with
  | none =>
    have hn : bs = [] := by
      rcases Nat.eq_zero_or_pos bs.length with h | h
      · exact List.length_eq_zero_iff.1 h
      · have := inpL_isSome hin (by omega)
        simp at this
    subst hn
    have hk := hk0 rfl
    have hp2 : (none : Option Addr).isNone = true := rfl
    simp (maxSteps := 2000000) -implicitDefEqProofs only [↓x90, ↓r90, hp2, s_alt, s_alt20, s_alt2t, s_alt2f, ↓s_loopi, ↓v_pq, ↓PRE, POST, CORE, Nat.reduceDiv, Nat.reduceMod, Int.reduceLT, Int.reduceLE, Int.reduceToNat, Int.reduceAdd, ↓reduceIte, Nat.reduceEqDiff, Nat.reduceAdd, Nat.reduceMul, Nat.reduceSub, Nat.reduceLeDiff, Nat.reduceLT, reduceCtorEq, if_true, eq_self, forall_const, implies_true]
    refine ⟨[], .v (.slice none 0 0), [], by simp, trivial, by simp, by simp only [Le], ?_⟩
    simpa [SV.up] using hk
  | some a =>
    have hp2 : (some a).isNone = false := rfl
    have h1 := bL_len bs
    have h2 := bL_one bs
    by_cases h0 : bs.length = 0
    · have hn : bs = [] := List.length_eq_zero_iff.1 h0
      subst hn
      have hin0 : inpL (some a) 0 = some [] := rfl
      simp (maxSteps := 2000000) -implicitDefEqProofs only [↓x90, ↓r90, hp2, hin0, List.map_nil, Option.map_some, s_alt, s_alt20, s_alt2t, s_alt2f, ↓s_loopi, ↓v_pq, ↓PRE, POST, CORE, Nat.reduceDiv, Nat.reduceMod, Int.reduceLT, Int.reduceLE, Int.reduceToNat, Int.reduceAdd, ↓reduceIte, Nat.reduceEqDiff, Nat.reduceAdd, Nat.reduceMul, Nat.reduceSub, Nat.reduceLeDiff, Nat.reduceLT, reduceCtorEq, if_true, eq_self, forall_const, implies_true]
      refine ⟨[0], .row 0 0 0 1, [⟨true, []⟩], by simp, ?_, by simp, by simp only [Le]; rfl, ?_⟩
      · simp [FitM, ObLe, LeL]
      · simpa [SV.up, SObj.up, upL, bL] using hk
    · have h3 : 0 < bs.length := by omega
      simp (maxSteps := 2000000) -implicitDefEqProofs only [↓x90, ↓r90, hp2, hin, h0, h1, h2, h3, bL_fold, s_alt, s_alt20, s_alt2t, s_alt2f, ↓s_loopi, ↓v_pq, ↓PRE, POST, CORE, Nat.reduceDiv, Nat.reduceMod, Int.reduceLT, Int.reduceLE, Int.reduceToNat, Int.reduceAdd, ↓reduceIte, Nat.reduceEqDiff, Nat.reduceAdd, Nat.reduceMul, Nat.reduceSub, Nat.reduceLeDiff, Nat.reduceLT, reduceCtorEq, if_true, eq_self, forall_const, implies_true]
      refine ⟨⟨by unfold maxLen; omega, by omega⟩, [1], .row 0 0 bs.length 1, [⟨true, bL bs⟩], by simp, ?_, by simp, by simp only [Le]; rfl, ?_⟩
      · simp [FitM, ObLe, bL_le]
      · simpa [SV.up, SObj.up, bL_up] using hk
-- almshouse/word.Read (1 parameters)
def x94 : XC := (.seq (.tree (.seq ⟨some 2, none, (.ofA (.mv (.cst (.v (.pointer none)))))⟩
 .done))
 (.seq (.tree (.seq ⟨some 3, none, (.ofA (.mv (.tmp 0)))⟩
 (.seq ⟨some 4, none, (.call (.cst (.fn 90 [])) [(.tmp 3)])⟩
 (.seq ⟨some 5, none, (.build [(.v (.slice none 0 0)), (.v (.int .i64 0))] [(0, 1, (.tmp 4))])⟩
 (.seq ⟨some 6, none, (.box (.tmp 5))⟩
 (.seq ⟨some 2, none, (.ofA (.mv (.tmp 6)))⟩
 .done))))))
 .ret))
def r94 : List XR := [.tmp 2]
theorem fn94 : FnX Try.prog 94 [50, 51, 52, 54, 56, 95, 97, 98, 99, 100, 101, 125, 126] 7 x94 r94 := ⟨_, Try.func94, by kernel_rfl, by kernel_rfl, by kernel_rfl, by kernel_rfl⟩
theorem rH_le {g : List Nat} {s : RS} : ObLe g (rH s) (rH s) := .inr ⟨fun h => h, by simp [rH, absO, LeL], ⟨rfl, rfl, rfl⟩⟩
def G94 [Inp] : List CEntry := [⟨90, true, c90x⟩]
theorem g94 [Inp] : GOk Try.prog G94 := GOk.cons c90x_ok (g0 _)
def h94 [Inp] : Trans := fun args m k => ∃ (s : SV) (bs : List Int), args = [s] ∧ rdB m s = some bs ∧ bs.length ≤ 1000000 ∧ Byt bs ∧ k (.ptr m.length 0) (m ++ [rH (bs, 0)])
theorem h94_ok [Inp] : Contract Try.prog 94 true h94 := by
  refine .readT fn94 (G := fun J => @G94 J) (fun J => @g94 J) _ fun args m k h => ?_
  unfold h94 at h
  obtain ⟨s, bs, rfl, hb, hmax, hB, hk⟩ := h
  refine ⟨by simp, fun J hJ us hus => ?_⟩
  obtain ⟨u, t1, rfl, hk1, rfl⟩ := hus
  obtain ⟨p, c, rfl, hin⟩ := rdB_knows hb hk1
  have hr : ∀ m, rdB m (.v (.slice p bs.length c)) = some bs := fun m => rdB_v hin
  have hup : SObj.up m.length (rH (bs, 0)) = rH (bs, 0) := rfl
  simp (maxSteps := 2000000) -implicitDefEqProofs only [↓x94, ↓r94, ↓G94, ↓c90x, s_alt, s_alt20, s_alt2t, s_alt2f, ↓s_loopi, ↓v_pq, ↓PRE, POST, CORE, Nat.reduceDiv, Nat.reduceMod, Int.reduceLT, Int.reduceLE, Int.reduceToNat, Int.reduceAdd, ↓reduceIte, Nat.reduceEqDiff, Nat.reduceAdd, Nat.reduceMul, Nat.reduceSub, Nat.reduceLeDiff, Nat.reduceLT, reduceCtorEq, if_true, eq_self, forall_const, implies_true]
  refine ⟨_, bs, rfl, hr _, hmax, ?_, ?_⟩
  · skip
    have t1 : @Turn J 0 [⟨true, bL bs⟩, rdO (.row 0 0 bs.length 1) 0] (.ptr 1 0) [rdO (.row 1 0 bs.length 1) 0, ⟨true, bL bs⟩] (.ptr 0 0) :=
      Turn.fit [1, 0] (by simp [NdL, NdA]) (by simp [FitM, ObLe, LeL, Le, bL_le]) (by simp [Le]) (by simp)
    have t2 : @Turn J 0 [rdO (.row 1 0 bs.length 1) 0, ⟨true, bL bs⟩] (.ptr 0 0) [rH (bs, 0), ⟨false, []⟩] (.ptr 0 0) :=
      Turn.seal (j := 0) (n := 0) (refs := []) (gh := [1]) (h := [.row 1 0 bs.length 1, .v (.int .i64 0)]) (H := [⟨true, bL bs⟩]) (Q := RdQ (bs, 0)) rfl (by simp) (by simp [FitM, ObLe, LeL, Le, bL_le, hidM]) ⟨_, rfl, .inl ⟨0, bs, rfl, rfl, by simp, by simp, hB, hmax⟩, .inr ⟨bs, rfl⟩⟩ (by simp)
    have t3 : @Turn J 0 [rH (bs, 0), ⟨false, []⟩] (.ptr 0 0) [rH (bs, 0)] (.ptr 0 0) :=
      Turn.fit [0] (by simp [NdL, NdA]) (by simp [FitM, rH_le]) (by simp [Le]) (by simp)
    exact ⟨_, _, (t1.trans t2).trans t3, by simp [rH, absO_own], by simpa [SV.up, hup] using hk⟩
  · intro h0
    subst h0
    have t2 : @Turn J 0 [rdO (.v (.slice none 0 0)) 0] (.ptr 0 0) [rH ([], 0)] (.ptr 0 0) :=
      Turn.seal (j := 0) (n := 0) (refs := []) (gh := []) (h := [.v (.slice none 0 0), .v (.int .i64 0)]) (H := []) (Q := RdQ ([], 0)) rfl (by simp) (by simp [FitM, ObLe, LeL, Le, hidM]) ⟨_, rfl, .inr ⟨rfl, .inr ⟨_, _, rfl⟩⟩, .inl rfl⟩ (by simp)
    exact ⟨_, _, t2, by simp [rH, absO_own], by simpa [SV.up, hup] using hk⟩
end Go.Proofs.Ytibefgdjijmncaa
end
section
namespace Go.Proofs.Ytibefgdjijmncaa
open Go.RowKit Sz
set_option maxHeartbeats 4000000
set_option maxRecDepth 20000
-- slices.Equal[[]almshouse/image.Page,almshouse/image.Page] (2 parameters)
def x104 : XC := (.seq (.tree (.seq ⟨some 4, none, (.ofA (.mv (.cst (.v (.bool false)))))⟩
 .done))
 (.seq (.seq (.tree (.seq ⟨some 6, none, (.ofA (.mv (.tmp 0)))⟩
 (.seq ⟨some 7, none, (.ofA (.len (.tmp 6)))⟩
 (.seq ⟨some 8, none, (.ofA (.mv (.tmp 1)))⟩
 (.seq ⟨some 9, none, (.ofA (.len (.tmp 8)))⟩
 (.seq ⟨some 10, none, (.ofA (.bin .neq (.tmp 7) (.tmp 9)))⟩
 .done))))))
 (.cond (.tmp 10)
 (.seq (.tree (.seq ⟨some 4, none, (.ofA (.mv (.cst (.v (.bool false)))))⟩
 .done))
 .ret)
 .skip))
 (.seq (.seq (.tree (.seq ⟨some 11, none, (.ofA (.mv (.tmp 0)))⟩
 (.seq ⟨some 12, none, (.ofA (.len (.tmp 11)))⟩
 (.seq ⟨some 13, none, (.ofA (.mv (.cst (.v (.int .i64 0)))))⟩
 .done))))
 (.block 0 (.loop (.seq (.tree (.seq ⟨some 14, none, (.ofA (.bin .lss (.tmp 13) (.tmp 12)))⟩
 .done))
 (.seq (.cond (.tmp 14)
 .skip
 (.exit 0))
 (.seq (.block 1 (.seq (.tree (.seq ⟨some 15, none, (.ofA (.mv (.tmp 13)))⟩
 (.seq ⟨some 5, none, (.ofA (.mv (.tmp 15)))⟩
 .done)))
 (.seq (.tree (.take ⟨some 16, none, (.ofA (.mv (.tmp 0)))⟩
 (.take ⟨some 17, none, (.ofA (.mv (.tmp 5)))⟩
 (.take ⟨some 18, none, (.ofA (.isl 3 (.tmp 16) (.tmp 17)))⟩
 (.take ⟨some 19, none, (.ofA (.load (some 3) (.tmp 18)))⟩
 (.take ⟨some 20, none, (.ofA (.mv (.tmp 1)))⟩
 (.take ⟨some 21, none, (.ofA (.mv (.tmp 5)))⟩
 (.take ⟨some 22, none, (.ofA (.isl 3 (.tmp 20) (.tmp 21)))⟩
 (.take ⟨some 23, none, (.ofA (.load (some 3) (.tmp 22)))⟩
 (.take ⟨some 24, none, (.ofA (.eqs true [.bool, .str, .str] (.tmp 19) (.tmp 23)))⟩
 .done))))))))))
 (.cond (.tmp 24)
 (.seq (.tree (.seq ⟨some 4, none, (.ofA (.mv (.cst (.v (.bool false)))))⟩
 .done))
 .ret)
 .skip))))
 (.tree (.seq ⟨some 25, none, (.ofA (.bin .add (.tmp 13) (.cst (.v (.int .i64 1)))))⟩
 (.seq ⟨some 13, none, (.ofA (.mv (.tmp 25)))⟩
 .done)))))))))
 (.seq (.tree (.seq ⟨some 4, none, (.ofA (.mv (.cst (.v (.bool true)))))⟩
 .done))
 .ret))))
def r104 : List XR := [.tmp 4]
theorem fn104 : FnX Try.prog 104 [] 26 x104 r104 := ⟨_, Try.func104, by kernel_rfl, by kernel_rfl, by kernel_rfl, by kernel_rfl⟩
-- almshouse/image.same (2 parameters)
def x62 : XC := (.seq (.tree (.seq ⟨some 2, none, (.box (.tmp 0))⟩
 (.seq ⟨some 3, none, (.box (.tmp 1))⟩
 (.seq ⟨some 4, none, (.ofA (.mv (.cst (.v (.bool false)))))⟩
 .done))))
 (.seq (.tree (.seq ⟨some 5, none, (.ofA (.faddr 0 (.tmp 2)))⟩
 (.seq ⟨some 6, none, (.ofA (.load none (.tmp 5)))⟩
 (.seq ⟨some 7, none, (.ofA (.faddr 0 (.tmp 3)))⟩
 (.seq ⟨some 8, none, (.ofA (.load none (.tmp 7)))⟩
 (.seq ⟨some 9, none, (.ofA (.eqb false (.tmp 6) (.tmp 8)))⟩
 (.seq ⟨some 10, none, (.ofA (.mv (.tmp 9)))⟩
 (.seq ⟨some 11, some (10, true), (.ofA (.faddr 1 (.tmp 2)))⟩
 (.seq ⟨some 12, some (10, true), (.ofA (.load none (.tmp 11)))⟩
 (.seq ⟨some 13, some (10, true), (.ofA (.faddr 1 (.tmp 3)))⟩
 (.seq ⟨some 14, some (10, true), (.ofA (.load none (.tmp 13)))⟩
 (.seq ⟨some 15, some (10, true), (.ofA (.bin .eql (.tmp 12) (.tmp 14)))⟩
 (.seq ⟨some 16, none, (.ofA (.pick (.tmp 10) (.tmp 15) (.cst (.v (.bool false)))))⟩
 (.seq ⟨some 17, none, (.ofA (.mv (.tmp 16)))⟩
 (.seq ⟨some 18, some (17, true), (.ofA (.faddr 2 (.tmp 2)))⟩
 (.seq ⟨some 19, some (17, true), (.ofA (.load none (.tmp 18)))⟩
 (.seq ⟨some 20, some (17, true), (.ofA (.faddr 2 (.tmp 3)))⟩
 (.seq ⟨some 21, some (17, true), (.ofA (.load none (.tmp 20)))⟩
 (.seq ⟨some 22, some (17, true), (.call (.cst (.fn 104 [])) [(.tmp 19), (.tmp 21)])⟩
 (.seq ⟨some 23, none, (.ofA (.pick (.tmp 17) (.tmp 22) (.cst (.v (.bool false)))))⟩
 (.seq ⟨some 4, none, (.ofA (.mv (.tmp 23)))⟩
 .done)))))))))))))))))))))
 .ret))
def r62 : List XR := [.tmp 4]
theorem fn62 : FnX Try.prog 62 [] 24 x62 r62 := ⟨_, Try.func62, by kernel_rfl, by kernel_rfl, by kernel_rfl, by kernel_rfl⟩
-- slices.EqualFunc[[]almshouse/image.Block,[]almshouse/image.Block,almshouse/image.Block,almshouse/image.Block] (3 parameters)
def x61 : XC := (.seq (.tree (.seq ⟨some 6, none, (.ofA (.mv (.cst (.v (.bool false)))))⟩
 .done))
 (.seq (.seq (.tree (.seq ⟨some 10, none, (.ofA (.mv (.tmp 0)))⟩
 (.seq ⟨some 11, none, (.ofA (.len (.tmp 10)))⟩
 (.seq ⟨some 12, none, (.ofA (.mv (.tmp 1)))⟩
 (.seq ⟨some 13, none, (.ofA (.len (.tmp 12)))⟩
 (.seq ⟨some 14, none, (.ofA (.bin .neq (.tmp 11) (.tmp 13)))⟩
 .done))))))
 (.cond (.tmp 14)
 (.seq (.tree (.seq ⟨some 6, none, (.ofA (.mv (.cst (.v (.bool false)))))⟩
 .done))
 .ret)
 .skip))
 (.seq (.seq (.tree (.seq ⟨some 15, none, (.ofA (.mv (.tmp 0)))⟩
 (.seq ⟨some 16, none, (.ofA (.len (.tmp 15)))⟩
 (.seq ⟨some 17, none, (.ofA (.mv (.cst (.v (.int .i64 0)))))⟩
 .done))))
 (.block 0 (.loop (.seq (.tree (.seq ⟨some 18, none, (.ofA (.bin .lss (.tmp 17) (.tmp 16)))⟩
 .done))
 (.seq (.cond (.tmp 18)
 .skip
 (.exit 0))
 (.seq (.block 1 (.seq (.tree (.seq ⟨some 19, none, (.ofA (.mv (.tmp 17)))⟩
 (.seq ⟨some 20, none, (.ofA (.isl 3 (.tmp 15) (.tmp 17)))⟩
 (.seq ⟨some 21, none, (.ofA (.load (some 3) (.tmp 20)))⟩
 (.seq ⟨some 8, none, (.alloc [(.v (.bool false)), (.v (.int .i64 0)), (.v (.slice none 0 0))])⟩
 (.seq ⟨some 7, none, (.ofA (.mv (.tmp 19)))⟩
 (.seq ⟨none, none, (.store 3 (.tmp 8) (.tmp 21))⟩
 .done)))))))
 (.seq (.tree (.seq ⟨some 22, none, (.ofA (.mv (.tmp 1)))⟩
 (.seq ⟨some 23, none, (.ofA (.mv (.tmp 7)))⟩
 (.seq ⟨some 24, none, (.ofA (.isl 3 (.tmp 22) (.tmp 23)))⟩
 (.seq ⟨some 25, none, (.ofA (.load (some 3) (.tmp 24)))⟩
 (.seq ⟨some 9, none, (.alloc [(.v (.bool false)), (.v (.int .i64 0)), (.v (.slice none 0 0))])⟩
 (.seq ⟨none, none, (.store 3 (.tmp 9) (.tmp 25))⟩
 .done)))))))
 (.seq (.tree (.seq ⟨some 26, none, (.ofA (.mv (.tmp 2)))⟩
 (.seq ⟨some 27, none, (.ofA (.load (some 3) (.tmp 8)))⟩
 (.seq ⟨some 28, none, (.ofA (.load (some 3) (.tmp 9)))⟩
 (.seq ⟨some 29, none, (.call (.tmp 26) [(.tmp 27), (.tmp 28)])⟩
 (.seq ⟨some 30, none, (.ofA (.un .not (.tmp 29)))⟩
 .done))))))
 (.cond (.tmp 30)
 (.seq (.tree (.seq ⟨some 6, none, (.ofA (.mv (.cst (.v (.bool false)))))⟩
 .done))
 .ret)
 .skip)))))
 (.tree (.seq ⟨some 31, none, (.ofA (.bin .add (.tmp 17) (.cst (.v (.int .i64 1)))))⟩
 (.seq ⟨some 17, none, (.ofA (.mv (.tmp 31)))⟩
 .done)))))))))
 (.seq (.tree (.seq ⟨some 6, none, (.ofA (.mv (.cst (.v (.bool true)))))⟩
 .done))
 .ret))))
def r61 : List XR := [.tmp 6]
theorem fn61 : FnX Try.prog 61 [] 32 x61 r61 := ⟨_, Try.func61, by kernel_rfl, by kernel_rfl, by kernel_rfl, by kernel_rfl⟩
-- almshouse/image.Same (2 parameters)
def x17 : XC := (.seq (.tree (.seq ⟨some 2, none, (.box (.tmp 0))⟩
 (.seq ⟨some 3, none, (.box (.tmp 1))⟩
 (.seq ⟨some 4, none, (.ofA (.mv (.cst (.v (.bool false)))))⟩
 .done))))
 (.seq (.tree (.seq ⟨some 5, none, (.ofA (.faddr 0 (.tmp 2)))⟩
 (.seq ⟨some 6, none, (.ofA (.load (some 4) (.tmp 5)))⟩
 (.seq ⟨some 7, none, (.ofA (.faddr 0 (.tmp 3)))⟩
 (.seq ⟨some 8, none, (.ofA (.load (some 4) (.tmp 7)))⟩
 (.seq ⟨some 9, none, (.ofA (.eqs false [.int, .int, .int, .int] (.tmp 6) (.tmp 8)))⟩
 (.seq ⟨some 10, none, (.ofA (.mv (.tmp 9)))⟩
 (.seq ⟨some 11, some (10, true), (.ofA (.faddr 4 (.tmp 2)))⟩
 (.seq ⟨some 12, some (10, true), (.ofA (.load none (.tmp 11)))⟩
 (.seq ⟨some 13, some (10, true), (.ofA (.faddr 4 (.tmp 3)))⟩
 (.seq ⟨some 14, some (10, true), (.ofA (.load none (.tmp 13)))⟩
 (.seq ⟨some 15, some (10, true), (.call (.cst (.fn 61 [])) [(.tmp 12), (.tmp 14), (.cst (.fn 62 []))])⟩
 (.seq ⟨some 16, none, (.ofA (.pick (.tmp 10) (.tmp 15) (.cst (.v (.bool false)))))⟩
 (.seq ⟨some 4, none, (.ofA (.mv (.tmp 16)))⟩
 .done))))))))))))))
 .ret))
def r17 : List XR := [.tmp 4]
theorem fn17 : FnX Try.prog 17 [] 17 x17 r17 := ⟨_, Try.func17, by kernel_rfl, by kernel_rfl, by kernel_rfl, by kernel_rfl⟩
-- almshouse/image.Diff (2 parameters)
def x18 : XC := (.seq (.tree (.seq ⟨some 2, none, (.box (.tmp 0))⟩
 (.seq ⟨some 3, none, (.box (.tmp 1))⟩
 (.seq ⟨some 4, none, (.ofA (.mv (.cst (.v (.slice none 0 0)))))⟩
 .done))))
 (.seq (.tree (.seq ⟨some 5, none, (.ofA (.mv (.cst (.v (.slice none 0 0)))))⟩
 .done))
 (.seq (.seq (.tree (.seq ⟨some 7, none, (.ofA (.faddr 4 (.tmp 2)))⟩
 (.seq ⟨some 8, none, (.ofA (.load none (.tmp 7)))⟩
 (.seq ⟨some 9, none, (.ofA (.len (.tmp 8)))⟩
 (.seq ⟨some 10, none, (.ofA (.faddr 4 (.tmp 3)))⟩
 (.seq ⟨some 11, none, (.ofA (.load none (.tmp 10)))⟩
 (.seq ⟨some 12, none, (.ofA (.len (.tmp 11)))⟩
 (.seq ⟨some 13, none, (.ofA (.mx true (.tmp 9) [(.tmp 12)]))⟩
 (.seq ⟨some 14, none, (.ofA (.mv (.cst (.v (.int .i64 0)))))⟩
 .done)))))))))
 (.block 0 (.loop (.seq (.tree (.seq ⟨some 15, none, (.ofA (.bin .lss (.tmp 14) (.tmp 13)))⟩
 .done))
 (.seq (.cond (.tmp 15)
 .skip
 (.exit 0))
 (.seq (.block 1 (.seq (.tree (.seq ⟨some 16, none, (.ofA (.mv (.tmp 14)))⟩
 (.seq ⟨some 6, none, (.ofA (.mv (.tmp 16)))⟩
 .done)))
 (.seq (.tree (.take ⟨some 17, none, (.ofA (.mv (.tmp 6)))⟩
 (.take ⟨some 18, none, (.ofA (.faddr 4 (.tmp 2)))⟩
 (.take ⟨some 19, none, (.ofA (.load none (.tmp 18)))⟩
 (.take ⟨some 20, none, (.ofA (.len (.tmp 19)))⟩
 (.take ⟨some 21, none, (.ofA (.bin .geq (.tmp 17) (.tmp 20)))⟩
 (.take ⟨some 22, none, (.ofA (.mv (.tmp 21)))⟩
 (.take ⟨some 23, some (22, false), (.ofA (.mv (.tmp 6)))⟩
 (.take ⟨some 24, some (22, false), (.ofA (.faddr 4 (.tmp 3)))⟩
 (.take ⟨some 25, some (22, false), (.ofA (.load none (.tmp 24)))⟩
 (.take ⟨some 26, some (22, false), (.ofA (.len (.tmp 25)))⟩
 (.take ⟨some 27, some (22, false), (.ofA (.bin .geq (.tmp 23) (.tmp 26)))⟩
 (.take ⟨some 28, none, (.ofA (.pick (.tmp 22) (.cst (.v (.bool true))) (.tmp 27)))⟩
 (.take ⟨some 29, none, (.ofA (.mv (.tmp 28)))⟩
 (.take ⟨some 30, some (29, false), (.ofA (.faddr 4 (.tmp 2)))⟩
 (.take ⟨some 31, some (29, false), (.ofA (.load none (.tmp 30)))⟩
 (.take ⟨some 32, some (29, false), (.ofA (.mv (.tmp 6)))⟩
 (.take ⟨some 33, some (29, false), (.ofA (.isl 3 (.tmp 31) (.tmp 32)))⟩
 (.take ⟨some 34, some (29, false), (.ofA (.load (some 3) (.tmp 33)))⟩
 (.take ⟨some 35, some (29, false), (.ofA (.faddr 4 (.tmp 3)))⟩
 (.take ⟨some 36, some (29, false), (.ofA (.load none (.tmp 35)))⟩
 (.take ⟨some 37, some (29, false), (.ofA (.mv (.tmp 6)))⟩
 (.take ⟨some 38, some (29, false), (.ofA (.isl 3 (.tmp 36) (.tmp 37)))⟩
 (.take ⟨some 39, some (29, false), (.ofA (.load (some 3) (.tmp 38)))⟩
 (.act true [(⟨some 40, some (29, false), (.call (.cst (.fn 62 [])) [(.tmp 34), (.tmp 39)])⟩,
 (.take ⟨some 41, some (29, false), (.ofA (.un .not (.tmp 40)))⟩
 (.take ⟨some 42, none, (.ofA (.pick (.tmp 29) (.cst (.v (.bool true))) (.tmp 41)))⟩
 .done)))])))))))))))))))))))))))))
 (.cond (.tmp 42)
 (.tree (.seq ⟨some 43, none, (.ofA (.mv (.tmp 5)))⟩
 (.seq ⟨some 44, none, (.ofA (.mv (.tmp 6)))⟩
 (.seq ⟨some 45, none, (.buildSl 1 1 [(.v (.int .i64 0))] [(0, 1, (.tmp 44))])⟩
 (.seq ⟨some 46, none, (.app 1 8 (.tmp 43) (.tmp 45))⟩
 (.seq ⟨some 5, none, (.ofA (.mv (.tmp 46)))⟩
 .done))))))
 .skip))))
 (.tree (.seq ⟨some 47, none, (.ofA (.bin .add (.tmp 14) (.cst (.v (.int .i64 1)))))⟩
 (.seq ⟨some 14, none, (.ofA (.mv (.tmp 47)))⟩
 .done)))))))))
 (.seq (.tree (.seq ⟨some 48, none, (.ofA (.mv (.tmp 5)))⟩
 (.seq ⟨some 4, none, (.ofA (.mv (.tmp 48)))⟩
 .done)))
 .ret))))
def r18 : List XR := [.tmp 4]
theorem fn18 : FnX Try.prog 18 [] 49 x18 r18 := ⟨_, Try.func18, by kernel_rfl, by kernel_rfl, by kernel_rfl, by kernel_rfl⟩
end Go.Proofs.Ytibefgdjijmncaa
end
section
namespace Go.Proofs.Ytibefgdjijmncaa
open Go.RowKit Sz
set_option maxHeartbeats 4000000
set_option maxRecDepth 20000
def eqG (g h : Ge) : Bool := (g.ch == h.ch) && ((g.di == h.di) && ((g.bl == h.bl) && (g.pa == h.pa)))
def big : Nat := 9223372036854775807
def c17 [Inp] : Trans := fun args m k => ∃ s1 s2 g1 g2 bs1 bs2, args = [s1, s2] ∧ picS m s1 g1 bs1 ∧ picS m s2 g2 bs2 ∧ bs1.length ≤ 9223372036854775807 ∧ (∀ b ∈ bs1, b.pages.length ≤ 9223372036854775807) ∧ k (.v (.bool (eqG g1 g2 && eqBs bs1 bs2))) m
def intS (j : Nat) (L : List Int) : SV := if L = [] then .v (.slice none 0 0) else .row j 0 L.length 1
def intM (L : List Int) : Mem := if L = [] then [] else [⟨true, iL L⟩]
theorem extO {g : List Nat} {b : Bool} {cs ds : List SV} : ExtLe g b (@Ext.v (oO cs).x) (@Ext.v (oO ds).x) = True := extLe_no
theorem extO2 {g : List Nat} {b : Bool} {cs : List SV} : ExtLe g b (@Ext.v (oO cs).x) (@Ext.v noExt) = True := extLe_no
def c18 [Inp] : Trans := fun args m k => ∃ s1 s2 g1 g2 bs1 bs2, args = [s1, s2] ∧ picS m s1 g1 bs1 ∧ picS m s2 g2 bs2 ∧ bs1.length ≤ 1000000 ∧ bs2.length ≤ 1000000 ∧ (∀ b ∈ bs1, b.pages.length ≤ 9223372036854775807) ∧ k (intS m.length (difL bs1 bs2)) (m ++ intM (difL bs1 bs2))
end Go.Proofs.Ytibefgdjijmncaa
end
section
namespace Go.Proofs.Ytibefgdjijmncaa
open Go.RowKit Sz
set_option maxHeartbeats 4000000
set_option maxRecDepth 20000
-- almshouse/almshouselaw43.few (1 parameters)
def x12 : XC := (.seq (.tree (.seq ⟨some 1, none, (.box (.tmp 0))⟩
 (.seq ⟨some 2, none, (.ofA (.mv (.cst (.v (.bool false)))))⟩
 .done)))
 (.seq (.tree (.seq ⟨some 3, none, (.ofA (.mv (.cst (.v (.int .i64 0)))))⟩
 .done))
 (.seq (.seq (.tree (.seq ⟨some 8, none, (.ofA (.faddr 4 (.tmp 1)))⟩
 (.seq ⟨some 9, none, (.ofA (.load none (.tmp 8)))⟩
 (.seq ⟨some 10, none, (.ofA (.len (.tmp 9)))⟩
 (.seq ⟨some 11, none, (.ofA (.mv (.cst (.v (.int .i64 0)))))⟩
 .done)))))
 (.block 0 (.loop (.seq (.tree (.seq ⟨some 12, none, (.ofA (.bin .lss (.tmp 11) (.tmp 10)))⟩
 .done))
 (.seq (.cond (.tmp 12)
 .skip
 (.exit 0))
 (.seq (.block 1 (.seq (.tree (.seq ⟨some 13, none, (.ofA (.isl 3 (.tmp 9) (.tmp 11)))⟩
 (.seq ⟨some 14, none, (.ofA (.load (some 3) (.tmp 13)))⟩
 (.seq ⟨some 5, none, (.alloc [(.v (.bool false)), (.v (.int .i64 0)), (.v (.slice none 0 0))])⟩
 (.seq ⟨none, none, (.store 3 (.tmp 5) (.tmp 14))⟩
 .done)))))
 (.seq (.seq (.tree (.seq ⟨some 15, none, (.ofA (.faddr 2 (.tmp 5)))⟩
 (.seq ⟨some 16, none, (.ofA (.load none (.tmp 15)))⟩
 (.seq ⟨some 17, none, (.ofA (.len (.tmp 16)))⟩
 (.seq ⟨some 18, none, (.ofA (.mv (.cst (.v (.int .i64 0)))))⟩
 .done)))))
 (.block 2 (.loop (.seq (.tree (.seq ⟨some 19, none, (.ofA (.bin .lss (.tmp 18) (.tmp 17)))⟩
 .done))
 (.seq (.cond (.tmp 19)
 .skip
 (.exit 2))
 (.seq (.block 3 (.seq (.tree (.seq ⟨some 20, none, (.ofA (.isl 3 (.tmp 16) (.tmp 18)))⟩
 (.seq ⟨some 21, none, (.ofA (.load (some 3) (.tmp 20)))⟩
 (.seq ⟨some 7, none, (.alloc [(.v (.bool false)), (.v (.string ⟨#[]⟩)), (.v (.string ⟨#[]⟩))])⟩
 (.seq ⟨none, none, (.store 3 (.tmp 7) (.tmp 21))⟩
 .done)))))
 (.tree (.seq ⟨some 22, none, (.ofA (.mv (.tmp 3)))⟩
 (.seq ⟨some 23, none, (.ofA (.faddr 1 (.tmp 7)))⟩
 (.seq ⟨some 24, none, (.ofA (.load none (.tmp 23)))⟩
 (.seq ⟨some 25, none, (.ofA (.lens (.tmp 24)))⟩
 (.seq ⟨some 26, none, (.ofA (.faddr 2 (.tmp 7)))⟩
 (.seq ⟨some 27, none, (.ofA (.load none (.tmp 26)))⟩
 (.seq ⟨some 28, none, (.ofA (.lens (.tmp 27)))⟩
 (.seq ⟨some 29, none, (.ofA (.bin .add (.tmp 25) (.tmp 28)))⟩
 (.seq ⟨some 30, none, (.ofA (.mx false (.tmp 29) [(.cst (.v (.int .i64 10000)))]))⟩
 (.seq ⟨some 31, none, (.ofA (.bin .add (.cst (.v (.int .i64 10))) (.tmp 30)))⟩
 (.seq ⟨some 32, none, (.ofA (.bin .add (.tmp 22) (.tmp 31)))⟩
 (.seq ⟨some 3, none, (.ofA (.mv (.tmp 32)))⟩
 .done)))))))))))))))
 (.tree (.seq ⟨some 33, none, (.ofA (.bin .add (.tmp 18) (.cst (.v (.int .i64 1)))))⟩
 (.seq ⟨some 18, none, (.ofA (.mv (.tmp 33)))⟩
 .done)))))))))
 (.seq (.tree (.seq ⟨some 34, none, (.ofA (.mv (.tmp 3)))⟩
 (.seq ⟨some 35, none, (.ofA (.bin .add (.tmp 34) (.cst (.v (.int .i64 10)))))⟩
 (.seq ⟨some 3, none, (.ofA (.mv (.tmp 35)))⟩
 .done))))
 (.seq (.tree (.seq ⟨some 36, none, (.ofA (.mv (.tmp 3)))⟩
 (.seq ⟨some 37, none, (.ofA (.bin .gtr (.tmp 36) (.cst (.v (.int .i64 6000)))))⟩
 .done)))
 (.cond (.tmp 37)
 (.seq (.tree (.seq ⟨some 2, none, (.ofA (.mv (.cst (.v (.bool false)))))⟩
 .done))
 .ret)
 .skip))))))
 (.tree (.seq ⟨some 38, none, (.ofA (.bin .add (.tmp 11) (.cst (.v (.int .i64 1)))))⟩
 (.seq ⟨some 11, none, (.ofA (.mv (.tmp 38)))⟩
 .done)))))))))
 (.seq (.tree (.seq ⟨some 2, none, (.ofA (.mv (.cst (.v (.bool true)))))⟩
 .done))
 .ret))))
def r12 : List XR := [.tmp 2]
theorem fn12 : FnX Try.prog 12 [] 39 x12 r12 := ⟨_, Try.func12, by kernel_rfl, by kernel_rfl, by kernel_rfl, by kernel_rfl⟩
def c12 [Inp] : Trans := fun args m k => ∃ s g bs, args = [s] ∧ picS m s g bs ∧ bs.length ≤ 140737488355328 ∧ (∀ b ∈ bs, b.pages.length ≤ 140737488355328 ∧ ∀ x ∈ b.pages, x.beside.size ≤ 140737488355328 ∧ x.data.size ≤ 140737488355328) ∧ ∀ r : Bool, (r = true → bs.length ≤ 600) → k (.v (.bool r)) m
theorem c12_ok [I : Inp] : Contract Try.prog 12 true c12 := by
  refine .readG fn12 (G := fun J => []) (fun J => @g0 J _) _ fun args m k h => ?_
  obtain ⟨s, g, bs, rfl, h1, hn, hpn, hk⟩ := h
  refine ⟨by simp, fun J hJ K hK us hus => ?_⟩
  obtain ⟨u, t1, rfl, hk1, rfl⟩ := hus
  obtain ⟨p, c, xs, e1, rfl, hin, hx0⟩ := pic_kn hK h1 hk1
  rw [List.map_cons, e1, List.map_nil]
  rw [List.length_map] at hn hk
  have hitem : ∀ (i : Nat) (x : Bi), xs[i]? = some x → inpL (plusA p (i * 3)) 3 = some x.cs := fun i x hx => inp_item Bi.len hin rfl hx
  unfold Ge.sv
  simp (maxSteps := 2000000) -implicitDefEqProofs only [↓x12, ↓r12, s_alt, s_alt20, s_alt2t, s_alt2f, ↓s_loopi, ↓v_pq, ↓PRE, POST, CORE, Nat.reduceDiv, Nat.reduceMod, Int.reduceLT, Int.reduceLE, Int.reduceToNat, Int.reduceAdd, ↓reduceIte, Nat.reduceEqDiff, Nat.reduceAdd, Nat.reduceMul, Nat.reduceSub, Nat.reduceLeDiff, Nat.reduceLT, reduceCtorEq, if_true, eq_self, forall_const, implies_true]
  refine TXi_of (TX_countS (g0 _) xs.length (σ := Int) (fun x s => [(1, .ptr 0 0), (3, .v (.int .i64 s)), (9, .v (.slice p xs.length c)), (10, .v (.int .i64 (xs.length : Int))), (11, .v (.int .i64 (x : Int)))]) (fun x s => [⟨true, [.v (.int .i64 g.ch), .v (.int .i64 g.di), .v (.int .i64 g.bl), .v (.int .i64 g.pa), .v (.slice p xs.length c)]⟩]) (fun x s => 10 * (x : Int) ≤ s ∧ s ≤ 6000) 0 (by omega) (by refine ⟨[0], by simp [NdL, NdA, oO_cells, oO_own, iL_nil], ?_, ?_, keep0 hJ⟩ <;> simp only [FitM, FitE, ObLe, LeL, Le, List.cons_append, List.nil_append] <;> (try (simp (maxSteps := 2000000) -implicitDefEqProofs only [s_alt, s_alt20, s_alt2t, s_alt2f, ↓s_loopi, ↓v_pq, ↓PRE, POST, CORE, Nat.reduceDiv, Nat.reduceMod, Int.reduceLT, Int.reduceLE, Int.reduceToNat, Int.reduceAdd, ↓reduceIte, Nat.reduceEqDiff, Nat.reduceAdd, Nat.reduceMul, Nat.reduceSub, Nat.reduceLeDiff, Nat.reduceLT, reduceCtorEq, if_true, eq_self, forall_const, implies_true])) <;> (try simp only [Sz.Le, Sz.LeL, List.getElem?_cons_zero, List.getElem?_cons_succ]) <;> (try simp)) ?_ ?_)
  · intro x s hx hI
    obtain ⟨a, ha⟩ : ∃ a, xs[x]? = some a := ⟨_, List.getElem?_eq_getElem hx⟩
    have hpa := hpn a.b (List.mem_map.2 ⟨a, List.mem_of_getElem? ha, rfl⟩)
    have f : inpL (plusA p (x * 3)) 3 = some [.bool a.b.bad, .int .i64 a.b.er, .slice a.a a.b.pages.length a.c] := hitem x a ha
    have hina : inpL a.a (a.b.pages.length * 3) = some (rowV Pg.cs a.b.pages) := hx0 a (List.mem_of_getElem? ha)
    have hitem2 : ∀ (i : Nat) (y : Pg), a.b.pages[i]? = some y → inpL (plusA a.a (i * 3)) 3 = some y.cs := fun i y hy => inp_item Pg.len hina rfl hy
    have hp : p.isSome = true := inpL_isSome hin (by omega)
    have i0 : (0 : Int) ≤ (x : Int) := by omega
    have i1 : (x : Int) < (xs.length : Int) := by omega
    have w1 : IntKind.i64.wrap ((x : Int) + 1) = (x : Int) + 1 := Sz.w_64 (by omega) (by omega)
    simp (maxSteps := 2000000) -implicitDefEqProofs only [f, hp, i0, i1, w1, s_alt, s_alt20, s_alt2t, s_alt2f, ↓s_loopi, ↓v_pq, ↓PRE, POST, CORE, Nat.reduceDiv, Nat.reduceMod, Int.reduceLT, Int.reduceLE, Int.reduceToNat, Int.reduceAdd, ↓reduceIte, Nat.reduceEqDiff, Nat.reduceAdd, Nat.reduceMul, Nat.reduceSub, Nat.reduceLeDiff, Nat.reduceLT, reduceCtorEq, if_true, eq_self, forall_const, implies_true]
    refine TXi_of (TX_countS (g0 _) a.b.pages.length (σ := Int) (fun y s' => [(1, .ptr 0 0), (3, .v (.int .i64 s')), (9, .v (.slice p xs.length c)), (10, .v (.int .i64 (xs.length : Int))), (11, .v (.int .i64 (x : Int))), (16, .v (.slice a.a a.b.pages.length a.c)), (17, .v (.int .i64 (a.b.pages.length : Int))), (18, .v (.int .i64 (y : Int)))]) (fun y s' => [⟨true, [.v (.int .i64 g.ch), .v (.int .i64 g.di), .v (.int .i64 g.bl), .v (.int .i64 g.pa), .v (.slice p xs.length c)]⟩]) (fun y s' => s ≤ s' ∧ s' ≤ s + 10010 * (y : Int)) s (by omega) (by refine ⟨[0], by simp [NdL, NdA, oO_cells, oO_own, iL_nil], ?_, ?_, keep0 hJ⟩ <;> simp only [FitM, FitE, ObLe, LeL, Le, List.cons_append, List.nil_append] <;> (try (simp (maxSteps := 2000000) -implicitDefEqProofs only [s_alt, s_alt20, s_alt2t, s_alt2f, ↓s_loopi, ↓v_pq, ↓PRE, POST, CORE, Nat.reduceDiv, Nat.reduceMod, Int.reduceLT, Int.reduceLE, Int.reduceToNat, Int.reduceAdd, ↓reduceIte, Nat.reduceEqDiff, Nat.reduceAdd, Nat.reduceMul, Nat.reduceSub, Nat.reduceLeDiff, Nat.reduceLT, reduceCtorEq, if_true, eq_self, forall_const, implies_true])) <;> (try simp only [Sz.Le, Sz.LeL, List.getElem?_cons_zero, List.getElem?_cons_succ]) <;> (try simp)) ?_ ?_)
    · intro y s' hy hI2
      obtain ⟨b, hb⟩ : ∃ b, a.b.pages[y]? = some b := ⟨_, List.getElem?_eq_getElem hy⟩
      have hbs := hpa.2 b (List.mem_of_getElem? hb)
      have f2 : inpL (plusA a.a (y * 3)) 3 = some [.bool b.torn, .string b.beside, .string b.data] := hitem2 y b hb
      have hp2 : a.a.isSome = true := inpL_isSome hina (by omega)
      have j0 : (0 : Int) ≤ (y : Int) := by omega
      have j1 : (y : Int) < (a.b.pages.length : Int) := by omega
      have w2 : IntKind.i64.wrap ((y : Int) + 1) = (y : Int) + 1 := Sz.w_64 (by omega) (by omega)
      have w3 : IntKind.i64.wrap ((b.beside.size : Int) + (b.data.size : Int)) = (b.beside.size : Int) + (b.data.size : Int) := Sz.w_64 (by omega) (by omega)
      by_cases h10 : (10000 : Int) < (b.beside.size : Int) + (b.data.size : Int)
      · have w4 : IntKind.i64.wrap 10010 = 10010 := rfl
        have w5 : IntKind.i64.wrap (s' + 10010) = s' + 10010 := Sz.w_64 (by omega) (by omega)
        simp (maxSteps := 2000000) -implicitDefEqProofs only [f2, hp2, j0, j1, w2, w3, h10, w4, w5, s_alt, s_alt20, s_alt2t, s_alt2f, ↓s_loopi, ↓v_pq, ↓PRE, POST, CORE, Nat.reduceDiv, Nat.reduceMod, Int.reduceLT, Int.reduceLE, Int.reduceToNat, Int.reduceAdd, ↓reduceIte, Nat.reduceEqDiff, Nat.reduceAdd, Nat.reduceMul, Nat.reduceSub, Nat.reduceLeDiff, Nat.reduceLT, reduceCtorEq, if_true, eq_self, forall_const, implies_true]
        exact ⟨s' + 10010, ⟨by omega, by omega⟩, (by refine ⟨[0], by simp [NdL, NdA, oO_cells, oO_own, iL_nil], ?_, ?_, keep0 hJ⟩ <;> simp only [FitM, FitE, ObLe, LeL, Le, List.cons_append, List.nil_append] <;> (try (simp (maxSteps := 2000000) -implicitDefEqProofs only [s_alt, s_alt20, s_alt2t, s_alt2f, ↓s_loopi, ↓v_pq, ↓PRE, POST, CORE, Nat.reduceDiv, Nat.reduceMod, Int.reduceLT, Int.reduceLE, Int.reduceToNat, Int.reduceAdd, ↓reduceIte, Nat.reduceEqDiff, Nat.reduceAdd, Nat.reduceMul, Nat.reduceSub, Nat.reduceLeDiff, Nat.reduceLT, reduceCtorEq, if_true, eq_self, forall_const, implies_true])) <;> (try simp only [Sz.Le, Sz.LeL, List.getElem?_cons_zero, List.getElem?_cons_succ]) <;> (try simp))⟩
      · have w4 : IntKind.i64.wrap ((10 : Int) + ((b.beside.size : Int) + (b.data.size : Int))) = 10 + ((b.beside.size : Int) + (b.data.size : Int)) := Sz.w_64 (by omega) (by omega)
        have w5 : IntKind.i64.wrap (s' + (10 + ((b.beside.size : Int) + (b.data.size : Int)))) = s' + (10 + ((b.beside.size : Int) + (b.data.size : Int))) := Sz.w_64 (by omega) (by omega)
        simp (maxSteps := 2000000) -implicitDefEqProofs only [f2, hp2, j0, j1, w2, w3, h10, w4, w5, s_alt, s_alt20, s_alt2t, s_alt2f, ↓s_loopi, ↓v_pq, ↓PRE, POST, CORE, Nat.reduceDiv, Nat.reduceMod, Int.reduceLT, Int.reduceLE, Int.reduceToNat, Int.reduceAdd, ↓reduceIte, Nat.reduceEqDiff, Nat.reduceAdd, Nat.reduceMul, Nat.reduceSub, Nat.reduceLeDiff, Nat.reduceLT, reduceCtorEq, if_true, eq_self, forall_const, implies_true]
        exact ⟨s' + (10 + ((b.beside.size : Int) + (b.data.size : Int))), ⟨by omega, by omega⟩, (by refine ⟨[0], by simp [NdL, NdA, oO_cells, oO_own, iL_nil], ?_, ?_, keep0 hJ⟩ <;> simp only [FitM, FitE, ObLe, LeL, Le, List.cons_append, List.nil_append] <;> (try (simp (maxSteps := 2000000) -implicitDefEqProofs only [s_alt, s_alt20, s_alt2t, s_alt2f, ↓s_loopi, ↓v_pq, ↓PRE, POST, CORE, Nat.reduceDiv, Nat.reduceMod, Int.reduceLT, Int.reduceLE, Int.reduceToNat, Int.reduceAdd, ↓reduceIte, Nat.reduceEqDiff, Nat.reduceAdd, Nat.reduceMul, Nat.reduceSub, Nat.reduceLeDiff, Nat.reduceLT, reduceCtorEq, if_true, eq_self, forall_const, implies_true])) <;> (try simp only [Sz.Le, Sz.LeL, List.getElem?_cons_zero, List.getElem?_cons_succ]) <;> (try simp))⟩
    · intro s' hI2
      have j1 : ¬ (a.b.pages.length : Int) < (a.b.pages.length : Int) := by omega
      have w2 : IntKind.i64.wrap (s' + 10) = s' + 10 := Sz.w_64 (by omega) (by omega)
      by_cases h6 : (6000 : Int) < s' + 10
      · simp (maxSteps := 2000000) -implicitDefEqProofs only [j1, w1, w2, h6, gt_iff_lt, s_alt, s_alt20, s_alt2t, s_alt2f, ↓s_loopi, ↓v_pq, ↓PRE, POST, CORE, Nat.reduceDiv, Nat.reduceMod, Int.reduceLT, Int.reduceLE, Int.reduceToNat, Int.reduceAdd, ↓reduceIte, Nat.reduceEqDiff, Nat.reduceAdd, Nat.reduceMul, Nat.reduceSub, Nat.reduceLeDiff, Nat.reduceLT, reduceCtorEq, if_true, eq_self, forall_const, implies_true]
        exact hk false (by simp)
      · simp (maxSteps := 2000000) -implicitDefEqProofs only [j1, w1, w2, h6, gt_iff_lt, s_alt, s_alt20, s_alt2t, s_alt2f, ↓s_loopi, ↓v_pq, ↓PRE, POST, CORE, Nat.reduceDiv, Nat.reduceMod, Int.reduceLT, Int.reduceLE, Int.reduceToNat, Int.reduceAdd, ↓reduceIte, Nat.reduceEqDiff, Nat.reduceAdd, Nat.reduceMul, Nat.reduceSub, Nat.reduceLeDiff, Nat.reduceLT, reduceCtorEq, if_true, eq_self, forall_const, implies_true]
        exact ⟨s' + 10, ⟨by omega, by omega⟩, (by refine ⟨[0], by simp [NdL, NdA, oO_cells, oO_own, iL_nil], ?_, ?_, keep0 hJ⟩ <;> simp only [FitM, FitE, ObLe, LeL, Le, List.cons_append, List.nil_append] <;> (try (simp (maxSteps := 2000000) -implicitDefEqProofs only [s_alt, s_alt20, s_alt2t, s_alt2f, ↓s_loopi, ↓v_pq, ↓PRE, POST, CORE, Nat.reduceDiv, Nat.reduceMod, Int.reduceLT, Int.reduceLE, Int.reduceToNat, Int.reduceAdd, ↓reduceIte, Nat.reduceEqDiff, Nat.reduceAdd, Nat.reduceMul, Nat.reduceSub, Nat.reduceLeDiff, Nat.reduceLT, reduceCtorEq, if_true, eq_self, forall_const, implies_true])) <;> (try simp only [Sz.Le, Sz.LeL, List.getElem?_cons_zero, List.getElem?_cons_succ]) <;> (try simp))⟩
  · intro s hI
    have i1 : ¬ (xs.length : Int) < (xs.length : Int) := by omega
    simp (maxSteps := 2000000) -implicitDefEqProofs only [i1, s_alt, s_alt20, s_alt2t, s_alt2f, ↓s_loopi, ↓v_pq, ↓PRE, POST, CORE, Nat.reduceDiv, Nat.reduceMod, Int.reduceLT, Int.reduceLE, Int.reduceToNat, Int.reduceAdd, ↓reduceIte, Nat.reduceEqDiff, Nat.reduceAdd, Nat.reduceMul, Nat.reduceSub, Nat.reduceLeDiff, Nat.reduceLT, reduceCtorEq, if_true, eq_self, forall_const, implies_true]
    exact hk true (fun _ => by omega)
end Go.Proofs.Ytibefgdjijmncaa
end
section
namespace Go.Proofs.Ytibefgdjijmncaa
open Go.RowKit Sz
set_option maxHeartbeats 4000000
set_option maxRecDepth 20000
-- almshouse/geom.Check (1 parameters)
def x53 : XC := (.seq (.tree (.seq ⟨some 1, none, (.box (.tmp 0))⟩
 (.seq ⟨some 2, none, (.ofA (.mv (.cst (.v (.int .i64 0)))))⟩
 .done)))
 (.seq (.tree (.seq ⟨some 6, none, (.ofA (.faddr 0 (.tmp 1)))⟩
 (.seq ⟨some 7, none, (.ofA (.load none (.tmp 6)))⟩
 (.seq ⟨some 8, none, (.ofA (.faddr 1 (.tmp 1)))⟩
 (.seq ⟨some 9, none, (.ofA (.load none (.tmp 8)))⟩
 (.seq ⟨some 10, none, (.ofA (.faddr 2 (.tmp 1)))⟩
 (.seq ⟨some 11, none, (.ofA (.load none (.tmp 10)))⟩
 (.seq ⟨some 12, none, (.ofA (.mx false (.tmp 7) [(.tmp 9), (.tmp 11)]))⟩
 (.seq ⟨some 3, none, (.ofA (.mv (.tmp 12)))⟩
 .done)))))))))
 (.seq (.tree (.seq ⟨some 13, none, (.ofA (.faddr 0 (.tmp 1)))⟩
 (.seq ⟨some 14, none, (.ofA (.load none (.tmp 13)))⟩
 (.seq ⟨some 15, none, (.ofA (.faddr 1 (.tmp 1)))⟩
 (.seq ⟨some 16, none, (.ofA (.load none (.tmp 15)))⟩
 (.seq ⟨some 17, none, (.ofA (.faddr 2 (.tmp 1)))⟩
 (.seq ⟨some 18, none, (.ofA (.load none (.tmp 17)))⟩
 (.seq ⟨some 19, none, (.ofA (.mx true (.tmp 14) [(.tmp 16), (.tmp 18)]))⟩
 (.seq ⟨some 4, none, (.ofA (.mv (.tmp 19)))⟩
 .done)))))))))
 (.seq (.block 0 (.seq (.tree (.seq ⟨some 21, none, (.ofA (.mv (.tmp 3)))⟩
 (.seq ⟨some 22, none, (.ofA (.bin .lss (.tmp 21) (.cst (.v (.int .i64 1)))))⟩
 (.seq ⟨some 23, none, (.ofA (.mv (.tmp 22)))⟩
 (.seq ⟨some 24, some (23, false), (.ofA (.faddr 3 (.tmp 1)))⟩
 (.seq ⟨some 25, some (23, false), (.ofA (.load none (.tmp 24)))⟩
 (.seq ⟨some 26, some (23, false), (.ofA (.bin .lss (.tmp 25) (.cst (.v (.int .i64 2)))))⟩
 (.seq ⟨some 27, none, (.ofA (.pick (.tmp 23) (.cst (.v (.bool true))) (.tmp 26)))⟩
 (.seq ⟨some 20, none, (.ofA (.mv (.tmp 27)))⟩
 .done)))))))))
 (.cond (.tmp 20)
 (.seq (.tree (.seq ⟨some 2, none, (.ofA (.mv (.cst (.v (.int .i64 1)))))⟩
 .done))
 .ret)
 (.seq (.tree (.seq ⟨some 29, none, (.ofA (.mv (.tmp 4)))⟩
 (.seq ⟨some 30, none, (.ofA (.bin .gtr (.tmp 29) (.cst (.v (.int .i64 64)))))⟩
 (.seq ⟨some 31, none, (.ofA (.mv (.tmp 30)))⟩
 (.seq ⟨some 32, some (31, false), (.ofA (.faddr 3 (.tmp 1)))⟩
 (.seq ⟨some 33, some (31, false), (.ofA (.load none (.tmp 32)))⟩
 (.seq ⟨some 34, some (31, false), (.ofA (.bin .gtr (.tmp 33) (.cst (.v (.int .i64 16)))))⟩
 (.seq ⟨some 35, none, (.ofA (.pick (.tmp 31) (.cst (.v (.bool true))) (.tmp 34)))⟩
 (.seq ⟨some 28, none, (.ofA (.mv (.tmp 35)))⟩
 .done)))))))))
 (.cond (.tmp 28)
 (.seq (.tree (.seq ⟨some 2, none, (.ofA (.mv (.cst (.v (.int .i64 4)))))⟩
 .done))
 .ret)
 .skip)))))
 (.seq (.seq (.tree (.seq ⟨some 36, none, (.ofA (.faddr 0 (.tmp 1)))⟩
 (.seq ⟨some 37, none, (.ofA (.load none (.tmp 36)))⟩
 (.seq ⟨some 38, none, (.ofA (.faddr 1 (.tmp 1)))⟩
 (.seq ⟨some 39, none, (.ofA (.load none (.tmp 38)))⟩
 (.seq ⟨some 40, none, (.ofA (.bin .mul (.tmp 37) (.tmp 39)))⟩
 (.seq ⟨some 41, none, (.ofA (.faddr 2 (.tmp 1)))⟩
 (.seq ⟨some 42, none, (.ofA (.load none (.tmp 41)))⟩
 (.seq ⟨some 43, none, (.ofA (.bin .mul (.tmp 40) (.tmp 42)))⟩
 (.seq ⟨some 5, none, (.ofA (.mv (.tmp 43)))⟩
 .done))))))))))
 (.block 1 (.seq (.tree (.seq ⟨some 45, none, (.ofA (.mv (.tmp 5)))⟩
 (.seq ⟨some 46, none, (.ofA (.bin .leq (.tmp 45) (.cst (.v (.int .i64 2)))))⟩
 (.seq ⟨some 44, none, (.ofA (.mv (.tmp 46)))⟩
 .done))))
 (.cond (.tmp 44)
 (.seq (.tree (.seq ⟨some 2, none, (.ofA (.mv (.cst (.v (.int .i64 1)))))⟩
 .done))
 .ret)
 (.seq (.tree (.seq ⟨some 48, none, (.ofA (.mv (.tmp 5)))⟩
 (.seq ⟨some 49, none, (.ofA (.bin .gtr (.tmp 48) (.cst (.v (.int .i64 64)))))⟩
 (.seq ⟨some 47, none, (.ofA (.mv (.tmp 49)))⟩
 .done))))
 (.cond (.tmp 47)
 (.seq (.tree (.seq ⟨some 2, none, (.ofA (.mv (.cst (.v (.int .i64 4)))))⟩
 .done))
 .ret)
 .skip))))))
 (.seq (.tree (.seq ⟨some 2, none, (.ofA (.mv (.cst (.v (.int .i64 0)))))⟩
 .done))
 .ret))))))
def r53 : List XR := [.tmp 2]
theorem fn53 : FnX Try.prog 53 [] 50 x53 r53 := ⟨_, Try.func53, by kernel_rfl, by kernel_rfl, by kernel_rfl, by kernel_rfl⟩
-- almshouse/geom.Blocks (1 parameters)
def x55 : XC := (.seq (.tree (.seq ⟨some 1, none, (.box (.tmp 0))⟩
 (.seq ⟨some 2, none, (.ofA (.mv (.cst (.v (.int .i64 0)))))⟩
 .done)))
 (.seq (.seq (.tree (.seq ⟨some 3, none, (.ofA (.load (some 4) (.tmp 1)))⟩
 (.seq ⟨some 4, none, (.call (.cst (.fn 53 [])) [(.tmp 3)])⟩
 (.seq ⟨some 5, none, (.ofA (.bin .neq (.tmp 4) (.cst (.v (.int .i64 0)))))⟩
 .done))))
 (.cond (.tmp 5)
 (.seq (.tree (.seq ⟨some 2, none, (.ofA (.mv (.cst (.v (.int .i64 0)))))⟩
 .done))
 .ret)
 .skip))
 (.seq (.tree (.seq ⟨some 6, none, (.ofA (.faddr 0 (.tmp 1)))⟩
 (.seq ⟨some 7, none, (.ofA (.load none (.tmp 6)))⟩
 (.seq ⟨some 8, none, (.ofA (.faddr 1 (.tmp 1)))⟩
 (.seq ⟨some 9, none, (.ofA (.load none (.tmp 8)))⟩
 (.seq ⟨some 10, none, (.ofA (.bin .mul (.tmp 7) (.tmp 9)))⟩
 (.seq ⟨some 11, none, (.ofA (.faddr 2 (.tmp 1)))⟩
 (.seq ⟨some 12, none, (.ofA (.load none (.tmp 11)))⟩
 (.seq ⟨some 13, none, (.ofA (.bin .mul (.tmp 10) (.tmp 12)))⟩
 (.seq ⟨some 2, none, (.ofA (.mv (.tmp 13)))⟩
 .done))))))))))
 .ret)))
def r55 : List XR := [.tmp 2]
theorem fn55 : FnX Try.prog 55 [] 14 x55 r55 := ⟨_, Try.func55, by kernel_rfl, by kernel_rfl, by kernel_rfl, by kernel_rfl⟩
-- (almshouse/image.Page).may (1 parameters)
def x88 : XC := (.seq (.tree (.seq ⟨some 1, none, (.box (.tmp 0))⟩
 (.seq ⟨some 2, none, (.ofA (.mv (.cst (.v (.bool false)))))⟩
 .done)))
 (.seq (.seq (.tree (.seq ⟨some 3, none, (.ofA (.faddr 0 (.tmp 1)))⟩
 (.seq ⟨some 4, none, (.ofA (.load none (.tmp 3)))⟩
 .done)))
 (.cond (.tmp 4)
 (.seq (.tree (.seq ⟨some 5, none, (.ofA (.load (some 3) (.tmp 1)))⟩
 (.seq ⟨some 6, none, (.build [(.v (.bool false)), (.v (.string ⟨#[]⟩)), (.v (.string ⟨#[]⟩))] [(0, 1, (.cst (.v (.bool true))))])⟩
 (.seq ⟨some 7, none, (.ofA (.eqs false [.bool, .str, .str] (.tmp 5) (.tmp 6)))⟩
 (.seq ⟨some 2, none, (.ofA (.mv (.tmp 7)))⟩
 .done)))))
 .ret)
 .skip))
 (.seq (.tree (.seq ⟨some 8, none, (.ofA (.faddr 1 (.tmp 1)))⟩
 (.seq ⟨some 9, none, (.ofA (.load none (.tmp 8)))⟩
 (.seq ⟨some 10, none, (.ofA (.lens (.tmp 9)))⟩
 (.seq ⟨some 11, none, (.ofA (.bin .leq (.tmp 10) (.cst (.v (.int .i64 32)))))⟩
 (.seq ⟨some 12, none, (.ofA (.mv (.tmp 11)))⟩
 (.seq ⟨some 13, some (12, true), (.ofA (.faddr 2 (.tmp 1)))⟩
 (.seq ⟨some 14, some (12, true), (.ofA (.load none (.tmp 13)))⟩
 (.seq ⟨some 15, some (12, true), (.ofA (.lens (.tmp 14)))⟩
 (.seq ⟨some 16, some (12, true), (.ofA (.bin .leq (.tmp 15) (.cst (.v (.int .i64 160)))))⟩
 (.seq ⟨some 17, none, (.ofA (.pick (.tmp 12) (.tmp 16) (.cst (.v (.bool false)))))⟩
 (.seq ⟨some 2, none, (.ofA (.mv (.tmp 17)))⟩
 .done))))))))))))
 .ret)))
def r88 : List XR := [.tmp 2]
theorem fn88 : FnX Try.prog 88 [] 18 x88 r88 := ⟨_, Try.func88, by kernel_rfl, by kernel_rfl, by kernel_rfl, by kernel_rfl⟩
-- (almshouse/image.Picture).may$1 (1 parameters)
def x87 : XC := (.seq (.tree (.seq ⟨some 1, none, (.box (.tmp 0))⟩
 (.seq ⟨some 2, none, (.ofA (.mv (.cst (.v (.bool false)))))⟩
 .done)))
 (.seq (.tree (.seq ⟨some 3, none, (.ofA (.load (some 3) (.tmp 1)))⟩
 (.seq ⟨some 4, none, (.call (.cst (.fn 88 [])) [(.tmp 3)])⟩
 (.seq ⟨some 5, none, (.ofA (.un .not (.tmp 4)))⟩
 (.seq ⟨some 2, none, (.ofA (.mv (.tmp 5)))⟩
 .done)))))
 .ret))
def r87 : List XR := [.tmp 2]
theorem fn87 : FnX Try.prog 87 [] 6 x87 r87 := ⟨_, Try.func87, by kernel_rfl, by kernel_rfl, by kernel_rfl, by kernel_rfl⟩
-- slices.IndexFunc[[]almshouse/image.Page,almshouse/image.Page] (2 parameters)
def x122 : XC := (.seq (.tree (.seq ⟨some 4, none, (.ofA (.mv (.cst (.v (.int .i64 0)))))⟩
 .done))
 (.seq (.seq (.tree (.seq ⟨some 6, none, (.ofA (.mv (.tmp 0)))⟩
 (.seq ⟨some 7, none, (.ofA (.len (.tmp 6)))⟩
 (.seq ⟨some 8, none, (.ofA (.mv (.cst (.v (.int .i64 0)))))⟩
 .done))))
 (.block 0 (.loop (.seq (.tree (.seq ⟨some 9, none, (.ofA (.bin .lss (.tmp 8) (.tmp 7)))⟩
 .done))
 (.seq (.cond (.tmp 9)
 .skip
 (.exit 0))
 (.seq (.block 1 (.seq (.tree (.seq ⟨some 10, none, (.ofA (.mv (.tmp 8)))⟩
 (.seq ⟨some 5, none, (.ofA (.mv (.tmp 10)))⟩
 .done)))
 (.seq (.tree (.seq ⟨some 11, none, (.ofA (.mv (.tmp 1)))⟩
 (.seq ⟨some 12, none, (.ofA (.mv (.tmp 0)))⟩
 (.seq ⟨some 13, none, (.ofA (.mv (.tmp 5)))⟩
 (.seq ⟨some 14, none, (.ofA (.isl 3 (.tmp 12) (.tmp 13)))⟩
 (.seq ⟨some 15, none, (.ofA (.load (some 3) (.tmp 14)))⟩
 (.seq ⟨some 16, none, (.call (.tmp 11) [(.tmp 15)])⟩
 .done)))))))
 (.cond (.tmp 16)
 (.seq (.tree (.seq ⟨some 17, none, (.ofA (.mv (.tmp 5)))⟩
 (.seq ⟨some 4, none, (.ofA (.mv (.tmp 17)))⟩
 .done)))
 .ret)
 .skip))))
 (.tree (.seq ⟨some 18, none, (.ofA (.bin .add (.tmp 8) (.cst (.v (.int .i64 1)))))⟩
 (.seq ⟨some 8, none, (.ofA (.mv (.tmp 18)))⟩
 .done)))))))))
 (.seq (.tree (.seq ⟨some 4, none, (.ofA (.mv (.cst (.v (.int .i64 (-1))))))⟩
 .done))
 .ret)))
def r122 : List XR := [.tmp 4]
theorem fn122 : FnX Try.prog 122 [] 19 x122 r122 := ⟨_, Try.func122, by kernel_rfl, by kernel_rfl, by kernel_rfl, by kernel_rfl⟩
-- slices.ContainsFunc[[]almshouse/image.Page,almshouse/image.Page] (2 parameters)
def x86 : XC := (.seq (.tree (.seq ⟨some 4, none, (.ofA (.mv (.cst (.v (.bool false)))))⟩
 .done))
 (.seq (.tree (.seq ⟨some 5, none, (.ofA (.mv (.tmp 0)))⟩
 (.seq ⟨some 6, none, (.ofA (.mv (.tmp 1)))⟩
 (.seq ⟨some 7, none, (.call (.cst (.fn 122 [])) [(.tmp 5), (.tmp 6)])⟩
 (.seq ⟨some 8, none, (.ofA (.bin .geq (.tmp 7) (.cst (.v (.int .i64 0)))))⟩
 (.seq ⟨some 4, none, (.ofA (.mv (.tmp 8)))⟩
 .done))))))
 .ret))
def r86 : List XR := [.tmp 4]
theorem fn86 : FnX Try.prog 86 [] 9 x86 r86 := ⟨_, Try.func86, by kernel_rfl, by kernel_rfl, by kernel_rfl, by kernel_rfl⟩
-- (almshouse/image.Picture).may (1 parameters)
def x45 : XC := (.seq (.tree (.seq ⟨some 1, none, (.box (.tmp 0))⟩
 (.seq ⟨some 2, none, (.ofA (.mv (.cst (.v (.bool false)))))⟩
 .done)))
 (.seq (.seq (.tree (.take ⟨some 5, none, (.ofA (.faddr 0 (.tmp 1)))⟩
 (.take ⟨some 6, none, (.ofA (.load (some 4) (.tmp 5)))⟩
 (.act true [(⟨some 7, none, (.call (.cst (.fn 53 [])) [(.tmp 6)])⟩,
 (.take ⟨some 8, none, (.ofA (.bin .neq (.tmp 7) (.cst (.v (.int .i64 0)))))⟩
 (.take ⟨some 9, none, (.ofA (.mv (.tmp 8)))⟩
 (.take ⟨some 10, some (9, false), (.ofA (.faddr 4 (.tmp 1)))⟩
 (.take ⟨some 11, some (9, false), (.ofA (.load none (.tmp 10)))⟩
 (.take ⟨some 12, some (9, false), (.ofA (.len (.tmp 11)))⟩
 (.take ⟨some 13, some (9, false), (.ofA (.faddr 0 (.tmp 1)))⟩
 (.take ⟨some 14, some (9, false), (.ofA (.load (some 4) (.tmp 13)))⟩
 (.act true [(⟨some 15, some (9, false), (.call (.cst (.fn 55 [])) [(.tmp 14)])⟩,
 (.take ⟨some 16, some (9, false), (.ofA (.bin .neq (.tmp 12) (.tmp 15)))⟩
 (.take ⟨some 17, none, (.ofA (.pick (.tmp 9) (.cst (.v (.bool true))) (.tmp 16)))⟩
 .done)))])))))))))]))))
 (.cond (.tmp 17)
 (.seq (.tree (.seq ⟨some 2, none, (.ofA (.mv (.cst (.v (.bool false)))))⟩
 .done))
 .ret)
 .skip))
 (.seq (.seq (.tree (.seq ⟨some 18, none, (.ofA (.faddr 4 (.tmp 1)))⟩
 (.seq ⟨some 19, none, (.ofA (.load none (.tmp 18)))⟩
 (.seq ⟨some 20, none, (.ofA (.len (.tmp 19)))⟩
 (.seq ⟨some 21, none, (.ofA (.mv (.cst (.v (.int .i64 0)))))⟩
 .done)))))
 (.block 0 (.loop (.seq (.tree (.seq ⟨some 22, none, (.ofA (.bin .lss (.tmp 21) (.tmp 20)))⟩
 .done))
 (.seq (.cond (.tmp 22)
 .skip
 (.exit 0))
 (.seq (.block 1 (.seq (.tree (.seq ⟨some 23, none, (.ofA (.mv (.tmp 21)))⟩
 (.seq ⟨some 24, none, (.ofA (.isl 3 (.tmp 19) (.tmp 21)))⟩
 (.seq ⟨some 25, none, (.ofA (.load (some 3) (.tmp 24)))⟩
 (.seq ⟨some 4, none, (.alloc [(.v (.bool false)), (.v (.int .i64 0)), (.v (.slice none 0 0))])⟩
 (.seq ⟨some 3, none, (.ofA (.mv (.tmp 23)))⟩
 (.seq ⟨none, none, (.store 3 (.tmp 4) (.tmp 25))⟩
 .done)))))))
 (.seq (.block 2 (.seq (.seq (.tree (.seq ⟨some 27, none, (.ofA (.faddr 0 (.tmp 4)))⟩
 (.seq ⟨some 28, none, (.ofA (.load none (.tmp 27)))⟩
 (.seq ⟨some 29, none, (.ofA (.mv (.tmp 28)))⟩
 (.seq ⟨some 30, some (29, true), (.ofA (.mv (.tmp 3)))⟩
 (.seq ⟨some 31, some (29, true), (.ofA (.bin .lss (.tmp 30) (.cst (.v (.int .i64 2)))))⟩
 (.seq ⟨some 32, none, (.ofA (.pick (.tmp 29) (.tmp 31) (.cst (.v (.bool false)))))⟩
 (.seq ⟨some 26, none, (.ofA (.mv (.tmp 32)))⟩
 .done))))))))
 (.cond (.tmp 26)
 .skip
 (.seq (.tree (.seq ⟨some 33, none, (.ofA (.faddr 1 (.tmp 4)))⟩
 (.seq ⟨some 34, none, (.ofA (.load none (.tmp 33)))⟩
 (.seq ⟨some 35, none, (.ofA (.bin .lss (.tmp 34) (.cst (.v (.int .i64 0)))))⟩
 (.seq ⟨some 26, none, (.ofA (.mv (.tmp 35)))⟩
 .done)))))
 (.cond (.tmp 26)
 .skip
 (.seq (.tree (.seq ⟨some 36, none, (.ofA (.faddr 1 (.tmp 4)))⟩
 (.seq ⟨some 37, none, (.ofA (.load none (.tmp 36)))⟩
 (.seq ⟨some 38, none, (.ofA (.bin .gtr (.tmp 37) (.cst (.v (.int .i64 2147483647)))))⟩
 (.seq ⟨some 26, none, (.ofA (.mv (.tmp 38)))⟩
 .done)))))
 (.cond (.tmp 26)
 .skip
 (.tree (.seq ⟨some 39, none, (.ofA (.faddr 2 (.tmp 4)))⟩
 (.seq ⟨some 40, none, (.ofA (.load none (.tmp 39)))⟩
 (.seq ⟨some 41, none, (.ofA (.len (.tmp 40)))⟩
 (.seq ⟨some 42, none, (.ofA (.faddr 0 (.tmp 1)))⟩
 (.seq ⟨some 43, none, (.ofA (.faddr 3 (.tmp 42)))⟩
 (.seq ⟨some 44, none, (.ofA (.load none (.tmp 43)))⟩
 (.seq ⟨some 45, none, (.ofA (.bin .gtr (.tmp 41) (.tmp 44)))⟩
 (.seq ⟨some 26, none, (.ofA (.mv (.tmp 45)))⟩
 .done)))))))))))))))
 (.cond (.tmp 26)
 (.seq (.tree (.seq ⟨some 2, none, (.ofA (.mv (.cst (.v (.bool false)))))⟩
 .done))
 .ret)
 .skip)))
 (.seq (.tree (.seq ⟨some 46, none, (.ofA (.faddr 2 (.tmp 4)))⟩
 (.seq ⟨some 47, none, (.ofA (.load none (.tmp 46)))⟩
 (.seq ⟨some 48, none, (.call (.cst (.fn 86 [])) [(.tmp 47), (.cst (.fn 87 []))])⟩
 .done))))
 (.cond (.tmp 48)
 (.seq (.tree (.seq ⟨some 2, none, (.ofA (.mv (.cst (.v (.bool false)))))⟩
 .done))
 .ret)
 .skip)))))
 (.tree (.seq ⟨some 49, none, (.ofA (.bin .add (.tmp 21) (.cst (.v (.int .i64 1)))))⟩
 (.seq ⟨some 21, none, (.ofA (.mv (.tmp 49)))⟩
 .done)))))))))
 (.seq (.tree (.seq ⟨some 2, none, (.ofA (.mv (.cst (.v (.bool true)))))⟩
 .done))
 .ret))))
def r45 : List XR := [.tmp 2]
theorem fn45 : FnX Try.prog 45 [] 50 x45 r45 := ⟨_, Try.func45, by kernel_rfl, by kernel_rfl, by kernel_rfl, by kernel_rfl⟩
theorem toList_loop (bs : ByteArray) : ∀ (n i : Nat) (r : List UInt8), bs.size - i = n → i ≤ bs.size → ByteArray.toList.loop bs i r = r.reverse ++ bs.data.toList.drop i
  | 0, i, r, h, hi => by
    unfold ByteArray.toList.loop
    rw [if_neg (by omega), List.drop_of_length_le (by have : bs.data.toList.length = bs.size := Array.length_toList; omega), List.append_nil]
  | n + 1, i, r, h, hi => by
    unfold ByteArray.toList.loop
    have hlt : i < bs.size := by omega
    rw [if_pos hlt, toList_loop bs n (i + 1) _ (by omega) (by omega)]
    have hl : i < bs.data.toList.length := by have : bs.data.toList.length = bs.size := Array.length_toList; omega
    have e : bs.data.toList.drop i = bs.get! i :: bs.data.toList.drop (i + 1) := by
      rw [List.drop_eq_getElem_cons hl]
      congr 1
      have : bs.get! i = bs.data[i]! := rfl
      rw [this]
      simp at hl
      rw [getElem!_pos bs.data i hl]
      simp
    rw [e]
    simp
theorem toList_data (bs : ByteArray) : bs.toList = bs.data.toList := by
  unfold ByteArray.toList
  rw [toList_loop bs _ 0 [] rfl (Nat.zero_le _)]
  simp
theorem toList_inj {a b : ByteArray} : (a.toList == b.toList) = decide (a = b) := by
  rw [toList_data, toList_data, Bool.eq_iff_iff, beq_iff_eq, decide_eq_true_eq]
  constructor
  · intro h
    exact ByteArray.ext (Array.ext' (by simpa using h))
  · rintro rfl; rfl
theorem toList_nil {b : ByteArray} : (b.toList == (⟨#[]⟩ : ByteArray).toList) = (b.size == 0) := by
  rw [toList_inj, Bool.eq_iff_iff, decide_eq_true_eq, beq_iff_eq]
  constructor
  · rintro rfl; rfl
  · intro h; exact ByteArray.size_eq_zero_iff.1 h
theorem ge_of (g : Ge) : SV.of (.agg [.int .i64 g.ch, .int .i64 g.di, .int .i64 g.bl, .int .i64 g.pa].toArray) = .agg [.v (.int .i64 g.ch), .v (.int .i64 g.di), .v (.int .i64 g.bl), .v (.int .i64 g.pa)] := by rw [of_agg]; rfl
def Ge.vs (g : Ge) : List Value := [.int .i64 g.ch, .int .i64 g.di, .int .i64 g.bl, .int .i64 g.pa]
def c53 [Inp] : Trans := fun args m k => ∃ g : Ge, args = [.agg g.sv] ∧ ∀ e : Int, (e = 0 ↔ chkG g = true) → k (.v (.int .i64 e)) m
def inG (g : Ge) : Prop := (1 ≤ g.ch ∧ g.ch ≤ 64) ∧ (1 ≤ g.di ∧ g.di ≤ 64) ∧ (1 ≤ g.bl ∧ g.bl ≤ 64) ∧ (2 ≤ g.pa ∧ g.pa ≤ 16)
theorem chk_in {g : Ge} : chkG g = true ↔ inG g ∧ 3 ≤ g.ch * g.di * g.bl ∧ g.ch * g.di * g.bl ≤ 64 := by
  unfold chkG inG
  simp only [Bool.and_eq_true, decide_eq_true_eq, and_assoc]
theorem in_mul {g : Ge} (h : inG g) : (1 ≤ g.ch * g.di ∧ g.ch * g.di ≤ 4096) ∧ 1 ≤ g.ch * g.di * g.bl ∧ g.ch * g.di * g.bl ≤ 262144 := by
  obtain ⟨⟨a1, a2⟩, ⟨b1, b2⟩, ⟨c1, c2⟩, _⟩ := h
  have p1 : 1 ≤ g.ch * g.di := Int.le_trans (by decide : (1 : Int) ≤ 1 * 1) (Int.mul_le_mul a1 b1 (by omega) (by omega))
  have p2 : g.ch * g.di ≤ 64 * 64 := Int.mul_le_mul a2 b2 (by omega) (by omega)
  have p3 : 1 ≤ g.ch * g.di * g.bl := Int.le_trans (by decide : (1 : Int) ≤ 1 * 1) (Int.mul_le_mul p1 c1 (by omega) (by omega))
  have p4 : g.ch * g.di * g.bl ≤ 64 * 64 * 64 := Int.mul_le_mul p2 c2 (by omega) (by omega)
  omega
theorem c53_ok [I : Inp] : Contract Try.prog 53 true c53 := by
  refine .read fn53 (G := fun _ => []) (fun J => @g0 J _) _ fun args m k h => ?_
  obtain ⟨g, rfl, hk⟩ := h
  refine ⟨by simp, fun J hJ us hus => ?_⟩
  obtain ⟨u, t1, rfl, hk1, rfl⟩ := hus
  obtain rfl := hk1.2.1 g.vs rfl
  rw [List.map_cons, List.map_nil, show SV.of (.agg g.vs.toArray) = _ from ge_of g]
  by_cases hg : inG g
  · obtain ⟨⟨m1, m2⟩, m3, m4⟩ := in_mul hg
    have w1 : IntKind.i64.wrap (g.ch * g.di) = g.ch * g.di := Sz.w_64 (by omega) (by omega)
    have w2 : IntKind.i64.wrap (g.ch * g.di * g.bl) = g.ch * g.di * g.bl := Sz.w_64 (by omega) (by omega)
    have hc := @chk_in g
    unfold inG at hg
    simp (maxSteps := 2000000) -implicitDefEqProofs only [↓x53, ↓r53, w1, w2, gt_iff_lt, s_alt, s_alt20, s_alt2t, s_alt2f, ↓s_loopi, ↓v_pq, ↓PRE, POST, CORE, Nat.reduceDiv, Nat.reduceMod, Int.reduceLT, Int.reduceLE, Int.reduceToNat, Int.reduceAdd, ↓reduceIte, Nat.reduceEqDiff, Nat.reduceAdd, Nat.reduceMul, Nat.reduceSub, Nat.reduceLeDiff, Nat.reduceLT, reduceCtorEq, if_true, eq_self, forall_const, implies_true]
    generalize g.ch * g.di * g.bl = M at w2 m3 m4 hc ⊢
    simp only [decide_eq_true_eq, decide_eq_false_iff_not, Decidable.not_not]
    repeat' split
    all_goals first | (refine hk _ ?_; rw [hc]; unfold inG; omega) | (exfalso; omega)
  · have hc : chkG g = false := by
      cases h : chkG g with
      | false => rfl
      | true => exact (hg (chk_in.1 h).1).elim
    unfold inG at hg
    simp (maxSteps := 2000000) -implicitDefEqProofs only [↓x53, ↓r53, gt_iff_lt, s_alt, s_alt20, s_alt2t, s_alt2f, ↓s_loopi, ↓v_pq, ↓PRE, POST, CORE, Nat.reduceDiv, Nat.reduceMod, Int.reduceLT, Int.reduceLE, Int.reduceToNat, Int.reduceAdd, ↓reduceIte, Nat.reduceEqDiff, Nat.reduceAdd, Nat.reduceMul, Nat.reduceSub, Nat.reduceLeDiff, Nat.reduceLT, reduceCtorEq, if_true, eq_self, forall_const, implies_true]
    simp only [decide_eq_true_eq, decide_eq_false_iff_not, Decidable.not_not]
    repeat' split
    all_goals first | (refine hk _ ?_; rw [hc]; simp; done) | (exfalso; omega)
def c55 [Inp] : Trans := fun args m k => ∃ g : Ge, args = [.agg g.sv] ∧ k (.v (.int .i64 (nB g))) m
theorem g53 [Inp] : GOk Try.prog [⟨53, true, c53⟩] := GOk.cons c53_ok (g0 _)
theorem c55_ok [I : Inp] : Contract Try.prog 55 true c55 := by
  refine .read fn55 (G := fun J => [⟨53, true, @c53 J⟩]) (fun J => @g53 J) _ fun args m k h => ?_
  obtain ⟨g, rfl, hk⟩ := h
  refine ⟨by simp, fun J hJ us hus => ?_⟩
  obtain ⟨u, t1, rfl, hk1, rfl⟩ := hus
  obtain rfl := hk1.2.1 g.vs rfl
  rw [List.map_cons, List.map_nil, show SV.of (.agg g.vs.toArray) = _ from ge_of g]
  simp (maxSteps := 2000000) -implicitDefEqProofs only [↓x55, ↓r55, ↓c53, s_alt, s_alt20, s_alt2t, s_alt2f, ↓s_loopi, ↓v_pq, ↓PRE, POST, CORE, Nat.reduceDiv, Nat.reduceMod, Int.reduceLT, Int.reduceLE, Int.reduceToNat, Int.reduceAdd, ↓reduceIte, Nat.reduceEqDiff, Nat.reduceAdd, Nat.reduceMul, Nat.reduceSub, Nat.reduceLeDiff, Nat.reduceLT, reduceCtorEq, if_true, eq_self, forall_const, implies_true]
  refine ⟨g, rfl, fun e he => ?_⟩
  unfold nB at hk
  by_cases h0 : e = 0
  · subst h0
    have hg := he.1 rfl
    rw [if_pos hg] at hk
    obtain ⟨⟨m1, m2⟩, m3, m4⟩ := in_mul (chk_in.1 hg).1
    have w1 : IntKind.i64.wrap (g.ch * g.di) = g.ch * g.di := Sz.w_64 (by omega) (by omega)
    have w2 : IntKind.i64.wrap (g.ch * g.di * g.bl) = g.ch * g.di * g.bl := Sz.w_64 (by omega) (by omega)
    simp (maxSteps := 2000000) -implicitDefEqProofs only [bne_self_eq_false, Bool.false_eq_true, w1, w2, s_alt, s_alt20, s_alt2t, s_alt2f, ↓s_loopi, ↓v_pq, ↓PRE, POST, CORE, Nat.reduceDiv, Nat.reduceMod, Int.reduceLT, Int.reduceLE, Int.reduceToNat, Int.reduceAdd, ↓reduceIte, Nat.reduceEqDiff, Nat.reduceAdd, Nat.reduceMul, Nat.reduceSub, Nat.reduceLeDiff, Nat.reduceLT, reduceCtorEq, if_true, eq_self, forall_const, implies_true]
    exact hk
  · have hg : ¬ chkG g = true := fun h => h0 (he.2 h)
    rw [if_neg hg] at hk
    have hb : (e != 0) = true := by simpa using h0
    simp (maxSteps := 2000000) -implicitDefEqProofs only [hb, s_alt, s_alt20, s_alt2t, s_alt2f, ↓s_loopi, ↓v_pq, ↓PRE, POST, CORE, Nat.reduceDiv, Nat.reduceMod, Int.reduceLT, Int.reduceLE, Int.reduceToNat, Int.reduceAdd, ↓reduceIte, Nat.reduceEqDiff, Nat.reduceAdd, Nat.reduceMul, Nat.reduceSub, Nat.reduceLeDiff, Nat.reduceLT, reduceCtorEq, if_true, eq_self, forall_const, implies_true]
    exact hk
def c88 [Inp] : Trans := fun args m k => ∃ x : Pg, args = [.agg (x.cs.map .v)] ∧ k (.v (.bool (mayPg x))) m
theorem pg_of (x : Pg) : SV.of (.agg x.cs.toArray) = .agg [.v (.bool x.torn), .v (.string x.beside), .v (.string x.data)] := by rw [of_agg]; rfl
theorem c88_ok [I : Inp] : Contract Try.prog 88 true c88 := by
  refine .read fn88 (G := fun _ => []) (fun J => @g0 J _) _ fun args m k h => ?_
  obtain ⟨x, rfl, hk⟩ := h
  refine ⟨by simp, fun J hJ us hus => ?_⟩
  obtain ⟨u, t1, rfl, hk1, rfl⟩ := hus
  obtain rfl := hk1.2.1 _ rfl
  rw [List.map_cons, List.map_nil, pg_of]
  unfold mayPg at hk
  cases ht : x.torn with
  | true =>
    rw [if_pos ht] at hk
    simp (maxSteps := 2000000) -implicitDefEqProofs only [↓x88, ↓r88, ht, toList_nil, beq_self_eq_true, Bool.true_and, Bool.and_true, s_alt, s_alt20, s_alt2t, s_alt2f, ↓s_loopi, ↓v_pq, ↓PRE, POST, CORE, Nat.reduceDiv, Nat.reduceMod, Int.reduceLT, Int.reduceLE, Int.reduceToNat, Int.reduceAdd, ↓reduceIte, Nat.reduceEqDiff, Nat.reduceAdd, Nat.reduceMul, Nat.reduceSub, Nat.reduceLeDiff, Nat.reduceLT, reduceCtorEq, if_true, eq_self, forall_const, implies_true]
    exact hk
  | false =>
    rw [if_neg (by rw [ht]; simp)] at hk
    by_cases h1 : x.beside.size ≤ 32
    · have h1' : (x.beside.size : Int) ≤ 32 := by omega
      have e1 : decide (x.beside.size ≤ 32) = true := by simpa using h1
      rw [e1, Bool.true_and] at hk
      have e2 : decide ((x.data.size : Int) ≤ 160) = decide (x.data.size ≤ 160) := by
        rw [Bool.eq_iff_iff, decide_eq_true_eq, decide_eq_true_eq]; omega
      simp (maxSteps := 2000000) -implicitDefEqProofs only [↓x88, ↓r88, ht, h1', Bool.false_eq_true, s_alt, s_alt20, s_alt2t, s_alt2f, ↓s_loopi, ↓v_pq, ↓PRE, POST, CORE, Nat.reduceDiv, Nat.reduceMod, Int.reduceLT, Int.reduceLE, Int.reduceToNat, Int.reduceAdd, ↓reduceIte, Nat.reduceEqDiff, Nat.reduceAdd, Nat.reduceMul, Nat.reduceSub, Nat.reduceLeDiff, Nat.reduceLT, reduceCtorEq, if_true, eq_self, forall_const, implies_true]
      rw [e2]
      exact hk
    · have h1' : ¬ (x.beside.size : Int) ≤ 32 := by omega
      have e1 : decide (x.beside.size ≤ 32) = false := by simpa using h1
      rw [e1, Bool.false_and] at hk
      simp (maxSteps := 2000000) -implicitDefEqProofs only [↓x88, ↓r88, ht, h1', Bool.false_eq_true, s_alt, s_alt20, s_alt2t, s_alt2f, ↓s_loopi, ↓v_pq, ↓PRE, POST, CORE, Nat.reduceDiv, Nat.reduceMod, Int.reduceLT, Int.reduceLE, Int.reduceToNat, Int.reduceAdd, ↓reduceIte, Nat.reduceEqDiff, Nat.reduceAdd, Nat.reduceMul, Nat.reduceSub, Nat.reduceLeDiff, Nat.reduceLT, reduceCtorEq, if_true, eq_self, forall_const, implies_true]
      exact hk
def c87 [Inp] : Trans := fun args m k => ∃ x : Pg, args = [.agg (x.cs.map .v)] ∧ k (.v (.bool (!mayPg x))) m
theorem g88 [Inp] : GOk Try.prog [⟨88, true, c88⟩] := GOk.cons c88_ok (g0 _)
theorem c87_ok [I : Inp] : Contract Try.prog 87 true c87 := by
  refine .read fn87 (G := fun J => [⟨88, true, @c88 J⟩]) (fun J => @g88 J) _ fun args m k h => ?_
  obtain ⟨x, rfl, hk⟩ := h
  refine ⟨by simp, fun J hJ us hus => ?_⟩
  obtain ⟨u, t1, rfl, hk1, rfl⟩ := hus
  obtain rfl := hk1.2.1 _ rfl
  rw [List.map_cons, List.map_nil, pg_of]
  simp (maxSteps := 2000000) -implicitDefEqProofs only [↓x87, ↓r87, ↓c88, s_alt, s_alt20, s_alt2t, s_alt2f, ↓s_loopi, ↓v_pq, ↓PRE, POST, CORE, Nat.reduceDiv, Nat.reduceMod, Int.reduceLT, Int.reduceLE, Int.reduceToNat, Int.reduceAdd, ↓reduceIte, Nat.reduceEqDiff, Nat.reduceAdd, Nat.reduceMul, Nat.reduceSub, Nat.reduceLeDiff, Nat.reduceLT, reduceCtorEq, if_true, eq_self, forall_const, implies_true]
  exact ⟨x, rfl, hk⟩
def c122 [Inp] : Trans := fun args m k => match args with
  | [.v (.slice p n c), .fn 87 []] => ∃ ps : List Pg, inpL p (n * 3) = some (rowV Pg.cs ps) ∧ ps.length = n ∧ n ≤ 9223372036854775807 ∧ ∀ r : Int, (0 ≤ r ↔ ps.all mayPg = false) → k (.v (.int .i64 r)) m
  | _ => False
theorem g87 [Inp] : GOk Try.prog [⟨87, true, c87⟩] := GOk.cons c87_ok (g0 _)
theorem c122_ok [I : Inp] : Contract Try.prog 122 true c122 := by
  refine .readGf fn122 (G := fun J => [⟨87, true, @c87 J⟩]) (fun J => @g87 J) _ fun args m k h => ?_
  unfold c122 at h
  split at h
  case h_2 => exact h.elim
  rename_i p n c
  obtain ⟨ls, hin0, rfl, hn, hk⟩ := h
  refine ⟨by simp, fun J hJ K hK us hus => ?_⟩
  obtain ⟨u, t1, rfl, hk1, u2, t2, rfl, hk2, rfl⟩ := hus
  have hin := hK.inp _ _ _ hin0
  obtain rfl := hK.v _ _ hk1
  show @evX J _ _ _ _ _ (slots (argSlots 0 [.v (.slice p ls.length c), .fn 87 []])) [] _
  have hitem : ∀ (i : Nat) (x : Pg), ls[i]? = some x → inpL (plusA p (i * 3)) 3 = some x.cs := fun i x hx => inp_item Pg.len hin rfl hx
  simp (maxSteps := 2000000) -implicitDefEqProofs only [↓x122, ↓r122, s_alt, s_alt20, s_alt2t, s_alt2f, ↓s_loopi, ↓v_pq, ↓PRE, POST, CORE, Nat.reduceDiv, Nat.reduceMod, Int.reduceLT, Int.reduceLE, Int.reduceToNat, Int.reduceAdd, ↓reduceIte, Nat.reduceEqDiff, Nat.reduceAdd, Nat.reduceMul, Nat.reduceSub, Nat.reduceLeDiff, Nat.reduceLT, reduceCtorEq, if_true, eq_self, forall_const, implies_true]
  refine TXi_of (TX_count (@g87 J) ls.length (fun x => [(0, .v (.slice p ls.length c)), (1, .fn 87 []), (6, .v (.slice p ls.length c)), (7, .v (.int .i64 ls.length)), (8, .v (.int .i64 (x : Int)))]) (fun _ => []) (fun x => (ls.take x).all mayPg = true) rfl (by refine ⟨[], by simp [NdL, NdA, oO_cells, oO_own, iL_nil], ?_, ?_, keep0 hJ⟩ <;> simp only [FitM, FitE, ObLe, LeL, Le, List.cons_append, List.nil_append] <;> (try (simp (maxSteps := 2000000) -implicitDefEqProofs only [LeL, s_alt, s_alt20, s_alt2t, s_alt2f, ↓s_loopi, ↓v_pq, ↓PRE, POST, CORE, Nat.reduceDiv, Nat.reduceMod, Int.reduceLT, Int.reduceLE, Int.reduceToNat, Int.reduceAdd, ↓reduceIte, Nat.reduceEqDiff, Nat.reduceAdd, Nat.reduceMul, Nat.reduceSub, Nat.reduceLeDiff, Nat.reduceLT, reduceCtorEq, if_true, eq_self, forall_const, implies_true])) <;> (try simp only [Sz.Le, Sz.LeL, List.getElem?_cons_zero, List.getElem?_cons_succ]) <;> (try simp)) ?_ ?_)
  · intro x hx hI
    obtain ⟨d, hd⟩ : ∃ d, ls[x]? = some d := ⟨_, List.getElem?_eq_getElem hx⟩
    have f : inpL (plusA p (x * 3)) 3 = some [.bool d.torn, .string d.beside, .string d.data] := hitem x d hd
    have hp : p.isSome = true := inpL_isSome hin (by omega)
    have i0 : (0 : Int) ≤ (x : Int) := by omega
    have i1 : (x : Int) < (ls.length : Int) := by omega
    have w1 : IntKind.i64.wrap ((x : Int) + 1) = (x : Int) + 1 := Sz.w_64 (by omega) (by omega)
    simp (maxSteps := 2000000) -implicitDefEqProofs only [f, hp, i0, i1, w1, ↓c87, s_alt, s_alt20, s_alt2t, s_alt2f, ↓s_loopi, ↓v_pq, ↓PRE, POST, CORE, Nat.reduceDiv, Nat.reduceMod, Int.reduceLT, Int.reduceLE, Int.reduceToNat, Int.reduceAdd, ↓reduceIte, Nat.reduceEqDiff, Nat.reduceAdd, Nat.reduceMul, Nat.reduceSub, Nat.reduceLeDiff, Nat.reduceLT, reduceCtorEq, if_true, eq_self, forall_const, implies_true]
    refine ⟨d, rfl, ?_⟩
    cases ho : mayPg d with
    | true =>
      simp (maxSteps := 2000000) -implicitDefEqProofs only [w1, s_alt, s_alt20, s_alt2t, s_alt2f, ↓s_loopi, ↓v_pq, ↓PRE, POST, CORE, Nat.reduceDiv, Nat.reduceMod, Int.reduceLT, Int.reduceLE, Int.reduceToNat, Int.reduceAdd, ↓reduceIte, Nat.reduceEqDiff, Nat.reduceAdd, Nat.reduceMul, Nat.reduceSub, Nat.reduceLeDiff, Nat.reduceLT, reduceCtorEq, if_true, eq_self, forall_const, implies_true]
      exact ⟨by rw [all_snoc _ hd, hI, ho]; rfl, (by refine ⟨[], by simp [NdL, NdA, oO_cells, oO_own, iL_nil], ?_, ?_, keep0 hJ⟩ <;> simp only [FitM, FitE, ObLe, LeL, Le, List.cons_append, List.nil_append] <;> (try (simp (maxSteps := 2000000) -implicitDefEqProofs only [LeL, s_alt, s_alt20, s_alt2t, s_alt2f, ↓s_loopi, ↓v_pq, ↓PRE, POST, CORE, Nat.reduceDiv, Nat.reduceMod, Int.reduceLT, Int.reduceLE, Int.reduceToNat, Int.reduceAdd, ↓reduceIte, Nat.reduceEqDiff, Nat.reduceAdd, Nat.reduceMul, Nat.reduceSub, Nat.reduceLeDiff, Nat.reduceLT, reduceCtorEq, if_true, eq_self, forall_const, implies_true])) <;> (try simp only [Sz.Le, Sz.LeL, List.getElem?_cons_zero, List.getElem?_cons_succ]) <;> (try simp))⟩
    | false =>
      simp (maxSteps := 2000000) -implicitDefEqProofs only [s_alt, s_alt20, s_alt2t, s_alt2f, ↓s_loopi, ↓v_pq, ↓PRE, POST, CORE, Nat.reduceDiv, Nat.reduceMod, Int.reduceLT, Int.reduceLE, Int.reduceToNat, Int.reduceAdd, ↓reduceIte, Nat.reduceEqDiff, Nat.reduceAdd, Nat.reduceMul, Nat.reduceSub, Nat.reduceLeDiff, Nat.reduceLT, reduceCtorEq, if_true, eq_self, forall_const, implies_true]
      have : ls.all mayPg = false := all_bad hd ho
      exact hk _ (by rw [this]; simp)
  · intro hI
    have i1 : ¬ (ls.length : Int) < (ls.length : Int) := by omega
    rw [List.take_length] at hI
    simp (maxSteps := 2000000) -implicitDefEqProofs only [i1, s_alt, s_alt20, s_alt2t, s_alt2f, ↓s_loopi, ↓v_pq, ↓PRE, POST, CORE, Nat.reduceDiv, Nat.reduceMod, Int.reduceLT, Int.reduceLE, Int.reduceToNat, Int.reduceAdd, ↓reduceIte, Nat.reduceEqDiff, Nat.reduceAdd, Nat.reduceMul, Nat.reduceSub, Nat.reduceLeDiff, Nat.reduceLT, reduceCtorEq, if_true, eq_self, forall_const, implies_true]
    exact hk _ (by rw [hI]; simp)
def c86 [Inp] : Trans := fun args m k => match args with
  | [.v (.slice p n c), .fn 87 []] => ∃ ps : List Pg, inpL p (n * 3) = some (rowV Pg.cs ps) ∧ ps.length = n ∧ n ≤ 9223372036854775807 ∧ k (.v (.bool (!ps.all mayPg))) m
  | _ => False
theorem g122 [Inp] : GOk Try.prog [⟨122, true, c122⟩] := GOk.cons c122_ok (g0 _)
theorem c86_ok [I : Inp] : Contract Try.prog 86 true c86 := by
  refine .readGf fn86 (G := fun J => [⟨122, true, @c122 J⟩]) (fun J => @g122 J) _ fun args m k h => ?_
  unfold c86 at h
  split at h
  case h_2 => exact h.elim
  rename_i p n c
  obtain ⟨ls, hin0, rfl, hn, hk⟩ := h
  refine ⟨by simp, fun J hJ K hK us hus => ?_⟩
  obtain ⟨u, t1, rfl, hk1, u2, t2, rfl, hk2, rfl⟩ := hus
  have hin := hK.inp _ _ _ hin0
  obtain rfl := hK.v _ _ hk1
  show @evX J _ _ _ _ _ (slots (argSlots 0 [.v (.slice p ls.length c), .fn 87 []])) [] _
  simp (maxSteps := 2000000) -implicitDefEqProofs only [↓x86, ↓r86, ↓c122, s_alt, s_alt20, s_alt2t, s_alt2f, ↓s_loopi, ↓v_pq, ↓PRE, POST, CORE, Nat.reduceDiv, Nat.reduceMod, Int.reduceLT, Int.reduceLE, Int.reduceToNat, Int.reduceAdd, ↓reduceIte, Nat.reduceEqDiff, Nat.reduceAdd, Nat.reduceMul, Nat.reduceSub, Nat.reduceLeDiff, Nat.reduceLT, reduceCtorEq, if_true, eq_self, forall_const, implies_true]
  refine ⟨ls, hin, rfl, hn, fun r hr => ?_⟩
  have e : decide (r ≥ 0) = !ls.all mayPg := by
    cases ha : ls.all mayPg with
    | true => rw [ha] at hr; simpa using hr
    | false => rw [ha] at hr; simpa using hr
  rw [e]
  exact hk
end Go.Proofs.Ytibefgdjijmncaa
end
section
namespace Go.Proofs.Ytibefgdjijmncaa
open Go.RowKit Sz
set_option maxHeartbeats 4000000
set_option maxRecDepth 20000
-- almshouse/word.Text (2 parameters)
def x49 : XC := (.seq (.tree (.seq ⟨some 4, none, (.ofA (.mv (.cst (.v (.slice none 0 0)))))⟩
 .done))
 (.seq (.seq (.tree (.seq ⟨some 5, none, (.ofA (.mv (.tmp 1)))⟩
 (.seq ⟨some 6, none, (.ofA (.lens (.tmp 5)))⟩
 (.seq ⟨some 7, none, (.ofA (.bin .gtr (.tmp 6) (.cst (.v (.int .i64 65535)))))⟩
 .done))))
 (.cond (.tmp 7)
 (.seq (.tree (.seq ⟨some 8, none, (.ofA (.mv (.tmp 0)))⟩
 (.seq ⟨some 9, none, (.call (.cst (.fn 90 [])) [(.tmp 8)])⟩
 (.seq ⟨some 4, none, (.ofA (.mv (.tmp 9)))⟩
 .done))))
 .ret)
 .skip))
 (.seq (.tree (.seq ⟨some 10, none, (.ofA (.mv (.tmp 0)))⟩
 (.seq ⟨some 11, none, (.ofA (.mv (.tmp 1)))⟩
 (.seq ⟨some 12, none, (.ofA (.lens (.tmp 11)))⟩
 (.seq ⟨some 13, none, (.call (.cst (.fn 46 [])) [(.tmp 10), (.tmp 12), (.cst (.v (.int .i64 2)))])⟩
 (.seq ⟨some 14, none, (.ofA (.mv (.tmp 1)))⟩
 (.seq ⟨some 15, none, (.apps 1 (.tmp 13) (.tmp 14))⟩
 (.seq ⟨some 4, none, (.ofA (.mv (.tmp 15)))⟩
 .done))))))))
 .ret)))
def r49 : List XR := [.tmp 4]
theorem fn49 : FnX Try.prog 49 [] 16 x49 r49 := ⟨_, Try.func49, by kernel_rfl, by kernel_rfl, by kernel_rfl, by kernel_rfl⟩
def strL (s : ByteArray) : List Int := s.data.toList.map fun x => (x.toNat : Int)
theorem bytesC_bL (s : ByteArray) : bytesC s = bL (strL s) := by simp [bytesC, bL, strL, List.map_map, Function.comp_def]
theorem strL_len (s : ByteArray) : (strL s).length = s.size := by simp [strL]
def textF (bs : List Int) (t : ByteArray) : List Int := if 65535 < (t.size : Int) then bs else putF bs t.size 2 ++ strL t
theorem fits2 {v : Int} (h0 : 0 ≤ v) (h1 : v ≤ 65535) : fitsF v 2 = true := by
  unfold fitsF sizedF
  have e : (2 : Int) ^ (min (8 * 2 : Int).toNat IntKind.i64.bits) = 65536 := by decide
  rw [e, Int.fdiv_eq_ediv_of_nonneg _ (by omega)]
  have : v / 65536 = 0 := by omega
  rw [this]
  rfl
def c49 [Inp] : Trans := fun args m k => match args with
  | [s, .v (.string t)] => ∃ bs : List Int, rdN m s bs ∧ bs.length ≤ 800000 ∧ k (rowS m.length (textF bs t)) (m ++ rowM (textF bs t))
  | _ => False
def G137 [Inp] : List CEntry := [⟨46, true, c46⟩, ⟨90, true, c90⟩]
theorem g49 [Inp] : GOk Try.prog G137 := GOk.cons c46_ok (GOk.cons c90_ok (g0 _))
theorem fin_row {k : SV → Mem → Prop} {m : Mem} (L : List Int) (m' : Mem) (s : SV) (j : Nat) (h1 : L = [] → s = .v (.slice none 0 0)) (h2 : L ≠ [] → s = .row j 0 L.length 1 ∧ m'[j]? = some ⟨true, bL L⟩) (h3 : k (rowS m.length L) (m ++ rowM L)) :
    ∃ (g2 : List Nat) (s2 : SV) (m2 : Mem), g2.Nodup ∧ FitM g2 m' g2 m2 ∧ (∀ o ∈ m2, o.own = true) ∧ Le g2 s2 s ∧ k (s2.up m.length) (m ++ m2.map (SObj.up m.length)) := by
  by_cases hL : L = []
  · subst hL
    rw [h1 rfl]
    refine ⟨[], .v (.slice none 0 0), [], by simp, trivial, by simp, by simp only [Le], ?_⟩
    simpa [SV.up, rowS, rowM] using h3
  · obtain ⟨rfl, hm⟩ := h2 hL
    refine ⟨[j], .row 0 0 L.length 1, [⟨true, bL L⟩], by simp, ?_, by simp, by simp only [Le]; rfl, ?_⟩
    · simp [FitM, ObLe, bL_le, hm]
    · simpa [SV.up, SObj.up, bL_up, rowS, rowM, hL] using h3
theorem c49_ok [Inp] : Contract Try.prog 49 true c49 := by
  refine .readF fn49 (G := fun J => @G137 J) (fun J => @g49 J) _ fun args m k h => ?_
  unfold c49 at h
  split at h
  case h_2 => exact h.elim
  rename_i b t
  obtain ⟨bs, ⟨hb, hnil⟩, hmax, hk⟩ := h
  refine ⟨by simp, fun J hJ us hus => ?_⟩
  obtain ⟨u, t1, rfl, hk1, u2, t2, rfl, hk2, rfl⟩ := hus
  obtain rfl := hk2.1 _ rfl
  obtain ⟨p, c, rfl, hin⟩ := rdB_knows hb hk1
  have hr : ∀ m, rdB m (.v (.slice p bs.length c)) = some bs := fun m => rdB_v hin
  have hsl : bs = [] → SV.v (.slice p bs.length c) = .v (.slice none 0 0) := fun he => by
    have := hk1.1 _ (hnil he)
    rw [this]
  by_cases ht : 65535 < (t.size : Int)
  · have e : textF bs t = bs := if_pos ht
    rw [e] at hk
    simp (maxSteps := 2000000) -implicitDefEqProofs only [↓x49, ↓r49, ↓G137, ↓c46, ↓c90, ht, s_alt, s_alt20, s_alt2t, s_alt2f, ↓s_loopi, ↓v_pq, ↓PRE, POST, CORE, Nat.reduceDiv, Nat.reduceMod, Int.reduceLT, Int.reduceLE, Int.reduceToNat, Int.reduceAdd, ↓reduceIte, Nat.reduceEqDiff, Nat.reduceAdd, Nat.reduceMul, Nat.reduceSub, Nat.reduceLeDiff, Nat.reduceLT, reduceCtorEq, if_true, eq_self, forall_const, implies_true]
    refine ⟨bs, hr _, by omega, ?_⟩
    split
    · rename_i he
      exact ⟨hsl he, fin_row bs _ _ 0 hsl (fun h => (h he).elim) hk⟩
    · rename_i he
      exact fin_row bs _ _ 0 (fun h => (he h).elim) (fun _ => ⟨rfl, rfl⟩) hk
  · have e : textF bs t = putF bs t.size 2 ++ strL t := if_neg ht
    rw [e] at hk
    have ep : putF bs (t.size : Int) 2 = bs ++ leF 2 t.size := by unfold putF; rw [fits2 (by omega) (by omega)]; rfl
    have hne : ¬ putF bs (t.size : Int) 2 = [] := by rw [ep]; intro h; have := congrArg List.length h; simp [leF_len] at this
    have hpl : (putF bs (t.size : Int) 2).length = bs.length + 2 := by rw [ep]; simp [leF_len]
    simp (maxSteps := 2000000) -implicitDefEqProofs only [↓x49, ↓r49, ↓G137, ↓c46, ↓c90, ht, s_alt, s_alt20, s_alt2t, s_alt2f, ↓s_loopi, ↓v_pq, ↓PRE, POST, CORE, Nat.reduceDiv, Nat.reduceMod, Int.reduceLT, Int.reduceLE, Int.reduceToNat, Int.reduceAdd, ↓reduceIte, Nat.reduceEqDiff, Nat.reduceAdd, Nat.reduceMul, Nat.reduceSub, Nat.reduceLeDiff, Nat.reduceLT, reduceCtorEq, if_true, eq_self, forall_const, implies_true]
    refine ⟨bs, ⟨hr _, hsl⟩, by omega, ?_⟩
    generalize putF bs (t.size : Int) 2 = L at hk hne hpl ⊢
    have b1 := bL_len L
    have b3 : List.take L.length (bL L) = bL L := List.take_of_length_le (by rw [b1]; exact Nat.le_refl _)
    have hs0 := strL_len t
    simp only [rowS, rowM, hne, if_false]
    simp (maxSteps := 2000000) -implicitDefEqProofs only [b1, b3, bytesC_bL, s_alt, s_alt20, s_alt2t, s_alt2f, ↓s_loopi, ↓v_pq, ↓PRE, POST, CORE, Nat.reduceDiv, Nat.reduceMod, Int.reduceLT, Int.reduceLE, Int.reduceToNat, Int.reduceAdd, ↓reduceIte, Nat.reduceEqDiff, Nat.reduceAdd, Nat.reduceMul, Nat.reduceSub, Nat.reduceLeDiff, Nat.reduceLT, reduceCtorEq, if_true, eq_self, forall_const, implies_true]
    split
    · rename_i h0
      have : strL t = [] := List.length_eq_zero_iff.1 (by omega)
      rw [this, List.append_nil] at hk
      exact fin_row L _ _ 0 (fun h => (hne h).elim) (fun _ => ⟨rfl, rfl⟩) hk
    · refine ⟨⟨by unfold maxLen; omega, by omega⟩, ?_⟩
      have e3 : bL L ++ bL (strL t) = bL (L ++ strL t) := by simp [bL]
      have e4 : L.length + t.size = (L ++ strL t).length := by simp [hs0]
      rw [e3, e4]
      exact fin_row (L ++ strL t) _ _ 1 (fun h => (hne (List.append_eq_nil_iff.1 h).1).elim) (fun _ => ⟨rfl, rfl⟩) hk
end Go.Proofs.Ytibefgdjijmncaa
end
section
namespace Go.Proofs.Ytibefgdjijmncaa
open Go.RowKit Sz
set_option maxHeartbeats 4000000
set_option maxRecDepth 20000
-- almshouse/frame.Make (2 parameters)
def x92 : XC := (.seq (.tree (.seq ⟨some 4, none, (.ofA (.mv (.cst (.v (.slice none 0 0)))))⟩
 (.seq ⟨some 5, none, (.ofA (.mv (.cst (.v (.int .i64 0)))))⟩
 .done)))
 (.seq (.block 0 (.seq (.tree (.seq ⟨some 8, none, (.ofA (.mv (.tmp 0)))⟩
 (.seq ⟨some 9, none, (.call (.cst (.fn 91 [])) [(.tmp 8), (.cst (.v (.int .i64 1)))])⟩
 (.seq ⟨some 10, none, (.ofA (.un .not (.tmp 9)))⟩
 (.seq ⟨some 7, none, (.ofA (.mv (.tmp 10)))⟩
 .done)))))
 (.cond (.tmp 7)
 (.seq (.tree (.seq ⟨some 4, none, (.ofA (.mv (.cst (.v (.slice none 0 0)))))⟩
 (.seq ⟨some 5, none, (.ofA (.mv (.cst (.v (.int .i64 1)))))⟩
 .done)))
 .ret)
 (.seq (.tree (.seq ⟨some 12, none, (.ofA (.mv (.tmp 1)))⟩
 (.seq ⟨some 13, none, (.ofA (.len (.tmp 12)))⟩
 (.seq ⟨some 14, none, (.ofA (.bin .gtr (.tmp 13) (.cst (.v (.int .i64 65535)))))⟩
 (.seq ⟨some 11, none, (.ofA (.mv (.tmp 14)))⟩
 .done)))))
 (.cond (.tmp 11)
 (.seq (.tree (.seq ⟨some 4, none, (.ofA (.mv (.cst (.v (.slice none 0 0)))))⟩
 (.seq ⟨some 5, none, (.ofA (.mv (.cst (.v (.int .i64 3)))))⟩
 .done)))
 .ret)
 .skip)))))
 (.seq (.tree (.seq ⟨some 15, none, (.ofA (.mv (.tmp 0)))⟩
 (.seq ⟨some 16, none, (.call (.cst (.fn 46 [])) [(.cst (.v (.slice none 0 0))), (.tmp 15), (.cst (.v (.int .i64 1)))])⟩
 (.seq ⟨some 17, none, (.ofA (.mv (.tmp 1)))⟩
 (.seq ⟨some 18, none, (.ofA (.len (.tmp 17)))⟩
 (.seq ⟨some 19, none, (.call (.cst (.fn 46 [])) [(.tmp 16), (.tmp 18), (.cst (.v (.int .i64 2)))])⟩
 (.seq ⟨some 20, none, (.ofA (.mv (.tmp 1)))⟩
 (.seq ⟨some 21, none, (.app 1 1 (.tmp 19) (.tmp 20))⟩
 (.seq ⟨some 6, none, (.ofA (.mv (.tmp 21)))⟩
 .done)))))))))
 (.seq (.tree (.seq ⟨some 22, none, (.ofA (.mv (.tmp 6)))⟩
 (.seq ⟨some 23, none, (.ofA (.mv (.tmp 6)))⟩
 (.seq ⟨some 24, none, (.call (.cst (.fn 123 [])) [(.tmp 23)])⟩
 (.seq ⟨some 25, none, (.ofA (.conv .i64 (.tmp 24)))⟩
 (.seq ⟨some 26, none, (.call (.cst (.fn 46 [])) [(.tmp 22), (.tmp 25), (.cst (.v (.int .i64 4)))])⟩
 (.seq ⟨some 4, none, (.ofA (.mv (.tmp 26)))⟩
 (.seq ⟨some 5, none, (.ofA (.mv (.cst (.v (.int .i64 0)))))⟩
 .done))))))))
 .ret))))
def r92 : List XR := [.tmp 4, .tmp 5]
theorem fn92 : FnX Try.prog 92 [] 27 x92 r92 := ⟨_, Try.func92, by kernel_rfl, by kernel_rfl, by kernel_rfl, by kernel_rfl⟩
def headF (kind : Int) (body : List Int) : List Int := putF (putF [] kind 1) body.length 2 ++ body
def frameF (kind : Int) (body : List Int) : List Int := putF (headF kind body) (IntKind.i64.wrap (sumF 0 (headF kind body))) 4
def c92 [Inp] : Trans := fun args m k => match args with
  | [.v (.int .i64 kind), b] => ∃ bs : List Int, rdB m b = some bs ∧ bs.length ≤ 700000 ∧
      (if fitsF kind 1 = false then k (.tup [.v (.slice none 0 0), .v (.int .i64 1)]) m
       else if 65535 < (bs.length : Int) then k (.tup [.v (.slice none 0 0), .v (.int .i64 3)]) m
       else k (.tup [.row m.length 0 (frameF kind bs).length 1, .v (.int .i64 0)]) (m ++ [⟨true, bL (frameF kind bs)⟩]))
  | _ => False
def G189 [Inp] : List CEntry := [⟨46, true, c46⟩, ⟨91, true, c91⟩, ⟨123, true, c123⟩]
theorem g92 [Inp] : GOk Try.prog G189 := GOk.cons c46_ok (GOk.cons c91_ok (GOk.cons c123_ok (g0 _)))
theorem rdB_row [Inp] {m : Mem} {j n : Nat} {L : List Int} (hm : m[j]? = some ⟨true, bL L⟩) (hn : n = L.length) : rdB m (.row j 0 n 1) = some L := by
  subst hn
  unfold rdB
  have b1 := bL_len L
  have b3 : List.take L.length (bL L) = bL L := List.take_of_length_le (by rw [b1]; exact Nat.le_refl _)
  simp only [slOf, if_true, hm, Nat.mul_one, Nat.zero_add, b1, Nat.le_refl, List.drop_zero, b3, Option.bind_some, decB_bL]
theorem c92_ok [Inp] : Contract Try.prog 92 true c92 := by
  refine .readF fn92 (G := fun J => @G189 J) (fun J => @g92 J) _ fun args m k h => ?_
  unfold c92 at h
  split at h
  case h_2 => exact h.elim
  rename_i kind b
  obtain ⟨bs, hb, hmax, hk⟩ := h
  refine ⟨by simp, fun J hJ us hus => ?_⟩
  obtain ⟨u, t1, rfl, hk1, u2, t2, rfl, hk2, rfl⟩ := hus
  obtain rfl := hk1.1 _ rfl
  obtain ⟨p, c, rfl, hin⟩ := rdB_knows hb hk2
  have nilR : ∀ (e : Int) (m' : Mem), k (.tup [.v (.slice none 0 0), .v (.int .i64 e)]) m →
      ∃ (g2 : List Nat) (s2 : SV) (m2 : Mem), g2.Nodup ∧ FitM g2 m' g2 m2 ∧ (∀ o ∈ m2, o.own = true) ∧ Le g2 s2 (.tup [.v (.slice none 0 0), .v (.int .i64 e)]) ∧ k (s2.up m.length) (m ++ m2.map (SObj.up m.length)) := fun e m' h =>
    ⟨[], .tup [.v (.slice none 0 0), .v (.int .i64 e)], [], by simp, trivial, by simp, by simp [Le, LeL], by simpa [SV.up, upL] using h⟩
  cases hf : fitsF kind 1 with
  | false =>
    rw [if_pos hf] at hk
    simp (maxSteps := 2000000) -implicitDefEqProofs only [↓x92, ↓r92, ↓G189, ↓c46, ↓c91, ↓c123, hf, s_alt, s_alt20, s_alt2t, s_alt2f, ↓s_loopi, ↓v_pq, ↓PRE, POST, CORE, Nat.reduceDiv, Nat.reduceMod, Int.reduceLT, Int.reduceLE, Int.reduceToNat, Int.reduceAdd, ↓reduceIte, Nat.reduceEqDiff, Nat.reduceAdd, Nat.reduceMul, Nat.reduceSub, Nat.reduceLeDiff, Nat.reduceLT, reduceCtorEq, if_true, eq_self, forall_const, implies_true]
    exact nilR _ _ hk
  | true =>
    rw [if_neg (by simp [hf])] at hk
    by_cases hl : 65535 < (bs.length : Int)
    · rw [if_pos hl] at hk
      simp (maxSteps := 2000000) -implicitDefEqProofs only [↓x92, ↓r92, ↓G189, ↓c46, ↓c91, ↓c123, hf, hl, s_alt, s_alt20, s_alt2t, s_alt2f, ↓s_loopi, ↓v_pq, ↓PRE, POST, CORE, Nat.reduceDiv, Nat.reduceMod, Int.reduceLT, Int.reduceLE, Int.reduceToNat, Int.reduceAdd, ↓reduceIte, Nat.reduceEqDiff, Nat.reduceAdd, Nat.reduceMul, Nat.reduceSub, Nat.reduceLeDiff, Nat.reduceLT, reduceCtorEq, if_true, eq_self, forall_const, implies_true]
      exact nilR _ _ hk
    · rw [if_neg hl] at hk
      simp (maxSteps := 2000000) -implicitDefEqProofs only [↓x92, ↓r92, ↓G189, ↓c46, ↓c91, ↓c123, hf, hl, s_alt, s_alt20, s_alt2t, s_alt2f, ↓s_loopi, ↓v_pq, ↓PRE, POST, CORE, Nat.reduceDiv, Nat.reduceMod, Int.reduceLT, Int.reduceLE, Int.reduceToNat, Int.reduceAdd, ↓reduceIte, Nat.reduceEqDiff, Nat.reduceAdd, Nat.reduceMul, Nat.reduceSub, Nat.reduceLeDiff, Nat.reduceLT, reduceCtorEq, if_true, eq_self, forall_const, implies_true]
      refine ⟨[], ⟨rfl, fun _ => rfl⟩, by simp, ?_⟩
      have eA : putF [] kind 1 = leF 1 kind := by unfold putF; rw [hf]; rfl
      have lA : (putF [] kind 1).length = 1 := by rw [eA, leF_len]
      have hH : headF kind bs = putF (putF [] kind 1) bs.length 2 ++ bs := rfl
      have hR : frameF kind bs = putF (headF kind bs) (IntKind.i64.wrap (sumF 0 (headF kind bs))) 4 := rfl
      rw [hR] at hk
      rw [hH] at hk
      generalize putF [] kind 1 = A at lA hk ⊢
      have hA : ¬ A = [] := fun h => by rw [h] at lA; cases lA
      have eB : putF A (bs.length : Int) 2 = A ++ leF 2 bs.length := by unfold putF; rw [fits2 (by omega) (by omega)]; rfl
      have lB : (putF A (bs.length : Int) 2).length = 3 := by rw [eB]; simp [leF_len, lA]
      simp only [rowS, rowM, hA, if_false]
      refine ⟨A, ⟨rdB_row rfl rfl, fun h => absurd h hA⟩, by omega, ?_⟩
      generalize putF A (bs.length : Int) 2 = B at lB hk ⊢
      have hB : ¬ B = [] := fun h => by rw [h] at lB; cases lB
      simp only [hB, if_false]
      have b1 := bL_len B
      have b3 : List.take B.length (bL B) = bL B := List.take_of_length_le (by rw [b1]; exact Nat.le_refl _)
      have c1 := bL_len bs
      have c2 := bL_one bs
      have finR : ∀ (H : List Int) (m' : Mem) (j : Nat), H ≠ [] → H.length ≤ 800000 → m'[j]? = some ⟨true, bL H⟩ →
          k (.tup [.row m.length 0 (putF H (IntKind.i64.wrap (sumF 0 H)) 4).length 1, .v (.int .i64 0)]) (m ++ [⟨true, bL (putF H (IntKind.i64.wrap (sumF 0 H)) 4)⟩]) →
          ∃ bs, rdB m' (.row j 0 H.length 1) = some bs ∧ bs.length ≤ 9223372036854775807 ∧ ∃ bs_3, rdN m' (.row j 0 H.length 1) bs_3 ∧ bs_3.length ≤ 900000 ∧
            ∃ (g2 : List Nat) (s2 : SV) (m2 : Mem), g2.Nodup ∧ FitM g2 (m' ++ rowM (putF bs_3 (IntKind.i64.wrap (sumF 0 bs)) 4)) g2 m2 ∧ (∀ o ∈ m2, o.own = true) ∧
              Le g2 s2 (.tup [rowS m'.length (putF bs_3 (IntKind.i64.wrap (sumF 0 bs)) 4), .v (.int .i64 0)]) ∧ k (s2.up m.length) (m ++ m2.map (SObj.up m.length)) := by
        intro H m' j hne hle hm hk
        refine ⟨H, rdB_row hm rfl, by omega, H, ⟨rdB_row hm rfl, fun h => absurd h hne⟩, by omega, ?_⟩
        have hR : ¬ putF H (IntKind.i64.wrap (sumF 0 H)) 4 = [] := by
          unfold putF
          split
          · exact fun h => hne (List.append_eq_nil_iff.1 h).1
          · exact hne
        generalize putF H (IntKind.i64.wrap (sumF 0 H)) 4 = R at hk hR ⊢
        simp only [rowS, rowM, hR, if_false]
        refine ⟨[m'.length], .tup [.row 0 0 R.length 1, .v (.int .i64 0)], [⟨true, bL R⟩], by simp, ?_, by simp, by simp [Le, LeL], ?_⟩
        · simp [FitM, ObLe, bL_le]
        · simpa [SV.up, upL, SObj.up, bL_up] using hk
      have hne2 : B ++ bs ≠ [] := fun h => hB (List.append_eq_nil_iff.1 h).1
      have hle2 : (B ++ bs).length ≤ 800000 := by rw [List.length_append]; omega
      by_cases h0 : bs = []
      · subst h0
        have n0 : ∀ p, @inpL J p 0 = some [] := fun p => rfl
        rw [List.append_nil] at hk hne2 hle2
        simp (maxSteps := 2000000) -implicitDefEqProofs only [b1, b3, n0, s_alt, s_alt20, s_alt2t, s_alt2f, ↓s_loopi, ↓v_pq, ↓PRE, POST, CORE, Nat.reduceDiv, Nat.reduceMod, Int.reduceLT, Int.reduceLE, Int.reduceToNat, Int.reduceAdd, ↓reduceIte, Nat.reduceEqDiff, Nat.reduceAdd, Nat.reduceMul, Nat.reduceSub, Nat.reduceLeDiff, Nat.reduceLT, reduceCtorEq, if_true, eq_self, forall_const, implies_true]
        exact finR B _ 1 hne2 hle2 rfl hk
      · have h1 : ¬ bs.length = 0 := fun h => h0 (List.length_eq_zero_iff.1 h)
        have h2 : 0 < bs.length := by omega
        simp (maxSteps := 2000000) -implicitDefEqProofs only [b1, b3, hin, bL_fold, c1, c2, h1, h2, s_alt, s_alt20, s_alt2t, s_alt2f, ↓s_loopi, ↓v_pq, ↓PRE, POST, CORE, Nat.reduceDiv, Nat.reduceMod, Int.reduceLT, Int.reduceLE, Int.reduceToNat, Int.reduceAdd, ↓reduceIte, Nat.reduceEqDiff, Nat.reduceAdd, Nat.reduceMul, Nat.reduceSub, Nat.reduceLeDiff, Nat.reduceLT, reduceCtorEq, if_true, eq_self, forall_const, implies_true]
        refine ⟨⟨by unfold maxLen; omega, by omega⟩, ?_⟩
        have e3 : bL B ++ bL bs = bL (B ++ bs) := by simp [bL]
        have e4 : B.length + bs.length = (B ++ bs).length := by simp
        rw [e3, e4]
        exact finR (B ++ bs) _ 2 hne2 hle2 rfl hk
end Go.Proofs.Ytibefgdjijmncaa
end
section
namespace Go.Proofs.Ytibefgdjijmncaa
open Go.RowKit Sz
set_option maxHeartbeats 4000000
set_option maxRecDepth 20000
-- almshouse/image.flag (1 parameters)
def x48 : XC := (.seq (.tree (.seq ⟨some 2, none, (.ofA (.mv (.cst (.v (.int .i64 0)))))⟩
 .done))
 (.seq (.seq (.tree (.seq ⟨some 3, none, (.ofA (.mv (.tmp 0)))⟩
 .done))
 (.cond (.tmp 3)
 (.seq (.tree (.seq ⟨some 2, none, (.ofA (.mv (.cst (.v (.int .i64 1)))))⟩
 .done))
 .ret)
 .skip))
 (.seq (.tree (.seq ⟨some 2, none, (.ofA (.mv (.cst (.v (.int .i64 0)))))⟩
 .done))
 .ret)))
def r48 : List XR := [.tmp 2]
theorem fn48 : FnX Try.prog 48 [] 4 x48 r48 := ⟨_, Try.func48, by kernel_rfl, by kernel_rfl, by kernel_rfl, by kernel_rfl⟩
-- (*almshouse/image.writer).frame (3 parameters)
def x47 : XC := (.seq (.tree (.seq ⟨some 9, none, (.ofA (.mv (.tmp 1)))⟩
 (.seq ⟨some 10, none, (.ofA (.mv (.tmp 2)))⟩
 (.seq ⟨some 11, none, (.call (.cst (.fn 92 [])) [(.tmp 9), (.tmp 10)])⟩
 (.seq ⟨some 8, none, (.ofA (.mv (.tmp 11)))⟩
 (.seq ⟨some 12, none, (.ofA (.extract 0 (.tmp 8)))⟩
 (.seq ⟨some 13, none, (.ofA (.extract 1 (.tmp 8)))⟩
 (.seq ⟨some 6, none, (.ofA (.mv (.tmp 12)))⟩
 (.seq ⟨some 7, none, (.ofA (.mv (.tmp 13)))⟩
 .done)))))))))
 (.seq (.tree (.seq ⟨some 14, none, (.ofA (.mv (.tmp 0)))⟩
 (.seq ⟨some 15, none, (.ofA (.nilc (.tmp 14)))⟩
 (.seq ⟨some 16, none, (.ofA (.faddr 1 (.tmp 15)))⟩
 (.seq ⟨some 17, none, (.ofA (.load none (.tmp 16)))⟩
 (.seq ⟨some 18, none, (.ofA (.bin .eql (.tmp 17) (.cst (.v (.int .i64 0)))))⟩
 .done))))))
 (.cond (.tmp 18)
 (.tree (.seq ⟨some 19, none, (.ofA (.mv (.tmp 0)))⟩
 (.seq ⟨some 20, none, (.ofA (.mv (.tmp 0)))⟩
 (.seq ⟨some 21, none, (.ofA (.mv (.tmp 0)))⟩
 (.seq ⟨some 22, none, (.ofA (.nilc (.tmp 21)))⟩
 (.seq ⟨some 23, none, (.ofA (.faddr 0 (.tmp 22)))⟩
 (.seq ⟨some 24, none, (.ofA (.load none (.tmp 23)))⟩
 (.seq ⟨some 25, none, (.ofA (.mv (.tmp 6)))⟩
 (.seq ⟨some 26, none, (.app 1 1 (.tmp 24) (.tmp 25))⟩
 (.seq ⟨some 27, none, (.ofA (.mv (.tmp 7)))⟩
 (.seq ⟨some 28, none, (.ofA (.nilc (.tmp 19)))⟩
 (.seq ⟨some 29, none, (.ofA (.faddr 0 (.tmp 28)))⟩
 (.seq ⟨none, none, (.store 1 (.tmp 29) (.tmp 26))⟩
 (.seq ⟨some 30, none, (.ofA (.nilc (.tmp 20)))⟩
 (.seq ⟨some 31, none, (.ofA (.faddr 1 (.tmp 30)))⟩
 (.seq ⟨none, none, (.store 1 (.tmp 31) (.tmp 27))⟩
 .done))))))))))))))))
 .skip)))
def r47 : List XR := []
theorem fn47 : FnX Try.prog 47 [] 32 x47 r47 := ⟨_, Try.func47, by kernel_rfl, by kernel_rfl, by kernel_rfl, by kernel_rfl⟩
theorem mayBs_iff {g : Ge} : ∀ {bs : List Bk} {j : Nat}, mayBs g j bs = true ↔ ∀ (i : Nat) (b : Bk), bs[i]? = some b → mayBk g (j + i) b = true
  | [], j => by simp [mayBs]
  | x :: xs, j => by
    rw [mayBs, Bool.and_eq_true, mayBs_iff]
    constructor
    · rintro ⟨h1, h2⟩ i b hb
      cases i with
      | zero => simp at hb; subst hb; exact h1
      | succ i => have := h2 i b (by simpa using hb); rwa [show j + 1 + i = j + (i + 1) by omega] at this
    · intro h
      refine ⟨by simpa using h 0 x rfl, fun i b hb => ?_⟩
      have := h (i + 1) b (by simpa using hb)
      rwa [show j + (i + 1) = j + 1 + i by omega] at this
def c45 [Inp] : Trans := fun args m k => ∃ s g bs, args = [s] ∧ picS m s g bs ∧ bs.length ≤ 140737488355328 ∧ (∀ b ∈ bs, b.pages.length ≤ 140737488355328) ∧ k (.v (.bool (mayF g bs))) m
def G45 [Inp] : List CEntry := [⟨53, true, c53⟩, ⟨55, true, c55⟩, ⟨86, true, c86⟩]
theorem g45 [Inp] : GOk Try.prog G45 := GOk.cons c53_ok (GOk.cons c55_ok (GOk.cons c86_ok (g0 _)))
theorem c45_ok [I : Inp] : Contract Try.prog 45 true c45 := by
  refine .readG fn45 (G := fun J => @G45 J) (fun J => @g45 J) _ fun args m k h => ?_
  obtain ⟨s, g, bs, rfl, h1, hn, hpn, hk⟩ := h
  refine ⟨by simp, fun J hJ K hK us hus => ?_⟩
  obtain ⟨u, t1, rfl, hk1, rfl⟩ := hus
  obtain ⟨p, c, xs, e1, rfl, hin, hx0⟩ := pic_kn hK h1 hk1
  rw [List.map_cons, e1, List.map_nil]
  rw [List.length_map] at hn
  have hitem : ∀ (i : Nat) (x : Bi), xs[i]? = some x → inpL (plusA p (i * 3)) 3 = some x.cs := fun i x hx => inp_item Bi.len hin rfl hx
  unfold Ge.sv
  simp (maxSteps := 2000000) -implicitDefEqProofs only [↓x45, ↓r45, ↓G45, ↓c53, s_alt, s_alt20, s_alt2t, s_alt2f, ↓s_loopi, ↓v_pq, ↓PRE, POST, CORE, Nat.reduceDiv, Nat.reduceMod, Int.reduceLT, Int.reduceLE, Int.reduceToNat, Int.reduceAdd, ↓reduceIte, Nat.reduceEqDiff, Nat.reduceAdd, Nat.reduceMul, Nat.reduceSub, Nat.reduceLeDiff, Nat.reduceLT, reduceCtorEq, if_true, eq_self, forall_const, implies_true]
  refine ⟨g, rfl, fun e he => ?_⟩
  unfold mayF at hk
  by_cases h0 : e = 0
  case neg =>
    have hg : chkG g = false := by
      cases h : chkG g with
      | false => rfl
      | true => exact (h0 (he.2 h)).elim
    have hb : (e != 0) = true := by simpa using h0
    rw [hg, Bool.false_and] at hk
    simp (maxSteps := 2000000) -implicitDefEqProofs only [hb, s_alt, s_alt20, s_alt2t, s_alt2f, ↓s_loopi, ↓v_pq, ↓PRE, POST, CORE, Nat.reduceDiv, Nat.reduceMod, Int.reduceLT, Int.reduceLE, Int.reduceToNat, Int.reduceAdd, ↓reduceIte, Nat.reduceEqDiff, Nat.reduceAdd, Nat.reduceMul, Nat.reduceSub, Nat.reduceLeDiff, Nat.reduceLT, reduceCtorEq, if_true, eq_self, forall_const, implies_true]
    exact hk
  subst h0
  have hg := he.1 rfl
  rw [hg, Bool.true_and, List.length_map] at hk
  simp (maxSteps := 2000000) -implicitDefEqProofs only [bne_self_eq_false, Bool.false_eq_true, ↓G45, ↓c55, s_alt, s_alt20, s_alt2t, s_alt2f, ↓s_loopi, ↓v_pq, ↓PRE, POST, CORE, Nat.reduceDiv, Nat.reduceMod, Int.reduceLT, Int.reduceLE, Int.reduceToNat, Int.reduceAdd, ↓reduceIte, Nat.reduceEqDiff, Nat.reduceAdd, Nat.reduceMul, Nat.reduceSub, Nat.reduceLeDiff, Nat.reduceLT, reduceCtorEq, if_true, eq_self, forall_const, implies_true]
  refine ⟨g, rfl, ?_⟩
  cases hl : ((xs.length : Int) == nB g) with
  | false =>
    have hl2 : ((xs.length : Int) != nB g) = true := by simp only [bne, hl, Bool.not_false]
    rw [hl, Bool.false_and] at hk
    simp (maxSteps := 2000000) -implicitDefEqProofs only [hl2, s_alt, s_alt20, s_alt2t, s_alt2f, ↓s_loopi, ↓v_pq, ↓PRE, POST, CORE, Nat.reduceDiv, Nat.reduceMod, Int.reduceLT, Int.reduceLE, Int.reduceToNat, Int.reduceAdd, ↓reduceIte, Nat.reduceEqDiff, Nat.reduceAdd, Nat.reduceMul, Nat.reduceSub, Nat.reduceLeDiff, Nat.reduceLT, reduceCtorEq, if_true, eq_self, forall_const, implies_true]
    exact hk
  | true =>
  have hl2 : ((xs.length : Int) != nB g) = false := by simp only [bne, hl, Bool.not_true]
  rw [hl, Bool.true_and] at hk
  simp (maxSteps := 2000000) -implicitDefEqProofs only [hl2, Bool.false_eq_true, s_alt, s_alt20, s_alt2t, s_alt2f, ↓s_loopi, ↓v_pq, ↓PRE, POST, CORE, Nat.reduceDiv, Nat.reduceMod, Int.reduceLT, Int.reduceLE, Int.reduceToNat, Int.reduceAdd, ↓reduceIte, Nat.reduceEqDiff, Nat.reduceAdd, Nat.reduceMul, Nat.reduceSub, Nat.reduceLeDiff, Nat.reduceLT, reduceCtorEq, if_true, eq_self, forall_const, implies_true]
  refine TXi_of (TX_count (@g45 J) xs.length (fun x => [(1, .ptr 0 0), (19, .v (.slice p xs.length c)), (20, .v (.int .i64 (xs.length : Int))), (21, .v (.int .i64 (x : Int)))]) (fun x => [⟨true, [.v (.int .i64 g.ch), .v (.int .i64 g.di), .v (.int .i64 g.bl), .v (.int .i64 g.pa), .v (.slice p xs.length c)]⟩]) (fun x => ∀ i, i < x → ∀ b, (xs.map Bi.b)[i]? = some b → mayBk g i b = true) (fun i hi => by omega) (by refine ⟨[0], by simp [NdL, NdA, oO_cells, oO_own, iL_nil], ?_, ?_, keep0 hJ⟩ <;> simp only [FitM, FitE, ObLe, LeL, Le, List.cons_append, List.nil_append] <;> (try (simp (maxSteps := 2000000) -implicitDefEqProofs only [s_alt, s_alt20, s_alt2t, s_alt2f, ↓s_loopi, ↓v_pq, ↓PRE, POST, CORE, Nat.reduceDiv, Nat.reduceMod, Int.reduceLT, Int.reduceLE, Int.reduceToNat, Int.reduceAdd, ↓reduceIte, Nat.reduceEqDiff, Nat.reduceAdd, Nat.reduceMul, Nat.reduceSub, Nat.reduceLeDiff, Nat.reduceLT, reduceCtorEq, if_true, eq_self, forall_const, implies_true])) <;> (try simp only [Sz.Le, Sz.LeL, List.getElem?_cons_zero, List.getElem?_cons_succ]) <;> (try simp)) ?_ ?_)
  · intro x hx hI
    obtain ⟨a, ha⟩ : ∃ a, xs[x]? = some a := ⟨_, List.getElem?_eq_getElem hx⟩
    have hb0 : (xs.map Bi.b)[x]? = some a.b := by rw [List.getElem?_map, ha]; rfl
    have hpa := hpn a.b (List.mem_map.2 ⟨a, List.mem_of_getElem? ha, rfl⟩)
    have f : inpL (plusA p (x * 3)) 3 = some [.bool a.b.bad, .int .i64 a.b.er, .slice a.a a.b.pages.length a.c] := hitem x a ha
    have hina : inpL a.a (a.b.pages.length * 3) = some (rowV Pg.cs a.b.pages) := hx0 a (List.mem_of_getElem? ha)
    have hp : p.isSome = true := inpL_isSome hin (by omega)
    have i0 : (0 : Int) ≤ (x : Int) := by omega
    have i1 : (x : Int) < (xs.length : Int) := by omega
    have w1 : IntKind.i64.wrap ((x : Int) + 1) = (x : Int) + 1 := Sz.w_64 (by omega) (by omega)
    have bad : mayBk g x a.b = false → k (.v (.bool false)) m := fun hb => by
      have : mayBs g 0 (xs.map Bi.b) = false := by
        cases h : mayBs g 0 (xs.map Bi.b) with
        | false => rfl
        | true =>
          have := mayBs_iff.1 h x a.b hb0
          rw [Nat.zero_add, hb] at this
          cases this
      rw [this] at hk
      exact hk
    have next : mayBk g x a.b = true → ∀ i, i < x + 1 → ∀ b, (xs.map Bi.b)[i]? = some b → mayBk g i b = true := fun hb i hi b hb' => by
      by_cases h : i = x
      · subst h
        rw [hb0] at hb'
        injection hb' with hb'
        subst hb'
        exact hb
      · exact hI i (by omega) b hb'
    unfold mayBk at bad next
    by_cases c1 : a.b.bad = true ∧ (x : Int) < 2
    · have c1' : x < 2 := by omega
      simp (maxSteps := 2000000) -implicitDefEqProofs only [f, hp, i0, i1, w1, c1.1, c1.2, s_alt, s_alt20, s_alt2t, s_alt2f, ↓s_loopi, ↓v_pq, ↓PRE, POST, CORE, Nat.reduceDiv, Nat.reduceMod, Int.reduceLT, Int.reduceLE, Int.reduceToNat, Int.reduceAdd, ↓reduceIte, Nat.reduceEqDiff, Nat.reduceAdd, Nat.reduceMul, Nat.reduceSub, Nat.reduceLeDiff, Nat.reduceLT, reduceCtorEq, if_true, eq_self, forall_const, implies_true]
      exact bad (by simp [c1.1, c1'])
    · have e1 : (!(a.b.bad && decide (x < 2))) = true := by
        cases hbd : a.b.bad with
        | false => rfl
        | true =>
          have : ¬ x < 2 := fun h => c1 ⟨hbd, by omega⟩
          simp [this]
      rw [e1, Bool.true_and] at bad next
      obtain ⟨C1, hC1⟩ : ∃ C1 : Bool, C1 = a.b.bad := ⟨_, rfl⟩
      have c1b : a.b.bad = true → ¬ (x : Int) < 2 := fun h h2 => c1 ⟨h, h2⟩
      by_cases c2 : a.b.er < 0
      · have e2 : decide (0 ≤ a.b.er) = false := by simpa using c2
        rw [e2, Bool.false_and] at bad
        cases hbd : a.b.bad with
        | false => simp (maxSteps := 2000000) -implicitDefEqProofs only [f, hp, i0, i1, w1, hbd, c2, s_alt, s_alt20, s_alt2t, s_alt2f, ↓s_loopi, ↓v_pq, ↓PRE, POST, CORE, Nat.reduceDiv, Nat.reduceMod, Int.reduceLT, Int.reduceLE, Int.reduceToNat, Int.reduceAdd, ↓reduceIte, Nat.reduceEqDiff, Nat.reduceAdd, Nat.reduceMul, Nat.reduceSub, Nat.reduceLeDiff, Nat.reduceLT, reduceCtorEq, if_true, eq_self, forall_const, implies_true]; exact bad rfl
        | true => have := c1b hbd; simp (maxSteps := 2000000) -implicitDefEqProofs only [f, hp, i0, i1, w1, hbd, this, c2, s_alt, s_alt20, s_alt2t, s_alt2f, ↓s_loopi, ↓v_pq, ↓PRE, POST, CORE, Nat.reduceDiv, Nat.reduceMod, Int.reduceLT, Int.reduceLE, Int.reduceToNat, Int.reduceAdd, ↓reduceIte, Nat.reduceEqDiff, Nat.reduceAdd, Nat.reduceMul, Nat.reduceSub, Nat.reduceLeDiff, Nat.reduceLT, reduceCtorEq, if_true, eq_self, forall_const, implies_true]; exact bad rfl
      · have e2 : decide (0 ≤ a.b.er) = true := by simp only [decide_eq_true_eq]; omega
        rw [e2, Bool.true_and] at bad next
        by_cases c3 : 2147483647 < a.b.er
        · have e3 : decide (a.b.er ≤ 2147483647) = false := by simp only [decide_eq_false_iff_not]; omega
          rw [e3, Bool.false_and] at bad
          cases hbd : a.b.bad with
          | false => simp (maxSteps := 2000000) -implicitDefEqProofs only [f, hp, i0, i1, w1, hbd, c2, c3, gt_iff_lt, s_alt, s_alt20, s_alt2t, s_alt2f, ↓s_loopi, ↓v_pq, ↓PRE, POST, CORE, Nat.reduceDiv, Nat.reduceMod, Int.reduceLT, Int.reduceLE, Int.reduceToNat, Int.reduceAdd, ↓reduceIte, Nat.reduceEqDiff, Nat.reduceAdd, Nat.reduceMul, Nat.reduceSub, Nat.reduceLeDiff, Nat.reduceLT, reduceCtorEq, if_true, eq_self, forall_const, implies_true]; exact bad rfl
          | true => have := c1b hbd; simp (maxSteps := 2000000) -implicitDefEqProofs only [f, hp, i0, i1, w1, hbd, this, c2, c3, gt_iff_lt, s_alt, s_alt20, s_alt2t, s_alt2f, ↓s_loopi, ↓v_pq, ↓PRE, POST, CORE, Nat.reduceDiv, Nat.reduceMod, Int.reduceLT, Int.reduceLE, Int.reduceToNat, Int.reduceAdd, ↓reduceIte, Nat.reduceEqDiff, Nat.reduceAdd, Nat.reduceMul, Nat.reduceSub, Nat.reduceLeDiff, Nat.reduceLT, reduceCtorEq, if_true, eq_self, forall_const, implies_true]; exact bad rfl
        · have e3 : decide (a.b.er ≤ 2147483647) = true := by simp only [decide_eq_true_eq]; omega
          rw [e3, Bool.true_and] at bad next
          by_cases c4 : g.pa < (a.b.pages.length : Int)
          · have e4 : decide ((a.b.pages.length : Int) ≤ g.pa) = false := by simp only [decide_eq_false_iff_not]; omega
            rw [e4, Bool.false_and] at bad
            cases hbd : a.b.bad with
            | false => simp (maxSteps := 2000000) -implicitDefEqProofs only [f, hp, i0, i1, w1, hbd, c2, c3, c4, gt_iff_lt, s_alt, s_alt20, s_alt2t, s_alt2f, ↓s_loopi, ↓v_pq, ↓PRE, POST, CORE, Nat.reduceDiv, Nat.reduceMod, Int.reduceLT, Int.reduceLE, Int.reduceToNat, Int.reduceAdd, ↓reduceIte, Nat.reduceEqDiff, Nat.reduceAdd, Nat.reduceMul, Nat.reduceSub, Nat.reduceLeDiff, Nat.reduceLT, reduceCtorEq, if_true, eq_self, forall_const, implies_true]; exact bad rfl
            | true => have := c1b hbd; simp (maxSteps := 2000000) -implicitDefEqProofs only [f, hp, i0, i1, w1, hbd, this, c2, c3, c4, gt_iff_lt, s_alt, s_alt20, s_alt2t, s_alt2f, ↓s_loopi, ↓v_pq, ↓PRE, POST, CORE, Nat.reduceDiv, Nat.reduceMod, Int.reduceLT, Int.reduceLE, Int.reduceToNat, Int.reduceAdd, ↓reduceIte, Nat.reduceEqDiff, Nat.reduceAdd, Nat.reduceMul, Nat.reduceSub, Nat.reduceLeDiff, Nat.reduceLT, reduceCtorEq, if_true, eq_self, forall_const, implies_true]; exact bad rfl
          · have e4 : decide ((a.b.pages.length : Int) ≤ g.pa) = true := by simp only [decide_eq_true_eq]; omega
            rw [e4, Bool.true_and] at bad next
            cases hbd : a.b.bad with
            | false =>
              simp (maxSteps := 2000000) -implicitDefEqProofs only [f, hp, i0, i1, w1, hbd, c2, c3, c4, gt_iff_lt, ↓G45, ↓c86, s_alt, s_alt20, s_alt2t, s_alt2f, ↓s_loopi, ↓v_pq, ↓PRE, POST, CORE, Nat.reduceDiv, Nat.reduceMod, Int.reduceLT, Int.reduceLE, Int.reduceToNat, Int.reduceAdd, ↓reduceIte, Nat.reduceEqDiff, Nat.reduceAdd, Nat.reduceMul, Nat.reduceSub, Nat.reduceLeDiff, Nat.reduceLT, reduceCtorEq, if_true, eq_self, forall_const, implies_true]
              refine ⟨_, hina, rfl, by omega, ?_⟩
              cases hall : a.b.pages.all mayPg with
              | false => simp (maxSteps := 2000000) -implicitDefEqProofs only [Bool.not_false, s_alt, s_alt20, s_alt2t, s_alt2f, ↓s_loopi, ↓v_pq, ↓PRE, POST, CORE, Nat.reduceDiv, Nat.reduceMod, Int.reduceLT, Int.reduceLE, Int.reduceToNat, Int.reduceAdd, ↓reduceIte, Nat.reduceEqDiff, Nat.reduceAdd, Nat.reduceMul, Nat.reduceSub, Nat.reduceLeDiff, Nat.reduceLT, reduceCtorEq, if_true, eq_self, forall_const, implies_true]; exact bad hall
              | true => simp (maxSteps := 2000000) -implicitDefEqProofs only [Bool.not_true, Bool.false_eq_true, w1, s_alt, s_alt20, s_alt2t, s_alt2f, ↓s_loopi, ↓v_pq, ↓PRE, POST, CORE, Nat.reduceDiv, Nat.reduceMod, Int.reduceLT, Int.reduceLE, Int.reduceToNat, Int.reduceAdd, ↓reduceIte, Nat.reduceEqDiff, Nat.reduceAdd, Nat.reduceMul, Nat.reduceSub, Nat.reduceLeDiff, Nat.reduceLT, reduceCtorEq, if_true, eq_self, forall_const, implies_true]; exact ⟨next hall, (by refine ⟨[0], by simp [NdL, NdA, oO_cells, oO_own, iL_nil], ?_, ?_, keep0 hJ⟩ <;> simp only [FitM, FitE, ObLe, LeL, Le, List.cons_append, List.nil_append] <;> (try (simp (maxSteps := 2000000) -implicitDefEqProofs only [s_alt, s_alt20, s_alt2t, s_alt2f, ↓s_loopi, ↓v_pq, ↓PRE, POST, CORE, Nat.reduceDiv, Nat.reduceMod, Int.reduceLT, Int.reduceLE, Int.reduceToNat, Int.reduceAdd, ↓reduceIte, Nat.reduceEqDiff, Nat.reduceAdd, Nat.reduceMul, Nat.reduceSub, Nat.reduceLeDiff, Nat.reduceLT, reduceCtorEq, if_true, eq_self, forall_const, implies_true])) <;> (try simp only [Sz.Le, Sz.LeL, List.getElem?_cons_zero, List.getElem?_cons_succ]) <;> (try simp))⟩
            | true =>
              have := c1b hbd
              simp (maxSteps := 2000000) -implicitDefEqProofs only [f, hp, i0, i1, w1, hbd, this, c2, c3, c4, gt_iff_lt, ↓G45, ↓c86, s_alt, s_alt20, s_alt2t, s_alt2f, ↓s_loopi, ↓v_pq, ↓PRE, POST, CORE, Nat.reduceDiv, Nat.reduceMod, Int.reduceLT, Int.reduceLE, Int.reduceToNat, Int.reduceAdd, ↓reduceIte, Nat.reduceEqDiff, Nat.reduceAdd, Nat.reduceMul, Nat.reduceSub, Nat.reduceLeDiff, Nat.reduceLT, reduceCtorEq, if_true, eq_self, forall_const, implies_true]
              refine ⟨_, hina, rfl, by omega, ?_⟩
              cases hall : a.b.pages.all mayPg with
              | false => simp (maxSteps := 2000000) -implicitDefEqProofs only [Bool.not_false, s_alt, s_alt20, s_alt2t, s_alt2f, ↓s_loopi, ↓v_pq, ↓PRE, POST, CORE, Nat.reduceDiv, Nat.reduceMod, Int.reduceLT, Int.reduceLE, Int.reduceToNat, Int.reduceAdd, ↓reduceIte, Nat.reduceEqDiff, Nat.reduceAdd, Nat.reduceMul, Nat.reduceSub, Nat.reduceLeDiff, Nat.reduceLT, reduceCtorEq, if_true, eq_self, forall_const, implies_true]; exact bad hall
              | true => simp (maxSteps := 2000000) -implicitDefEqProofs only [Bool.not_true, Bool.false_eq_true, w1, s_alt, s_alt20, s_alt2t, s_alt2f, ↓s_loopi, ↓v_pq, ↓PRE, POST, CORE, Nat.reduceDiv, Nat.reduceMod, Int.reduceLT, Int.reduceLE, Int.reduceToNat, Int.reduceAdd, ↓reduceIte, Nat.reduceEqDiff, Nat.reduceAdd, Nat.reduceMul, Nat.reduceSub, Nat.reduceLeDiff, Nat.reduceLT, reduceCtorEq, if_true, eq_self, forall_const, implies_true]; exact ⟨next hall, (by refine ⟨[0], by simp [NdL, NdA, oO_cells, oO_own, iL_nil], ?_, ?_, keep0 hJ⟩ <;> simp only [FitM, FitE, ObLe, LeL, Le, List.cons_append, List.nil_append] <;> (try (simp (maxSteps := 2000000) -implicitDefEqProofs only [s_alt, s_alt20, s_alt2t, s_alt2f, ↓s_loopi, ↓v_pq, ↓PRE, POST, CORE, Nat.reduceDiv, Nat.reduceMod, Int.reduceLT, Int.reduceLE, Int.reduceToNat, Int.reduceAdd, ↓reduceIte, Nat.reduceEqDiff, Nat.reduceAdd, Nat.reduceMul, Nat.reduceSub, Nat.reduceLeDiff, Nat.reduceLT, reduceCtorEq, if_true, eq_self, forall_const, implies_true])) <;> (try simp only [Sz.Le, Sz.LeL, List.getElem?_cons_zero, List.getElem?_cons_succ]) <;> (try simp))⟩
  · intro hI
    have i1 : ¬ (xs.length : Int) < (xs.length : Int) := by omega
    have : mayBs g 0 (xs.map Bi.b) = true := mayBs_iff.2 fun i b hb => by
      rw [Nat.zero_add]
      exact hI i (by have := (List.getElem?_eq_some_iff.1 hb).1; rwa [List.length_map] at this) b hb
    rw [this] at hk
    simp (maxSteps := 2000000) -implicitDefEqProofs only [i1, s_alt, s_alt20, s_alt2t, s_alt2f, ↓s_loopi, ↓v_pq, ↓PRE, POST, CORE, Nat.reduceDiv, Nat.reduceMod, Int.reduceLT, Int.reduceLE, Int.reduceToNat, Int.reduceAdd, ↓reduceIte, Nat.reduceEqDiff, Nat.reduceAdd, Nat.reduceMul, Nat.reduceSub, Nat.reduceLeDiff, Nat.reduceLT, reduceCtorEq, if_true, eq_self, forall_const, implies_true]
    exact hk
def c48 [Inp] : Trans := fun args m k => ∃ f : Bool, args = [.v (.bool f)] ∧ k (.v (.int .i64 (if f = true then 1 else 0))) m
theorem c48_ok [I : Inp] : Contract Try.prog 48 true c48 := by
  refine .read fn48 (G := fun _ => []) (fun J => @g0 J _) _ fun args m k h => ?_
  obtain ⟨f, rfl, hk⟩ := h
  refine ⟨by simp, fun J hJ us hus => ?_⟩
  obtain ⟨u, t1, rfl, hk1, rfl⟩ := hus
  obtain rfl := hk1.1 _ rfl
  cases f <;> simp (maxSteps := 2000000) -implicitDefEqProofs only [↓x48, ↓r48, Bool.false_eq_true, s_alt, s_alt20, s_alt2t, s_alt2f, ↓s_loopi, ↓v_pq, ↓PRE, POST, CORE, Nat.reduceDiv, Nat.reduceMod, Int.reduceLT, Int.reduceLE, Int.reduceToNat, Int.reduceAdd, ↓reduceIte, Nat.reduceEqDiff, Nat.reduceAdd, Nat.reduceMul, Nat.reduceSub, Nat.reduceLeDiff, Nat.reduceLT, reduceCtorEq, if_true, eq_self, forall_const, implies_true] <;> exact hk
end Go.Proofs.Ytibefgdjijmncaa
end
