/- Walks and plain facts for the law ImageParses, part MIPH. No condition. -/
import Derived.Test.YtibefgdjijmncaaMIPG
import Derived.Test.YtibefgdjijmncaaMIPF
set_option linter.unusedVariables false
set_option linter.unusedSimpArgs false
section
namespace Go.Proofs.Ytibefgdjijmncaa
open Go.RowKit Sz
set_option maxHeartbeats 4000000
set_option maxRecDepth 20000
-- almshouse/almshouselaw43.told (1 parameters)
def x16 : XC := (.seq (.tree (.seq ⟨some 1, none, (.box (.tmp 0))⟩
 (.seq ⟨some 2, none, (.ofA (.mv (.cst (.v (.slice none 0 0)))))⟩
 .done)))
 (.seq (.tree (.seq ⟨some 15, none, (.ofA (.faddr 0 (.tmp 1)))⟩
 (.seq ⟨some 16, none, (.ofA (.load (some 4) (.tmp 15)))⟩
 (.seq ⟨some 3, none, (.alloc [(.v (.int .i64 0)), (.v (.int .i64 0)), (.v (.int .i64 0)), (.v (.int .i64 0))])⟩
 (.seq ⟨none, none, (.store 4 (.tmp 3) (.tmp 16))⟩
 .done)))))
 (.seq (.tree (.seq ⟨some 18, none, (.ofA (.faddr 0 (.tmp 3)))⟩
 (.seq ⟨some 19, none, (.ofA (.load none (.tmp 18)))⟩
 (.seq ⟨some 20, none, (.ofA (.conv .u8 (.tmp 19)))⟩
 (.seq ⟨some 21, none, (.ofA (.faddr 1 (.tmp 3)))⟩
 (.seq ⟨some 22, none, (.ofA (.load none (.tmp 21)))⟩
 (.seq ⟨some 23, none, (.ofA (.conv .u8 (.tmp 22)))⟩
 (.seq ⟨some 24, none, (.ofA (.faddr 2 (.tmp 3)))⟩
 (.seq ⟨some 25, none, (.ofA (.load none (.tmp 24)))⟩
 (.seq ⟨some 26, none, (.ofA (.conv .u8 (.tmp 25)))⟩
 (.seq ⟨some 27, none, (.ofA (.faddr 3 (.tmp 3)))⟩
 (.seq ⟨some 28, none, (.ofA (.load none (.tmp 27)))⟩
 (.seq ⟨some 29, none, (.ofA (.conv .u8 (.tmp 28)))⟩
 (.seq ⟨some 30, none, (.buildSl 1 4 [(.v (.int .u8 0)), (.v (.int .u8 0)), (.v (.int .u8 0)), (.v (.int .u8 0))] [(0, 1, (.tmp 20)), (1, 1, (.tmp 23)), (2, 1, (.tmp 26)), (3, 1, (.tmp 29))])⟩
 (.seq ⟨some 31, none, (.call (.cst (.fn 57 [])) [(.cst (.v (.int .i64 71))), (.tmp 30)])⟩
 (.seq ⟨some 17, none, (.ofA (.mv (.tmp 31)))⟩
 (.seq ⟨some 32, none, (.ofA (.extract 0 (.tmp 17)))⟩
 (.seq ⟨some 33, none, (.ofA (.extract 1 (.tmp 17)))⟩
 (.seq ⟨some 4, none, (.ofA (.mv (.tmp 32)))⟩
 (.seq ⟨some 5, none, (.ofA (.mv (.tmp 33)))⟩
 .done))))))))))))))))))))
 (.seq (.seq (.tree (.seq ⟨some 34, none, (.ofA (.faddr 4 (.tmp 1)))⟩
 (.seq ⟨some 35, none, (.ofA (.load none (.tmp 34)))⟩
 (.seq ⟨some 36, none, (.ofA (.len (.tmp 35)))⟩
 (.seq ⟨some 37, none, (.ofA (.mv (.cst (.v (.int .i64 0)))))⟩
 .done)))))
 (.block 0 (.loop (.seq (.tree (.seq ⟨some 38, none, (.ofA (.bin .lss (.tmp 37) (.tmp 36)))⟩
 .done))
 (.seq (.cond (.tmp 38)
 .skip
 (.exit 0))
 (.seq (.block 1 (.seq (.tree (.seq ⟨some 39, none, (.ofA (.isl 3 (.tmp 35) (.tmp 37)))⟩
 (.seq ⟨some 40, none, (.ofA (.load (some 3) (.tmp 39)))⟩
 (.seq ⟨some 7, none, (.alloc [(.v (.bool false)), (.v (.int .i64 0)), (.v (.slice none 0 0))])⟩
 (.seq ⟨none, none, (.store 3 (.tmp 7) (.tmp 40))⟩
 .done)))))
 (.seq (.tree (.take ⟨some 42, none, (.ofA (.faddr 0 (.tmp 7)))⟩
 (.take ⟨some 43, none, (.ofA (.load none (.tmp 42)))⟩
 (.take ⟨some 46, none, (.ofA (.faddr 2 (.tmp 7)))⟩
 (.take ⟨some 47, none, (.ofA (.load none (.tmp 46)))⟩
 (.take ⟨some 48, none, (.ofA (.len (.tmp 47)))⟩
 (.take ⟨some 49, none, (.ofA (.conv .u8 (.tmp 48)))⟩
 (.take ⟨some 51, none, (.ofA (.faddr 1 (.tmp 7)))⟩
 (.take ⟨some 52, none, (.ofA (.load none (.tmp 51)))⟩
 (.act true [(⟨some 44, none, (.call (.cst (.fn 59 [])) [(.tmp 43)])⟩,
 (.take ⟨some 45, none, (.ofA (.conv .u8 (.tmp 44)))⟩
 (.act true [(⟨some 50, none, (.buildSl 1 2 [(.v (.int .u8 0)), (.v (.int .u8 0))] [(0, 1, (.tmp 45)), (1, 1, (.tmp 49))])⟩,
 (.act true [(⟨some 53, none, (.call (.cst (.fn 58 [])) [(.tmp 50), (.tmp 52), (.cst (.v (.int .i64 4)))])⟩,
 (.act true [(⟨some 54, none, (.call (.cst (.fn 57 [])) [(.cst (.v (.int .i64 66))), (.tmp 53)])⟩,
 (.take ⟨some 41, none, (.ofA (.mv (.tmp 54)))⟩
 (.take ⟨some 55, none, (.ofA (.extract 0 (.tmp 41)))⟩
 (.take ⟨some 56, none, (.ofA (.extract 1 (.tmp 41)))⟩
 (.take ⟨some 8, none, (.ofA (.mv (.tmp 55)))⟩
 (.take ⟨some 9, none, (.ofA (.mv (.tmp 56)))⟩
 .done))))))]))]))])))]))))))))))
 (.seq (.tree (.seq ⟨some 57, none, (.ofA (.mv (.tmp 4)))⟩
 (.seq ⟨some 58, none, (.ofA (.mv (.tmp 8)))⟩
 (.seq ⟨some 59, none, (.app 1 1 (.tmp 57) (.tmp 58))⟩
 (.seq ⟨some 4, none, (.ofA (.mv (.tmp 59)))⟩
 .done)))))
 (.seq (.tree (.seq ⟨some 60, none, (.ofA (.faddr 2 (.tmp 7)))⟩
 (.seq ⟨some 61, none, (.ofA (.load none (.tmp 60)))⟩
 (.seq ⟨some 62, none, (.ofA (.len (.tmp 61)))⟩
 (.seq ⟨some 63, none, (.ofA (.mv (.cst (.v (.int .i64 0)))))⟩
 .done)))))
 (.block 2 (.loop (.seq (.tree (.seq ⟨some 64, none, (.ofA (.bin .lss (.tmp 63) (.tmp 62)))⟩
 .done))
 (.seq (.cond (.tmp 64)
 .skip
 (.exit 2))
 (.seq (.block 3 (.seq (.tree (.seq ⟨some 65, none, (.ofA (.isl 3 (.tmp 61) (.tmp 63)))⟩
 (.seq ⟨some 66, none, (.ofA (.load (some 3) (.tmp 65)))⟩
 (.seq ⟨some 11, none, (.alloc [(.v (.bool false)), (.v (.string ⟨#[]⟩)), (.v (.string ⟨#[]⟩))])⟩
 (.seq ⟨none, none, (.store 3 (.tmp 11) (.tmp 66))⟩
 .done)))))
 (.seq (.tree (.seq ⟨some 67, none, (.ofA (.faddr 0 (.tmp 11)))⟩
 (.seq ⟨some 68, none, (.ofA (.load none (.tmp 67)))⟩
 (.seq ⟨some 69, none, (.call (.cst (.fn 59 [])) [(.tmp 68)])⟩
 (.seq ⟨some 70, none, (.ofA (.conv .u8 (.tmp 69)))⟩
 (.seq ⟨some 71, none, (.buildSl 1 1 [(.v (.int .u8 0))] [(0, 1, (.tmp 70))])⟩
 (.seq ⟨some 12, none, (.ofA (.mv (.tmp 71)))⟩
 .done)))))))
 (.seq (.seq (.tree (.seq ⟨some 72, none, (.ofA (.faddr 0 (.tmp 11)))⟩
 (.seq ⟨some 73, none, (.ofA (.load none (.tmp 72)))⟩
 (.seq ⟨some 74, none, (.ofA (.un .not (.tmp 73)))⟩
 .done))))
 (.cond (.tmp 74)
 (.tree (.take ⟨some 75, none, (.ofA (.mv (.tmp 12)))⟩
 (.take ⟨some 76, none, (.ofA (.faddr 1 (.tmp 11)))⟩
 (.take ⟨some 77, none, (.ofA (.load none (.tmp 76)))⟩
 (.take ⟨some 79, none, (.ofA (.faddr 2 (.tmp 11)))⟩
 (.take ⟨some 80, none, (.ofA (.load none (.tmp 79)))⟩
 (.act true [(⟨some 78, none, (.call (.cst (.fn 60 [])) [(.tmp 75), (.tmp 77)])⟩,
 (.act true [(⟨some 81, none, (.call (.cst (.fn 60 [])) [(.tmp 78), (.tmp 80)])⟩,
 (.take ⟨some 12, none, (.ofA (.mv (.tmp 81)))⟩
 .done))]))])))))))
 .skip))
 (.seq (.tree (.seq ⟨some 83, none, (.ofA (.mv (.tmp 12)))⟩
 (.seq ⟨some 84, none, (.call (.cst (.fn 57 [])) [(.cst (.v (.int .i64 80))), (.tmp 83)])⟩
 (.seq ⟨some 82, none, (.ofA (.mv (.tmp 84)))⟩
 (.seq ⟨some 85, none, (.ofA (.extract 0 (.tmp 82)))⟩
 (.seq ⟨some 86, none, (.ofA (.extract 1 (.tmp 82)))⟩
 (.seq ⟨some 13, none, (.ofA (.mv (.tmp 85)))⟩
 (.seq ⟨some 14, none, (.ofA (.mv (.tmp 86)))⟩
 .done))))))))
 (.tree (.seq ⟨some 87, none, (.ofA (.mv (.tmp 4)))⟩
 (.seq ⟨some 88, none, (.ofA (.mv (.tmp 13)))⟩
 (.seq ⟨some 89, none, (.app 1 1 (.tmp 87) (.tmp 88))⟩
 (.seq ⟨some 4, none, (.ofA (.mv (.tmp 89)))⟩
 .done))))))))))
 (.tree (.seq ⟨some 90, none, (.ofA (.bin .add (.tmp 63) (.cst (.v (.int .i64 1)))))⟩
 (.seq ⟨some 63, none, (.ofA (.mv (.tmp 90)))⟩
 .done)))))))))))))
 (.tree (.seq ⟨some 91, none, (.ofA (.bin .add (.tmp 37) (.cst (.v (.int .i64 1)))))⟩
 (.seq ⟨some 37, none, (.ofA (.mv (.tmp 91)))⟩
 .done)))))))))
 (.seq (.tree (.seq ⟨some 92, none, (.ofA (.mv (.tmp 4)))⟩
 (.seq ⟨some 2, none, (.ofA (.mv (.tmp 92)))⟩
 .done)))
 .ret)))))
def r16 : List XR := [.tmp 2]
theorem fn16 : FnX Try.prog 16 [] 93 x16 r16 := ⟨_, Try.func16, by kernel_rfl, by kernel_rfl, by kernel_rfl, by kernel_rfl⟩
theorem byt_sum {b : List Int} (h : Byt b) : IntKind.i64.wrap (noI (rsF 4294967295 b)) = smF b := by
  rw [sum_ok (fun c hc => by have := h c hc; omega)]
  rfl
theorem hdF_byt {k : Int} {body : List Int} (h : Byt body) : Byt (hdF k body) := (leN_byt _ _).app ((leN_byt _ _).app h)
theorem smF_i (b : List Int) : smF b ≤ 9223372036854775807 := by have := smF_in b; omega
theorem fin_fr {k : SV → Mem → Prop} {m : Mem} (L : List Int) (m' : Mem) (j : Nat) (hm : m'[j]? = some ⟨true, bL L⟩) (h3 : k (.tup [.row m.length 0 L.length 1, .v (.int .i64 0)]) (m ++ [⟨true, bL L⟩])) :
    ∃ (g2 : List Nat) (s2 : SV) (m2 : Mem), g2.Nodup ∧ FitM g2 m' g2 m2 ∧ (∀ o ∈ m2, o.own = true) ∧ Le g2 s2 (.tup [.row j 0 L.length 1, .v (.int .i64 0)]) ∧ k (s2.up m.length) (m ++ m2.map (SObj.up m.length)) :=
  ⟨[j], .tup [.row 0 0 L.length 1, .v (.int .i64 0)], [⟨true, bL L⟩], by simp, by simp [FitM, ObLe, bL_le, hm], by simp, by simp [Le, LeL], by simpa [SV.up, upL, SObj.up, bL_up] using h3⟩
def c57 [Inp] : Trans := fun args m k => ∃ kind b body, args = [.v (.int .i64 kind), b] ∧ rdB m b = some body ∧ Byt body ∧ (0 ≤ kind ∧ kind ≤ 255) ∧ body.length ≤ 65535 ∧ k (.tup [.row m.length 0 (frF smF kind body).length 1, .v (.int .i64 0)]) (m ++ [⟨true, bL (frF smF kind body)⟩])
def G57 [Inp] : List CEntry := [⟨58, true, c58⟩, ⟨102, true, c102⟩]
theorem g57 [Inp] : GOk Try.prog G57 := GOk.cons c58_ok (GOk.cons c102_ok (g0 _))
theorem c57_ok [I : Inp] : Contract Try.prog 57 true c57 := by
  refine .readF fn57 (G := fun J => @G57 J) (fun J => @g57 J) _ fun args m k h => ?_
  obtain ⟨kind, b, body, rfl, hb, hby, ⟨k0, k1⟩, hl, hk⟩ := h
  refine ⟨by simp, fun J hJ us hus => ?_⟩
  obtain ⟨u, t1, rfl, hk1, u2, t2, rfl, hk2, rfl⟩ := hus
  obtain rfl := hk1.1 _ rfl
  obtain ⟨p, c, rfl, hin⟩ := rdB_knows hb hk2
  have c0 : ¬ kind < 0 := by omega
  have c1 : ¬ (255 : Int) < kind := by omega
  have c2 : ¬ (65535 : Int) < (body.length : Int) := by omega
  try simp (maxSteps := 2000000) -implicitDefEqProofs only [↓x57, ↓r57, ↓G57, ↓c58, c0, c1, c2, gt_iff_lt, s_alt, s_alt20, s_alt2t, s_alt2f, ↓s_loopi, ↓v_pq, ↓PRE, POST, CORE, Nat.reduceDiv, Nat.reduceMod, Int.reduceLT, Int.reduceLE, Int.reduceToNat, Int.reduceAdd, ↓reduceIte, Nat.reduceEqDiff, Nat.reduceAdd, Nat.reduceMul, Nat.reduceSub, Nat.reduceLeDiff, Nat.reduceLT, reduceCtorEq, if_true, eq_self, forall_const, implies_true]
  refine ⟨[], rfl, by simp, by omega, ?_⟩
  have q1 : (putF [] kind 1).length = 1 := by rw [put1 k0 k1]; simp [leN_len]
  have e2 : putF (putF [] kind 1) (body.length : Int) 2 = leN 1 kind ++ leN 2 body.length := by
    have := putF_leN (bs := putF [] kind 1) (n := 2) (fits2 (v := (body.length : Int)) (by omega) (by omega))
    rw [show (2 : Int) = ((2 : Nat) : Int) from rfl, this, put1 k0 k1, List.nil_append]
  have q2 : (putF (putF [] kind 1) (body.length : Int) 2).length = 3 := by rw [e2]; simp [leN_len]
  have hh : putF (putF [] kind 1) (body.length : Int) 2 ++ body = hdF kind body := by rw [e2]; unfold hdF; simp
  generalize putF [] kind 1 = A1 at q1 q2 hh ⊢
  try simp (maxSteps := 2000000) -implicitDefEqProofs only [↓G57, ↓c58, s_alt, s_alt20, s_alt2t, s_alt2f, ↓s_loopi, ↓v_pq, ↓PRE, POST, CORE, Nat.reduceDiv, Nat.reduceMod, Int.reduceLT, Int.reduceLE, Int.reduceToNat, Int.reduceAdd, ↓reduceIte, Nat.reduceEqDiff, Nat.reduceAdd, Nat.reduceMul, Nat.reduceSub, Nat.reduceLeDiff, Nat.reduceLT, reduceCtorEq, if_true, eq_self, forall_const, implies_true]
  refine ⟨A1, rdB_row rfl rfl, by omega, by omega, ?_⟩
  generalize putF A1 (body.length : Int) 2 = A2 at q2 hh ⊢
  have hH := hdF_byt (k := kind) hby
  have hHl : (hdF kind body).length = body.length + 3 := by rw [← hh, List.length_append]; omega
  have bl := bL_len A2
  have b0 := bL_len body
  have bo := bL_one body
  have tA : List.take A2.length (bL A2) = bL A2 := List.take_of_length_le (by rw [bl]; exact Nat.le_refl _)
  have tB : List.take body.length (bL body) = bL body := List.take_of_length_le (by rw [b0]; exact Nat.le_refl _)
  have e3 : bL A2 ++ bL body = bL (hdF kind body) := by rw [← hh]; simp [bL]
  have e4 : A2.length + body.length = (hdF kind body).length := by rw [← hh, List.length_append]
  have hfr : frF smF kind body = putF (hdF kind body) (smF (hdF kind body)) 4 := by
    have hs := smF_in (hdF kind body)
    exact (putF_leN (bs := hdF kind body) (n := 4) (fits4 hs.1 hs.2)).symm
  rw [hfr] at hk
  have hsum := byt_sum hH
  by_cases hne : body.length = 0
  · have hbe := List.length_eq_zero_iff.1 hne
    subst hbe
    rw [List.append_nil] at hh
    try simp (maxSteps := 2000000) -implicitDefEqProofs only [hin, bl, tA, List.length_nil, bL_fold, s_alt, s_alt20, s_alt2t, s_alt2f, ↓s_loopi, ↓v_pq, ↓PRE, POST, CORE, Nat.reduceDiv, Nat.reduceMod, Int.reduceLT, Int.reduceLE, Int.reduceToNat, Int.reduceAdd, ↓reduceIte, Nat.reduceEqDiff, Nat.reduceAdd, Nat.reduceMul, Nat.reduceSub, Nat.reduceLeDiff, Nat.reduceLT, reduceCtorEq, if_true, eq_self, forall_const, implies_true]
    rw [hh]
    try simp (maxSteps := 2000000) -implicitDefEqProofs only [↓G57, ↓c102, s_alt, s_alt20, s_alt2t, s_alt2f, ↓s_loopi, ↓v_pq, ↓PRE, POST, CORE, Nat.reduceDiv, Nat.reduceMod, Int.reduceLT, Int.reduceLE, Int.reduceToNat, Int.reduceAdd, ↓reduceIte, Nat.reduceEqDiff, Nat.reduceAdd, Nat.reduceMul, Nat.reduceSub, Nat.reduceLeDiff, Nat.reduceLT, reduceCtorEq, if_true, eq_self, forall_const, implies_true]
    refine ⟨trivial, hdF kind [], rdB_row rfl rfl, by omega, ?_⟩
    try simp (maxSteps := 2000000) -implicitDefEqProofs only [hsum, ↓G57, ↓c58, s_alt, s_alt20, s_alt2t, s_alt2f, ↓s_loopi, ↓v_pq, ↓PRE, POST, CORE, Nat.reduceDiv, Nat.reduceMod, Int.reduceLT, Int.reduceLE, Int.reduceToNat, Int.reduceAdd, ↓reduceIte, Nat.reduceEqDiff, Nat.reduceAdd, Nat.reduceMul, Nat.reduceSub, Nat.reduceLeDiff, Nat.reduceLT, reduceCtorEq, if_true, eq_self, forall_const, implies_true]
    refine ⟨hdF kind [], rdB_row rfl rfl, by omega, smF_i _, ?_⟩
    generalize putF (hdF kind []) (smF (hdF kind [])) 4 = T at hk ⊢
    exact fin_fr T _ 2 rfl hk
  · have hpos : 0 < body.length := by omega
    try simp (maxSteps := 2000000) -implicitDefEqProofs only [hin, bl, b0, bo, tA, tB, hne, hpos, bL_fold, e3, e4, s_alt, s_alt20, s_alt2t, s_alt2f, ↓s_loopi, ↓v_pq, ↓PRE, POST, CORE, Nat.reduceDiv, Nat.reduceMod, Int.reduceLT, Int.reduceLE, Int.reduceToNat, Int.reduceAdd, ↓reduceIte, Nat.reduceEqDiff, Nat.reduceAdd, Nat.reduceMul, Nat.reduceSub, Nat.reduceLeDiff, Nat.reduceLT, reduceCtorEq, if_true, eq_self, forall_const, implies_true]
    refine ⟨⟨by unfold maxLen; omega, by omega⟩, ?_⟩
    try simp (maxSteps := 2000000) -implicitDefEqProofs only [↓G57, ↓c102, s_alt, s_alt20, s_alt2t, s_alt2f, ↓s_loopi, ↓v_pq, ↓PRE, POST, CORE, Nat.reduceDiv, Nat.reduceMod, Int.reduceLT, Int.reduceLE, Int.reduceToNat, Int.reduceAdd, ↓reduceIte, Nat.reduceEqDiff, Nat.reduceAdd, Nat.reduceMul, Nat.reduceSub, Nat.reduceLeDiff, Nat.reduceLT, reduceCtorEq, if_true, eq_self, forall_const, implies_true]
    refine ⟨hdF kind body, rdB_row rfl rfl, by omega, ?_⟩
    try simp (maxSteps := 2000000) -implicitDefEqProofs only [hsum, ↓G57, ↓c58, s_alt, s_alt20, s_alt2t, s_alt2f, ↓s_loopi, ↓v_pq, ↓PRE, POST, CORE, Nat.reduceDiv, Nat.reduceMod, Int.reduceLT, Int.reduceLE, Int.reduceToNat, Int.reduceAdd, ↓reduceIte, Nat.reduceEqDiff, Nat.reduceAdd, Nat.reduceMul, Nat.reduceSub, Nat.reduceLeDiff, Nat.reduceLT, reduceCtorEq, if_true, eq_self, forall_const, implies_true]
    refine ⟨hdF kind body, rdB_row rfl rfl, by omega, smF_i _, ?_⟩
    generalize putF (hdF kind body) (smF (hdF kind body)) 4 = T at hk ⊢
    exact fin_fr T _ 3 rfl hk
theorem pgB_byt (x : Pg) : Byt (pgB x) := by
  unfold pgB
  split
  · intro y hy; simp at hy; omega
  · intro y hy
    rcases List.mem_cons.1 hy with rfl | hy
    · omega
    · exact ((leN_byt _ _).app ((strI_byt _).app ((leN_byt _ _).app ((strI_byt _).app (fun z hz => by simp at hz))))) y hy
theorem bkB_byt (b : Bk) : Byt (bkB b) := by
  unfold bkB
  intro y hy
  rcases List.mem_cons.1 hy with rfl | hy
  · split <;> omega
  · exact ((leN_byt _ _).app ((leN_byt _ _).app (fun z hz => by simp at hz))) y hy
theorem hd_lit {g : Ge} (h : byG g) : hdB g = [g.ch, g.di, g.bl, g.pa] := by
  obtain ⟨h1, h2, h3, h4⟩ := h
  unfold hdB
  rw [leN_1 h1.1 h1.2, leN_1 h2.1 h2.2, leN_1 h3.1 h3.2, leN_1 h4.1 h4.2]
  rfl
theorem bk_lit {b : Bk} (h1 : b.pages.length ≤ 255) (h2 : 0 ≤ b.er) (h3 : b.er < 4294967296) : putF [if b.bad = true then 1 else 0, (b.pages.length : Int)] b.er 4 = bkB b := by
  have e4 := putF_leN (bs := [if b.bad = true then 1 else 0, (b.pages.length : Int)]) (n := 4) (fits4 h2 h3)
  rw [show (4 : Int) = ((4 : Nat) : Int) from rfl, e4]
  unfold bkB
  rw [leN_1 (by omega) (by omega)]
  simp
theorem pg_lit1 {x : Pg} (h : x.torn = true) : [if x.torn = true then (1 : Int) else 0] = pgB x := by
  unfold pgB
  rw [if_pos h, if_pos h]
theorem pg_lit0 {x : Pg} (h : ¬ x.torn = true) (hm : mayPg x = true) : textF (textF [if x.torn = true then 1 else 0] x.beside) x.data = pgB x := by
  have := pg_put0 h hm
  rwa [put1 (by split <;> omega) (by split <;> omega), leN_1 (by split <;> omega) (by split <;> omega), List.nil_append] at this
def c16 [Inp] : Trans := fun args m k => ∃ s g bs, args = [s] ∧ picS m s g bs ∧ mayF g bs = true ∧ k (.row m.length 0 (toldF smF g bs).length 1) (m ++ [⟨true, bL (toldF smF g bs)⟩])
def G16 [Inp] : List CEntry := [⟨57, true, c57⟩, ⟨58, true, c58⟩, ⟨59, true, c59⟩, ⟨60, true, c60⟩]
theorem g16 [Inp] : GOk Try.prog G16 := GOk.cons c57_ok (GOk.cons c58_ok (GOk.cons c59_ok (GOk.cons c60_ok (g0 _))))
theorem c16_ok [I : Inp] : Contract Try.prog 16 true c16 := by
  refine .readFG fn16 (G := fun J => @G16 J) (fun J => @g16 J) _ fun args m k h => ?_
  obtain ⟨s, g, bs, rfl, h1, hm, hk⟩ := h
  refine ⟨by simp, fun J hJ K hK us hus => ?_⟩
  obtain ⟨u, t1, rfl, hk1, rfl⟩ := hus
  obtain ⟨p, c, xs, e1, hxs, hin, hx0⟩ := pic_kn hK h1 hk1
  rw [List.map_cons, e1, List.map_nil]
  have hlx : bs.length = xs.length := by rw [← hxs, List.length_map]
  have hitem : ∀ (i : Nat) (x : Bi), xs[i]? = some x → inpL (plusA p (i * 3)) 3 = some x.cs := fun i x hx => inp_item Bi.len hin rfl hx
  unfold Ge.sv
  obtain ⟨hg, hl64, hbs⟩ := may_all hm
  have hby := chk_by hg
  have hlit := hd_lit hby
  obtain ⟨⟨y1, y2⟩, ⟨y3, y4⟩, ⟨y5, y6⟩, ⟨y7, y8⟩⟩ := hby
  have u8 : ∀ v : Int, 0 ≤ v → v ≤ 255 → IntKind.u8.wrap v = v := fun v h0 h1 => by simp [IntKind.wrap, IntKind.bits, IntKind.signed]; omega
  have v1 := u8 _ y1 y2
  have v2 := u8 _ y3 y4
  have v3 := u8 _ y5 y6
  have v4 := u8 _ y7 y8
  have e0 : outB g bs 0 = frF smF 71 (hdB g) := by unfold outB; simp
  have hdby : Byt (hdB g) := by rw [hlit]; intro z hz; simp at hz; omega
  simp (maxSteps := 2000000) -implicitDefEqProofs only [↓x16, ↓r16, ↓G16, ↓c57, v1, v2, v3, v4, s_alt, s_alt20, s_alt2t, s_alt2f, ↓s_loopi, ↓v_pq, ↓PRE, POST, CORE, Nat.reduceDiv, Nat.reduceMod, Int.reduceLT, Int.reduceLE, Int.reduceToNat, Int.reduceAdd, ↓reduceIte, Nat.reduceEqDiff, Nat.reduceAdd, Nat.reduceMul, Nat.reduceSub, Nat.reduceLeDiff, Nat.reduceLT, reduceCtorEq, if_true, eq_self, forall_const, implies_true]
  refine ⟨71, _, hdB g, rfl, (by rw [hlit]; exact rdB_row rfl rfl), hdby, by omega, by rw [hlit]; simp, ?_⟩
  rw [← e0]
  refine TXi_of (TX_count (@g16 J) xs.length (fun x => [(1, .ptr 0 0), (4, .row 1 0 (outB g bs x).length 1), (35, .v (.slice p xs.length c)), (36, .v (.int .i64 (xs.length : Int))), (37, .v (.int .i64 (x : Int)))]) (fun x => [⟨true, [.v (.int .i64 g.ch), .v (.int .i64 g.di), .v (.int .i64 g.bl), .v (.int .i64 g.pa), .v (.slice p xs.length c)]⟩, ⟨true, bL (outB g bs x)⟩]) (fun x => True) trivial (by refine ⟨[0, 3], by simp [NdL, NdA, oO_cells, oO_own, iL_nil], ?_, ?_, keep0 hJ⟩ <;> simp only [FitM, FitE, ObLe, LeL, Le, List.cons_append, List.nil_append] <;> (try (simp (maxSteps := 2000000) -implicitDefEqProofs only [bL_le, s_alt, s_alt20, s_alt2t, s_alt2f, ↓s_loopi, ↓v_pq, ↓PRE, POST, CORE, Nat.reduceDiv, Nat.reduceMod, Int.reduceLT, Int.reduceLE, Int.reduceToNat, Int.reduceAdd, ↓reduceIte, Nat.reduceEqDiff, Nat.reduceAdd, Nat.reduceMul, Nat.reduceSub, Nat.reduceLeDiff, Nat.reduceLT, reduceCtorEq, if_true, eq_self, forall_const, implies_true])) <;> (try simp only [Sz.Le, Sz.LeL, List.getElem?_cons_zero, List.getElem?_cons_succ]) <;> (try simp)) ?_ ?_)
  · intro x hx _
    obtain ⟨a, ha⟩ : ∃ a, xs[x]? = some a := ⟨_, List.getElem?_eq_getElem hx⟩
    have hb0 : bs[x]? = some a.b := by rw [← hxs, List.getElem?_map, ha]; rfl
    have hbm := List.mem_of_getElem? hb0
    obtain ⟨z1, z2, z3, z4⟩ := hbs a.b hbm
    have f : inpL (plusA p (x * 3)) 3 = some [.bool a.b.bad, .int .i64 a.b.er, .slice a.a a.b.pages.length a.c] := hitem x a ha
    have hina : inpL a.a (a.b.pages.length * 3) = some (rowV Pg.cs a.b.pages) := hx0 a (List.mem_of_getElem? ha)
    have hitem2 : ∀ (i : Nat) (y : Pg), a.b.pages[i]? = some y → inpL (plusA a.a (i * 3)) 3 = some y.cs := fun i y hy => inp_item Pg.len hina rfl hy
    have hp : p.isSome = true := inpL_isSome hin (by omega)
    have i0 : (0 : Int) ≤ (x : Int) := by omega
    have i1 : (x : Int) < (xs.length : Int) := by omega
    have w1 : IntKind.i64.wrap ((x : Int) + 1) = (x : Int) + 1 := Sz.w_64 (by omega) (by omega)
    have hol := outB_len hm x
    have hbk := bk_lit (b := a.b) (by omega) z3 (by omega)
    have hsucc := outB_succ (g := g) hb0
    have hpl := fun y => outP_len hm (x := x) hbm y
    have ep0 : outP g bs x a.b 0 = outB g bs x ++ frF smF 66 (bkB a.b) := by unfold outP; simp
    have eps := fun y (q : Pg) (h : a.b.pages[y]? = some q) => outP_succ (g := g) (bs := bs) (x := x) (b := a.b) h
    rw [hsucc]
    generalize outB g bs x = O at hol ep0 ⊢
    have fl0 : IntKind.u8.wrap (if a.b.bad = true then (1 : Int) else 0) = (if a.b.bad = true then 1 else 0) := by split <;> rfl
    have fl1 : IntKind.u8.wrap (a.b.pages.length : Int) = (a.b.pages.length : Int) := u8 _ (by omega) (by omega)
    simp (maxSteps := 2000000) -implicitDefEqProofs only [f, hp, i0, i1, ↓G16, ↓c59, fl1, s_alt, s_alt20, s_alt2t, s_alt2f, ↓s_loopi, ↓v_pq, ↓PRE, POST, CORE, Nat.reduceDiv, Nat.reduceMod, Int.reduceLT, Int.reduceLE, Int.reduceToNat, Int.reduceAdd, ↓reduceIte, Nat.reduceEqDiff, Nat.reduceAdd, Nat.reduceMul, Nat.reduceSub, Nat.reduceLeDiff, Nat.reduceLT, reduceCtorEq, if_true, eq_self, forall_const, implies_true]
    refine ⟨a.b.bad, rfl, ?_⟩
    rw [fl0]
    try simp (maxSteps := 2000000) -implicitDefEqProofs only [fl0, ↓G16, ↓c58, s_alt, s_alt20, s_alt2t, s_alt2f, ↓s_loopi, ↓v_pq, ↓PRE, POST, CORE, Nat.reduceDiv, Nat.reduceMod, Int.reduceLT, Int.reduceLE, Int.reduceToNat, Int.reduceAdd, ↓reduceIte, Nat.reduceEqDiff, Nat.reduceAdd, Nat.reduceMul, Nat.reduceSub, Nat.reduceLeDiff, Nat.reduceLT, reduceCtorEq, if_true, eq_self, forall_const, implies_true]
    refine ⟨[if a.b.bad = true then 1 else 0, (a.b.pages.length : Int)], rdB_row rfl rfl, by simp, by omega, ?_⟩
    rw [hbk]
    try simp (maxSteps := 2000000) -implicitDefEqProofs only [↓G16, ↓c57, s_alt, s_alt20, s_alt2t, s_alt2f, ↓s_loopi, ↓v_pq, ↓PRE, POST, CORE, Nat.reduceDiv, Nat.reduceMod, Int.reduceLT, Int.reduceLE, Int.reduceToNat, Int.reduceAdd, ↓reduceIte, Nat.reduceEqDiff, Nat.reduceAdd, Nat.reduceMul, Nat.reduceSub, Nat.reduceLeDiff, Nat.reduceLT, reduceCtorEq, if_true, eq_self, forall_const, implies_true]
    refine ⟨66, _, bkB a.b, rfl, rdB_row rfl rfl, bkB_byt _, by omega, by rw [bkB_len]; omega, ?_⟩
    have bF := frF_len smF 66 (bkB a.b)
    rw [bkB_len] at bF
    have e3 : bL O ++ bL (frF smF 66 (bkB a.b)) = bL (outP g bs x a.b 0) := by rw [ep0]; simp [bL]
    have e4 : O.length + (frF smF 66 (bkB a.b)).length = (outP g bs x a.b 0).length := by rw [ep0, List.length_append]
    have hp0 := hpl 0
    generalize frF smF 66 (bkB a.b) = F at bF e3 e4 ⊢
    have b1 := bL_len O
    have b2 := bL_len F
    have b3 := bL_one F
    have t1 : List.take O.length (bL O) = bL O := List.take_of_length_le (by rw [b1]; exact Nat.le_refl _)
    have t2 : List.take F.length (bL F) = bL F := List.take_of_length_le (by rw [b2]; exact Nat.le_refl _)
    have n0 : ¬ F.length = 0 := by omega
    have n1 : 0 < F.length := by omega
    simp (maxSteps := 2000000) -implicitDefEqProofs only [b1, b2, b3, t1, t2, n0, n1, e3, e4, s_alt, s_alt20, s_alt2t, s_alt2f, ↓s_loopi, ↓v_pq, ↓PRE, POST, CORE, Nat.reduceDiv, Nat.reduceMod, Int.reduceLT, Int.reduceLE, Int.reduceToNat, Int.reduceAdd, ↓reduceIte, Nat.reduceEqDiff, Nat.reduceAdd, Nat.reduceMul, Nat.reduceSub, Nat.reduceLeDiff, Nat.reduceLT, reduceCtorEq, if_true, eq_self, forall_const, implies_true]
    refine ⟨⟨by unfold maxLen; omega, by omega⟩, ?_⟩
    refine TXi_of (TX_count (@g16 J) a.b.pages.length (fun y => [(1, .ptr 0 0), (4, .row 1 0 (outP g bs x a.b y).length 1), (35, .v (.slice p xs.length c)), (36, .v (.int .i64 (xs.length : Int))), (37, .v (.int .i64 (x : Int))), (61, .v (.slice a.a a.b.pages.length a.c)), (62, .v (.int .i64 (a.b.pages.length : Int))), (63, .v (.int .i64 (y : Int)))]) (fun y => [⟨true, [.v (.int .i64 g.ch), .v (.int .i64 g.di), .v (.int .i64 g.bl), .v (.int .i64 g.pa), .v (.slice p xs.length c)]⟩, ⟨true, bL (outP g bs x a.b y)⟩]) (fun y => True) trivial (by refine ⟨[0, 6], by simp [NdL, NdA, oO_cells, oO_own, iL_nil], ?_, ?_, keep0 hJ⟩ <;> simp only [FitM, FitE, ObLe, LeL, Le, List.cons_append, List.nil_append] <;> (try (simp (maxSteps := 2000000) -implicitDefEqProofs only [bL_le, s_alt, s_alt20, s_alt2t, s_alt2f, ↓s_loopi, ↓v_pq, ↓PRE, POST, CORE, Nat.reduceDiv, Nat.reduceMod, Int.reduceLT, Int.reduceLE, Int.reduceToNat, Int.reduceAdd, ↓reduceIte, Nat.reduceEqDiff, Nat.reduceAdd, Nat.reduceMul, Nat.reduceSub, Nat.reduceLeDiff, Nat.reduceLT, reduceCtorEq, if_true, eq_self, forall_const, implies_true])) <;> (try simp only [Sz.Le, Sz.LeL, List.getElem?_cons_zero, List.getElem?_cons_succ]) <;> (try simp)) ?_ ?_)
    · intro y hy _
      obtain ⟨q, hq⟩ : ∃ q, a.b.pages[y]? = some q := ⟨_, List.getElem?_eq_getElem hy⟩
      have hmq := List.all_eq_true.1 z2 q (List.mem_of_getElem? hq)
      have f2 : inpL (plusA a.a (y * 3)) 3 = some [.bool q.torn, .string q.beside, .string q.data] := hitem2 y q hq
      have hp2 : a.a.isSome = true := inpL_isSome hina (by omega)
      have j0 : (0 : Int) ≤ (y : Int) := by omega
      have j1 : (y : Int) < (a.b.pages.length : Int) := by omega
      have w2 : IntKind.i64.wrap ((y : Int) + 1) = (y : Int) + 1 := Sz.w_64 (by omega) (by omega)
      have hol2 := hpl y
      have hol3 := hpl (y + 1)
      have hpgl := pgB_len hmq
      have ep := eps y q hq
      have gl0 : IntKind.u8.wrap (if q.torn = true then (1 : Int) else 0) = (if q.torn = true then 1 else 0) := by split <;> rfl
      have e3 : bL (outP g bs x a.b y) ++ bL (frF smF 80 (pgB q)) = bL (outP g bs x a.b (y + 1)) := by rw [ep]; simp [bL]
      have e4 : (outP g bs x a.b y).length + (frF smF 80 (pgB q)).length = (outP g bs x a.b (y + 1)).length := by rw [ep, List.length_append]
      have bF := frF_len smF 80 (pgB q)
      generalize outP g bs x a.b (y + 1) = O3 at hol3 e3 e4 ⊢
      generalize outP g bs x a.b y = O2 at hol2 e3 e4 ⊢
      simp (maxSteps := 2000000) -implicitDefEqProofs only [f2, hp2, j0, j1, ↓G16, ↓c59, s_alt, s_alt20, s_alt2t, s_alt2f, ↓s_loopi, ↓v_pq, ↓PRE, POST, CORE, Nat.reduceDiv, Nat.reduceMod, Int.reduceLT, Int.reduceLE, Int.reduceToNat, Int.reduceAdd, ↓reduceIte, Nat.reduceEqDiff, Nat.reduceAdd, Nat.reduceMul, Nat.reduceSub, Nat.reduceLeDiff, Nat.reduceLT, reduceCtorEq, if_true, eq_self, forall_const, implies_true]
      refine ⟨q.torn, rfl, ?_⟩
      rw [gl0]
      by_cases ht : q.torn = true
      · have e := pg_lit1 ht
        simp (maxSteps := 2000000) -implicitDefEqProofs only [ht, Bool.not_true, Bool.false_eq_true, ↓G16, ↓c57, s_alt, s_alt20, s_alt2t, s_alt2f, ↓s_loopi, ↓v_pq, ↓PRE, POST, CORE, Nat.reduceDiv, Nat.reduceMod, Int.reduceLT, Int.reduceLE, Int.reduceToNat, Int.reduceAdd, ↓reduceIte, Nat.reduceEqDiff, Nat.reduceAdd, Nat.reduceMul, Nat.reduceSub, Nat.reduceLeDiff, Nat.reduceLT, reduceCtorEq, if_true, eq_self, forall_const, implies_true]
        rw [if_pos ht] at e
        refine ⟨80, _, pgB q, rfl, (by rw [← e]; exact rdB_row rfl rfl), pgB_byt _, by omega, by omega, ?_⟩
        generalize frF smF 80 (pgB q) = F at bF e3 e4 ⊢
        have b1 := bL_len O2
        have b2 := bL_len F
        have b3 := bL_one F
        have t1 : List.take O2.length (bL O2) = bL O2 := List.take_of_length_le (by rw [b1]; exact Nat.le_refl _)
        have t2 : List.take F.length (bL F) = bL F := List.take_of_length_le (by rw [b2]; exact Nat.le_refl _)
        have n0 : ¬ F.length = 0 := by omega
        have n1 : 0 < F.length := by omega
        simp (maxSteps := 2000000) -implicitDefEqProofs only [b1, b2, b3, t1, t2, n0, n1, e3, e4, w2, s_alt, s_alt20, s_alt2t, s_alt2f, ↓s_loopi, ↓v_pq, ↓PRE, POST, CORE, Nat.reduceDiv, Nat.reduceMod, Int.reduceLT, Int.reduceLE, Int.reduceToNat, Int.reduceAdd, ↓reduceIte, Nat.reduceEqDiff, Nat.reduceAdd, Nat.reduceMul, Nat.reduceSub, Nat.reduceLeDiff, Nat.reduceLT, reduceCtorEq, if_true, eq_self, forall_const, implies_true]
        exact ⟨⟨by unfold maxLen; omega, by omega⟩, (by refine ⟨[0, 5], by simp [NdL, NdA, oO_cells, oO_own, iL_nil], ?_, ?_, keep0 hJ⟩ <;> simp only [FitM, FitE, ObLe, LeL, Le, List.cons_append, List.nil_append] <;> (try (simp (maxSteps := 2000000) -implicitDefEqProofs only [bL_le, s_alt, s_alt20, s_alt2t, s_alt2f, ↓s_loopi, ↓v_pq, ↓PRE, POST, CORE, Nat.reduceDiv, Nat.reduceMod, Int.reduceLT, Int.reduceLE, Int.reduceToNat, Int.reduceAdd, ↓reduceIte, Nat.reduceEqDiff, Nat.reduceAdd, Nat.reduceMul, Nat.reduceSub, Nat.reduceLeDiff, Nat.reduceLT, reduceCtorEq, if_true, eq_self, forall_const, implies_true])) <;> (try simp only [Sz.Le, Sz.LeL, List.getElem?_cons_zero, List.getElem?_cons_succ]) <;> (try simp))⟩
      · have e := pg_lit0 ht hmq
        have ht' : q.torn = false := by simpa using ht
        have hsz : q.beside.size ≤ 32 ∧ q.data.size ≤ 160 := by
          unfold mayPg at hmq
          rw [if_neg ht] at hmq
          simpa using hmq
        rw [if_neg ht] at e
        have s2 : (textF [(0 : Int)] q.beside).length = 3 + q.beside.size := by rw [text_put (by omega), List.length_append, List.length_append, leN_len, strI_len]; simp; omega
        simp (maxSteps := 2000000) -implicitDefEqProofs only [ht', Bool.not_false, Bool.false_eq_true, ↓G16, ↓c60, s_alt, s_alt20, s_alt2t, s_alt2f, ↓s_loopi, ↓v_pq, ↓PRE, POST, CORE, Nat.reduceDiv, Nat.reduceMod, Int.reduceLT, Int.reduceLE, Int.reduceToNat, Int.reduceAdd, ↓reduceIte, Nat.reduceEqDiff, Nat.reduceAdd, Nat.reduceMul, Nat.reduceSub, Nat.reduceLeDiff, Nat.reduceLT, reduceCtorEq, if_true, eq_self, forall_const, implies_true]
        refine ⟨[0], rdB_row rfl rfl, by simp, by omega, ?_⟩
        generalize textF [(0 : Int)] q.beside = B2 at e s2 ⊢
        try simp (maxSteps := 2000000) -implicitDefEqProofs only [↓G16, ↓c60, s_alt, s_alt20, s_alt2t, s_alt2f, ↓s_loopi, ↓v_pq, ↓PRE, POST, CORE, Nat.reduceDiv, Nat.reduceMod, Int.reduceLT, Int.reduceLE, Int.reduceToNat, Int.reduceAdd, ↓reduceIte, Nat.reduceEqDiff, Nat.reduceAdd, Nat.reduceMul, Nat.reduceSub, Nat.reduceLeDiff, Nat.reduceLT, reduceCtorEq, if_true, eq_self, forall_const, implies_true]
        refine ⟨B2, rdB_row rfl rfl, by omega, by omega, ?_⟩
        rw [e]
        try simp (maxSteps := 2000000) -implicitDefEqProofs only [↓G16, ↓c57, s_alt, s_alt20, s_alt2t, s_alt2f, ↓s_loopi, ↓v_pq, ↓PRE, POST, CORE, Nat.reduceDiv, Nat.reduceMod, Int.reduceLT, Int.reduceLE, Int.reduceToNat, Int.reduceAdd, ↓reduceIte, Nat.reduceEqDiff, Nat.reduceAdd, Nat.reduceMul, Nat.reduceSub, Nat.reduceLeDiff, Nat.reduceLT, reduceCtorEq, if_true, eq_self, forall_const, implies_true]
        refine ⟨80, _, pgB q, rfl, rdB_row rfl rfl, pgB_byt _, by omega, by omega, ?_⟩
        generalize frF smF 80 (pgB q) = F at bF e3 e4 ⊢
        have b1 := bL_len O2
        have b2 := bL_len F
        have b3 := bL_one F
        have t1 : List.take O2.length (bL O2) = bL O2 := List.take_of_length_le (by rw [b1]; exact Nat.le_refl _)
        have t2 : List.take F.length (bL F) = bL F := List.take_of_length_le (by rw [b2]; exact Nat.le_refl _)
        have n0 : ¬ F.length = 0 := by omega
        have n1 : 0 < F.length := by omega
        simp (maxSteps := 2000000) -implicitDefEqProofs only [b1, b2, b3, t1, t2, n0, n1, e3, e4, w2, s_alt, s_alt20, s_alt2t, s_alt2f, ↓s_loopi, ↓v_pq, ↓PRE, POST, CORE, Nat.reduceDiv, Nat.reduceMod, Int.reduceLT, Int.reduceLE, Int.reduceToNat, Int.reduceAdd, ↓reduceIte, Nat.reduceEqDiff, Nat.reduceAdd, Nat.reduceMul, Nat.reduceSub, Nat.reduceLeDiff, Nat.reduceLT, reduceCtorEq, if_true, eq_self, forall_const, implies_true]
        exact ⟨⟨by unfold maxLen; omega, by omega⟩, (by refine ⟨[0, 7], by simp [NdL, NdA, oO_cells, oO_own, iL_nil], ?_, ?_, keep0 hJ⟩ <;> simp only [FitM, FitE, ObLe, LeL, Le, List.cons_append, List.nil_append] <;> (try (simp (maxSteps := 2000000) -implicitDefEqProofs only [bL_le, s_alt, s_alt20, s_alt2t, s_alt2f, ↓s_loopi, ↓v_pq, ↓PRE, POST, CORE, Nat.reduceDiv, Nat.reduceMod, Int.reduceLT, Int.reduceLE, Int.reduceToNat, Int.reduceAdd, ↓reduceIte, Nat.reduceEqDiff, Nat.reduceAdd, Nat.reduceMul, Nat.reduceSub, Nat.reduceLeDiff, Nat.reduceLT, reduceCtorEq, if_true, eq_self, forall_const, implies_true])) <;> (try simp only [Sz.Le, Sz.LeL, List.getElem?_cons_zero, List.getElem?_cons_succ]) <;> (try simp))⟩
    · intro _
      have j1 : ¬ (a.b.pages.length : Int) < (a.b.pages.length : Int) := by omega
      simp (maxSteps := 2000000) -implicitDefEqProofs only [j1, w1, s_alt, s_alt20, s_alt2t, s_alt2f, ↓s_loopi, ↓v_pq, ↓PRE, POST, CORE, Nat.reduceDiv, Nat.reduceMod, Int.reduceLT, Int.reduceLE, Int.reduceToNat, Int.reduceAdd, ↓reduceIte, Nat.reduceEqDiff, Nat.reduceAdd, Nat.reduceMul, Nat.reduceSub, Nat.reduceLeDiff, Nat.reduceLT, reduceCtorEq, if_true, eq_self, forall_const, implies_true]
      exact (by refine ⟨[0, 1], by simp [NdL, NdA, oO_cells, oO_own, iL_nil], ?_, ?_, keep0 hJ⟩ <;> simp only [FitM, FitE, ObLe, LeL, Le, List.cons_append, List.nil_append] <;> (try (simp (maxSteps := 2000000) -implicitDefEqProofs only [bL_le, s_alt, s_alt20, s_alt2t, s_alt2f, ↓s_loopi, ↓v_pq, ↓PRE, POST, CORE, Nat.reduceDiv, Nat.reduceMod, Int.reduceLT, Int.reduceLE, Int.reduceToNat, Int.reduceAdd, ↓reduceIte, Nat.reduceEqDiff, Nat.reduceAdd, Nat.reduceMul, Nat.reduceSub, Nat.reduceLeDiff, Nat.reduceLT, reduceCtorEq, if_true, eq_self, forall_const, implies_true])) <;> (try simp only [Sz.Le, Sz.LeL, List.getElem?_cons_zero, List.getElem?_cons_succ]) <;> (try simp))
  · intro _
    have i1 : ¬ (bs.length : Int) < (bs.length : Int) := by omega
    rw [← hlx, outB_end]
    simp (maxSteps := 2000000) -implicitDefEqProofs only [i1, s_alt, s_alt20, s_alt2t, s_alt2f, ↓s_loopi, ↓v_pq, ↓PRE, POST, CORE, Nat.reduceDiv, Nat.reduceMod, Int.reduceLT, Int.reduceLE, Int.reduceToNat, Int.reduceAdd, ↓reduceIte, Nat.reduceEqDiff, Nat.reduceAdd, Nat.reduceMul, Nat.reduceSub, Nat.reduceLeDiff, Nat.reduceLT, reduceCtorEq, if_true, eq_self, forall_const, implies_true]
    generalize toldF smF g bs = T at hk ⊢
    exact fin_own T _ 1 rfl hk
end Go.Proofs.Ytibefgdjijmncaa
end
section
namespace Go.Proofs.Ytibefgdjijmncaa
open Go.RowKit Sz
set_option maxHeartbeats 4000000
set_option maxRecDepth 20000
-- (*almshouse/image.reader).page (1 parameters)
def x101 : XC := (.seq (.tree (.seq ⟨some 2, none, (.alloc [(.v (.bool false)), (.v (.string ⟨#[]⟩)), (.v (.string ⟨#[]⟩))])⟩
 .done))
 (.seq (.tree (.seq ⟨some 3, none, (.ofA (.mv (.tmp 0)))⟩
 (.seq ⟨some 4, none, (.ofA (.mkfn 125 [(.tmp 2)]))⟩
 (.seq ⟨some 5, none, (.call (.cst (.fn 50 [])) [(.tmp 3), (.cst (.v (.int .i64 80))), (.tmp 4)])⟩
 .done))))
 (.seq (.tree (.seq ⟨some 6, none, (.ofA (.load (some 3) (.tmp 2)))⟩
 (.seq ⟨none, none, (.store 3 (.tmp 2) (.tmp 6))⟩
 .done)))
 .ret)))
def r101 : List XR := [.cell 2 (some 3)]
theorem fn101 : FnX Try.prog 101 [50, 51, 52, 54, 56, 95, 97, 98, 99, 100, 101, 125, 126] 7 x101 r101 := ⟨_, Try.func101, by kernel_rfl, by kernel_rfl, by kernel_rfl, by kernel_rfl⟩
-- (*almshouse/image.reader).block (1 parameters)
def x56 : XC := (.seq (.tree (.seq ⟨some 2, none, (.alloc [(.v (.bool false)), (.v (.int .i64 0)), (.v (.slice none 0 0))])⟩
 .done))
 (.seq (.tree (.seq ⟨some 3, none, (.alloc [(.v (.int .i64 0))])⟩
 (.seq ⟨none, none, (.store 1 (.tmp 3) (.cst (.v (.int .i64 0))))⟩
 .done)))
 (.seq (.tree (.seq ⟨some 4, none, (.ofA (.mv (.tmp 0)))⟩
 (.seq ⟨some 5, none, (.ofA (.mkfn 99 [(.tmp 2), (.tmp 3)]))⟩
 (.seq ⟨some 6, none, (.call (.cst (.fn 50 [])) [(.tmp 4), (.cst (.v (.int .i64 66))), (.tmp 5)])⟩
 .done))))
 (.seq (.seq (.tree (.seq ⟨some 7, none, (.ofA (.load none (.tmp 3)))⟩
 (.seq ⟨some 8, none, (.ofA (.mv (.cst (.v (.int .i64 0)))))⟩
 .done)))
 (.block 0 (.loop (.seq (.tree (.seq ⟨some 9, none, (.ofA (.bin .lss (.tmp 8) (.tmp 7)))⟩
 .done))
 (.seq (.cond (.tmp 9)
 .skip
 (.exit 0))
 (.seq (.block 1 (.seq (.tree (.seq ⟨some 10, none, (.ofA (.mv (.tmp 0)))⟩
 (.seq ⟨some 11, none, (.ofA (.nilc (.tmp 10)))⟩
 (.seq ⟨some 12, none, (.ofA (.faddr 1 (.tmp 11)))⟩
 (.seq ⟨some 13, none, (.ofA (.load none (.tmp 12)))⟩
 (.seq ⟨some 14, none, (.ofA (.bin .eql (.tmp 13) (.cst (.v (.int .i64 0)))))⟩
 .done))))))
 (.cond (.tmp 14)
 (.tree (.take ⟨some 15, none, (.ofA (.faddr 2 (.tmp 2)))⟩
 (.take ⟨some 17, none, (.ofA (.mv (.tmp 0)))⟩
 (.alt [true, false] [(⟨some 16, none, (.ofA (.load none (.tmp 15)))⟩,
 (.alt [false] [(⟨some 18, none, (.call (.cst (.fn 101 [])) [(.tmp 17)])⟩,
 (.alt [true] [(⟨some 19, none, (.buildSl 3 1 [(.v (.bool false)), (.v (.string ⟨#[]⟩)), (.v (.string ⟨#[]⟩))] [(0, 3, (.tmp 18))])⟩,
 (.alt [false] [(⟨some 20, none, (.app 3 40 (.tmp 16) (.tmp 19))⟩,
 (.take ⟨some 21, none, (.ofA (.faddr 2 (.tmp 2)))⟩
 (.alt [false] [(⟨none, none, (.store 1 (.tmp 21) (.tmp 20))⟩,
 .done)])))]))]))])), (⟨some 18, none, (.call (.cst (.fn 101 [])) [(.tmp 17)])⟩,
 (.take ⟨some 16, none, (.ofA (.load none (.tmp 15)))⟩
 (.alt [true] [(⟨some 19, none, (.buildSl 3 1 [(.v (.bool false)), (.v (.string ⟨#[]⟩)), (.v (.string ⟨#[]⟩))] [(0, 3, (.tmp 18))])⟩,
 (.alt [false] [(⟨some 20, none, (.app 3 40 (.tmp 16) (.tmp 19))⟩,
 (.take ⟨some 21, none, (.ofA (.faddr 2 (.tmp 2)))⟩
 (.alt [false] [(⟨none, none, (.store 1 (.tmp 21) (.tmp 20))⟩,
 .done)])))]))])))]))))
 .skip)))
 (.tree (.seq ⟨some 22, none, (.ofA (.bin .add (.tmp 8) (.cst (.v (.int .i64 1)))))⟩
 (.seq ⟨some 8, none, (.ofA (.mv (.tmp 22)))⟩
 .done)))))))))
 (.seq (.tree (.seq ⟨some 23, none, (.ofA (.load (some 3) (.tmp 2)))⟩
 (.seq ⟨none, none, (.store 3 (.tmp 2) (.tmp 23))⟩
 .done)))
 .ret)))))
def r56 : List XR := [.cell 2 (some 3)]
theorem fn56 : FnX Try.prog 56 [50, 51, 52, 54, 56, 95, 97, 98, 99, 100, 101, 125, 126] 24 x56 r56 := ⟨_, Try.func56, by kernel_rfl, by kernel_rfl, by kernel_rfl, by kernel_rfl⟩
def nxP (s : RS) : Pg × RS := nextF smF 80 decPg noPg s
def G101 [Inp] : List CEntry := [⟨50, false, c50p⟩]
theorem g101 [Inp] : GOk Try.prog G101 := GOk.cons c50p_ok (g0 _)
def c101 [Inp] : Trans := fun args m k => ∃ (j : Nat) (p : Option Addr) (c : Nat) (s : RS), args = [.ptr j 0] ∧ m[j]? = some (rdO (.v (.slice p s.1.length c)) s.2) ∧ Fr p c s.1 ∧
  ∀ (p2 : Option Addr) (c2 : Nat), Rl p c s.1 p2 c2 (nxP s).2.1 → k (.agg ((nxP s).1.cs.map .v)) (m.set j (rdO (.v (.slice p2 (nxP s).2.1.length c2)) (nxP s).2.2))
theorem c101_ok [Inp] : Contract Try.prog 101 false c101 := by
  refine .methN fn101 (G := fun J => @G101 J) (fun J => @g101 J) _ fun args m k h => ?_
  unfold c101 at h
  obtain ⟨j, p, c, s, rfl, hm, hf, hk⟩ := h
  refine ⟨j, _, rfl, hm, rfl, by simp, fun J hJ hin Q hQ => ?_⟩
  simp (maxSteps := 2000000) -implicitDefEqProofs only [↓x101, ↓r101, ↓G101, ↓c50p, s_alt, s_alt20, s_alt2t, s_alt2f, ↓s_loopi, ↓v_pq, ↓PRE, POST, CORE, Nat.reduceDiv, Nat.reduceMod, Int.reduceLT, Int.reduceLE, Int.reduceToNat, Int.reduceAdd, ↓reduceIte, Nat.reduceEqDiff, Nat.reduceAdd, Nat.reduceMul, Nat.reduceSub, Nat.reduceLeDiff, Nat.reduceLT, reduceCtorEq, if_true, eq_self, forall_const, implies_true]
  refine ⟨p, c, s, rfl, ⟨hf.1, hin _ _ _ hf.2.1, hf.2.2⟩, fun p2 c2 T hr => ?_⟩
  have hk := hk p2 c2 hr
  refine ⟨Nat.le_refl 3, ⟨rfl, rfl, Nat.le_refl 3, rfl, rfl⟩, Nat.le_refl 3, ?_⟩
  refine hQ [.v (.slice p2 (nxP s).2.1.length c2), .v (.int .i64 (nxP s).2.2)] [] (.agg ((nxP s).1.cs.map .v)) [] _ _ rfl (by simp [NdL, NdA]) ?_ ?_ (by simp) ?_
  · simp [FitM, ObLe, LeL, Le, nxP]
  · simp only [SV.up, upL_v, Le]
    exact LeL_plain _ (plainL_v _)
  · simpa only [SV.up, upL_v, List.map_nil, List.append_nil] using hk
end Go.Proofs.Ytibefgdjijmncaa
end
section
namespace Go.Proofs.Ytibefgdjijmncaa
open Go.RowKit Sz
set_option maxHeartbeats 4000000
set_option maxRecDepth 20000
def G56 [Inp] : List CEntry := [⟨50, false, c50b⟩, ⟨101, false, c101⟩]
theorem g56 [Inp] : GOk Try.prog G56 := GOk.cons c50b_ok (GOk.cons c101_ok (g0 _))
def pgC (ps : List Pg) : List SV := (rowV Pg.cs ps).map .v
@[simp] theorem pgC_nil : pgC [] = [] := rfl
def nxB (s : RS) : (Bool × Int × Int) × RS := nextF smF 66 decBk (false, 0, 0) s
def c56 [Inp] : Trans := fun args m k => ∃ (j : Nat) (p : Option Addr) (c : Nat) (s : RS), args = [.ptr j 0] ∧ m[j]? = some (rdO (.v (.slice p s.1.length c)) s.2) ∧ Fr p c s.1 ∧
  ∀ (p2 : Option Addr) (c2 : Nat), Rl p c s.1 p2 c2 (blockF smF s).2.1 → k (.agg [.v (.bool (blockF smF s).1.bad), .v (.int .i64 (blockF smF s).1.er), oV m.length 3 (blockF smF s).1.pages.length]) (m.set j (rdO (.v (.slice p2 (blockF smF s).2.1.length c2)) (blockF smF s).2.2) ++ (if (blockF smF s).1.pages = [] then [] else [⟨true, pgC (blockF smF s).1.pages⟩]))
theorem nxB_cnt {s : RS} (hb : Byt s.1) : 0 ≤ (nxB s).1.2.1 ∧ (nxB s).1.2.1 ≤ 255 := by
  unfold nxB nextF
  split
  · split
    · simp
    · rename_i k body size ho
      obtain ⟨_, _, _, _, _, hB, _⟩ := openF_ok smF hb ho
      have : Byt (flagR (body, 0)).2.1 := by
        unfold flagR numR takeR failR
        simp only [if_true]
        split <;> split <;> simp only <;> first | exact hB | exact hB.drop _ | (split <;> first | exact hB | exact hB.drop _)
      exact numR_byte this
  · simp
theorem pgC_le {g : List Nat} {ps : List Pg} : LeL g (pgC ps) (pgC ps) = True := eq_true (LeL_plain g (plainL_v _))
theorem pgC_snoc {ps : List Pg} {q : Pg} : pgC (ps ++ [q]) = pgC ps ++ [.v (.bool q.torn), .v (.string q.beside), .v (.string q.data)] := by simp [pgC, rowV, Pg.cs]
theorem oO_pgs {ps : List Pg} {q : Pg} : oO (pgC (ps ++ [q])) = ⟨true, pgC (ps ++ [q])⟩ := by rw [pgC_snoc]; exact oO_app
theorem le_v {g : List Nat} {x : Value} : Le g (.v x) (.v x) = True := by simp [Le]
theorem le_row4 {n : Nat} : Le [0, 1, 4] (.row 2 0 n 3) (.row 4 0 n 3) = True := by simp [Le]
structure St56 where
  p : Option Addr
  c : Nat
  ps : List Pg
  s : RS
theorem c56_ok [Inp] : Contract Try.prog 56 false c56 := by
  refine .methN fn56 (G := fun J => @G56 J) (fun J => @g56 J) _ fun args m k h => ?_
  unfold c56 at h
  obtain ⟨j, p, c, s, rfl, hm, hf, hk⟩ := h
  refine ⟨j, _, rfl, hm, rfl, by simp, fun J hJ hin Q hQ => ?_⟩
  have hfJ : @Fr J p c s.1 := ⟨hf.1, hin _ _ _ hf.2.1, hf.2.2⟩
  simp (maxSteps := 2000000) -implicitDefEqProofs only [↓x56, ↓r56, ↓G56, ↓c50b, over, s_alt, s_alt20, s_alt2t, s_alt2f, ↓s_loopi, ↓v_pq, ↓PRE, POST, CORE, Nat.reduceDiv, Nat.reduceMod, Int.reduceLT, Int.reduceLE, Int.reduceToNat, Int.reduceAdd, ↓reduceIte, Nat.reduceEqDiff, Nat.reduceAdd, Nat.reduceMul, Nat.reduceSub, Nat.reduceLeDiff, Nat.reduceLT, reduceCtorEq, if_true, eq_self, forall_const, implies_true]
  refine ⟨p, c, s, rfl, hfJ, fun p2 c2 T hr => ?_⟩
  have hN := nxB_cnt (s := s) hfJ.2.2.2
  have eB : blockF smF s = (⟨(nxB s).1.1, (nxB s).1.2.2, (pagesF smF (nxB s).1.2.1.toNat [] (nxB s).2).1⟩, (pagesF smF (nxB s).1.2.1.toNat [] (nxB s).2).2) := rfl
  rw [eB] at hk
  change Rl p c s.1 p2 c2 (nxB s).2.1 at hr
  rw [show nextF smF 66 decBk (false, 0, 0) s = nxB s from rfl]
  generalize nxB s = B at hk hr hN ⊢
  obtain ⟨⟨bad, cnt, er⟩, s1⟩ := B
  simp only at hk hr hN
  obtain ⟨N, rfl⟩ := Int.eq_ofNat_of_zero_le hN.1
  rw [Int.toNat_natCast] at hk
  simp (maxSteps := 2000000) -implicitDefEqProofs only [inO, bkO, s_alt, s_alt20, s_alt2t, s_alt2f, ↓s_loopi, ↓v_pq, ↓PRE, POST, CORE, Nat.reduceDiv, Nat.reduceMod, Int.reduceLT, Int.reduceLE, Int.reduceToNat, Int.reduceAdd, ↓reduceIte, Nat.reduceEqDiff, Nat.reduceAdd, Nat.reduceMul, Nat.reduceSub, Nat.reduceLeDiff, Nat.reduceLT, reduceCtorEq, if_true, eq_self, forall_const, implies_true]
  refine TXi_of (TX_countS (@g56 J) N (σ := St56) (fun x st => [(0, .ptr 0 0), (2, .ptr 1 0), (7, .v (.int .i64 (N : Int))), (8, .v (.int .i64 (x : Int)))])
    (fun x st => [rdO (.v (.slice st.p st.s.1.length st.c)) st.s.2, (⟨true, [.v (.bool bad), .v (.int .i64 er), oV 2 3 st.ps.length]⟩ : SObj), oO (pgC st.ps)])
    (fun x st => pagesF smF (N - x) st.ps st.s = pagesF smF N [] s1 ∧ Rl p c s.1 st.p st.c st.s.1 ∧ st.ps.length ≤ x) ⟨p2, c2, [], s1⟩ ⟨rfl, hr, by simp⟩ (by refine ⟨[0, 1, 2], by simp [NdL, NdA, oO_cells, oO_own, iL_nil], ?_, ?_, keep1 hJ rfl⟩ <;> simp only [FitM, FitE, ObLe, LeL, Le, List.cons_append, List.nil_append] <;> (try (simp (maxSteps := 2000000) -implicitDefEqProofs only [bkO, pgC_nil, oO_nil, oV_0, le_v, or_true, Sz.extLe_no, s_alt, s_alt20, s_alt2t, s_alt2f, ↓s_loopi, ↓v_pq, ↓PRE, POST, CORE, Nat.reduceDiv, Nat.reduceMod, Int.reduceLT, Int.reduceLE, Int.reduceToNat, Int.reduceAdd, ↓reduceIte, Nat.reduceEqDiff, Nat.reduceAdd, Nat.reduceMul, Nat.reduceSub, Nat.reduceLeDiff, Nat.reduceLT, reduceCtorEq, if_true, eq_self, forall_const, implies_true])) <;> (try simp only [Sz.Le, Sz.LeL, List.getElem?_cons_zero, List.getElem?_cons_succ]) <;> (try simp)) ?_ ?_)
  · intro x st hx hI
    obtain ⟨sp, sc, ps, s2⟩ := st
    obtain ⟨i1, i2, i3⟩ := hI
    simp only at i1 i2 i3
    have j1 : decide ((x : Int) < (N : Int)) = true := decide_eq_true (by omega)
    have w1 : IntKind.i64.wrap ((x : Int) + 1) = (x : Int) + 1 := Sz.w_64 (by omega) (by omega)
    have eN : N - x = (N - (x + 1)) + 1 := by omega
    rw [eN] at i1
    by_cases he : s2.2 = 0
    · have d1 : (s2.2 == 0) = true := by simpa using he
      have i1 : pagesF smF (N - (x + 1)) (ps ++ [(nxP s2).1]) (nxP s2).2 = pagesF smF N [] s1 := by rw [← i1]; exact (if_pos he).symm
      simp (maxSteps := 2000000) -implicitDefEqProofs only [j1, d1, bkO, ↓G56, ↓c101, s_alt, s_alt20, s_alt2t, s_alt2f, ↓s_loopi, ↓v_pq, ↓PRE, POST, CORE, Nat.reduceDiv, Nat.reduceMod, Int.reduceLT, Int.reduceLE, Int.reduceToNat, Int.reduceAdd, ↓reduceIte, Nat.reduceEqDiff, Nat.reduceAdd, Nat.reduceMul, Nat.reduceSub, Nat.reduceLeDiff, Nat.reduceLT, reduceCtorEq, if_true, eq_self, forall_const, implies_true]
      have hl : (pgC ps).length = ps.length * 3 := by unfold pgC; rw [List.length_map, rowV_len Pg.len]
      have hps : ps.length ≤ 255 := by omega
      refine ⟨?_, ?_⟩ <;> (refine ⟨0, sp, sc, s2, rfl, rfl, i2 J hfJ, fun p3 c3 hr3 => ?_⟩)
      · simp (maxSteps := 2000000) -implicitDefEqProofs only [o_sl, o_grows, o_kill, o_len, o_cap, o_isl, o_le, o_cells, o_one, oOk_c, oOk_o, oO_cells, oO_own, oV_s, oV_0, oO_nil, oO_iL, iL_nil, iL_snoc, List.length_append, Pg.cs, hl, w1, s_alt, s_alt20, s_alt2t, s_alt2f, ↓s_loopi, ↓v_pq, ↓PRE, POST, CORE, Nat.reduceDiv, Nat.reduceMod, Int.reduceLT, Int.reduceLE, Int.reduceToNat, Int.reduceAdd, ↓reduceIte, Nat.reduceEqDiff, Nat.reduceAdd, Nat.reduceMul, Nat.reduceSub, Nat.reduceLeDiff, Nat.reduceLT, reduceCtorEq, if_true, eq_self, forall_const, implies_true]
        rw [← pgC_snoc]
        exact ⟨⟨by unfold maxLen; omega, by omega⟩, ⟨p3, c3, ps ++ [(nxP s2).1], (nxP s2).2⟩, ⟨i1, i2.trans hr3, by simp only [List.length_append, List.length_cons, List.length_nil]; omega⟩, (by refine ⟨[0, 1, 4], by simp [NdL, NdA, oO_cells, oO_own, iL_nil], ?_, ?_, keep1 hJ rfl⟩ <;> simp only [FitM, FitE, ObLe, LeL, Le, List.cons_append, List.nil_append] <;> (try (simp (maxSteps := 2000000) -implicitDefEqProofs only [o_sl, o_grows, o_kill, o_len, o_cap, o_isl, o_le, o_cells, o_one, oOk_c, oOk_o, oO_cells, oO_own, oV_s, oV_0, oO_nil, oO_iL, iL_nil, iL_snoc, List.length_append, oO_pgs, extO, extO2, or_true, pgC_le, le_v, le_row4, Sz.extLe_no, Int.natCast_add, Int.natCast_one, List.length_cons, List.length_nil, s_alt, s_alt20, s_alt2t, s_alt2f, ↓s_loopi, ↓v_pq, ↓PRE, POST, CORE, Nat.reduceDiv, Nat.reduceMod, Int.reduceLT, Int.reduceLE, Int.reduceToNat, Int.reduceAdd, ↓reduceIte, Nat.reduceEqDiff, Nat.reduceAdd, Nat.reduceMul, Nat.reduceSub, Nat.reduceLeDiff, Nat.reduceLT, reduceCtorEq, if_true, eq_self, forall_const, implies_true])) <;> (try simp only [Sz.Le, Sz.LeL, List.getElem?_cons_zero, List.getElem?_cons_succ]) <;> (try simp))⟩
      · simp (maxSteps := 2000000) -implicitDefEqProofs only [o_sl, o_grows, o_kill, o_len, o_cap, o_isl, o_le, o_cells, o_one, oOk_c, oOk_o, oO_cells, oO_own, oV_s, oV_0, oO_nil, oO_iL, iL_nil, iL_snoc, List.length_append, Pg.cs, hl, w1, s_alt, s_alt20, s_alt2t, s_alt2f, ↓s_loopi, ↓v_pq, ↓PRE, POST, CORE, Nat.reduceDiv, Nat.reduceMod, Int.reduceLT, Int.reduceLE, Int.reduceToNat, Int.reduceAdd, ↓reduceIte, Nat.reduceEqDiff, Nat.reduceAdd, Nat.reduceMul, Nat.reduceSub, Nat.reduceLeDiff, Nat.reduceLT, reduceCtorEq, if_true, eq_self, forall_const, implies_true]
        rw [← pgC_snoc]
        exact ⟨⟨by unfold maxLen; omega, by omega⟩, ⟨p3, c3, ps ++ [(nxP s2).1], (nxP s2).2⟩, ⟨i1, i2.trans hr3, by simp only [List.length_append, List.length_cons, List.length_nil]; omega⟩, (by refine ⟨[0, 1, 4], by simp [NdL, NdA, oO_cells, oO_own, iL_nil], ?_, ?_, keep1 hJ rfl⟩ <;> simp only [FitM, FitE, ObLe, LeL, Le, List.cons_append, List.nil_append] <;> (try (simp (maxSteps := 2000000) -implicitDefEqProofs only [o_sl, o_grows, o_kill, o_len, o_cap, o_isl, o_le, o_cells, o_one, oOk_c, oOk_o, oO_cells, oO_own, oV_s, oV_0, oO_nil, oO_iL, iL_nil, iL_snoc, List.length_append, oO_pgs, extO, extO2, or_true, pgC_le, le_v, le_row4, Sz.extLe_no, Int.natCast_add, Int.natCast_one, List.length_cons, List.length_nil, s_alt, s_alt20, s_alt2t, s_alt2f, ↓s_loopi, ↓v_pq, ↓PRE, POST, CORE, Nat.reduceDiv, Nat.reduceMod, Int.reduceLT, Int.reduceLE, Int.reduceToNat, Int.reduceAdd, ↓reduceIte, Nat.reduceEqDiff, Nat.reduceAdd, Nat.reduceMul, Nat.reduceSub, Nat.reduceLeDiff, Nat.reduceLT, reduceCtorEq, if_true, eq_self, forall_const, implies_true])) <;> (try simp only [Sz.Le, Sz.LeL, List.getElem?_cons_zero, List.getElem?_cons_succ]) <;> (try simp))⟩
    · have d1 : (s2.2 == 0) = false := by simpa using he
      have i1 : pagesF smF (N - (x + 1)) ps s2 = pagesF smF N [] s1 := by rw [← i1]; exact (if_neg he).symm
      simp (maxSteps := 2000000) -implicitDefEqProofs only [j1, d1, bkO, w1, s_alt, s_alt20, s_alt2t, s_alt2f, ↓s_loopi, ↓v_pq, ↓PRE, POST, CORE, Nat.reduceDiv, Nat.reduceMod, Int.reduceLT, Int.reduceLE, Int.reduceToNat, Int.reduceAdd, ↓reduceIte, Nat.reduceEqDiff, Nat.reduceAdd, Nat.reduceMul, Nat.reduceSub, Nat.reduceLeDiff, Nat.reduceLT, reduceCtorEq, if_true, eq_self, forall_const, implies_true]
      exact ⟨⟨sp, sc, ps, s2⟩, ⟨i1, i2, by simp only; omega⟩, (by refine ⟨[0, 1, 2], by simp [NdL, NdA, oO_cells, oO_own, iL_nil], ?_, ?_, keep1 hJ rfl⟩ <;> simp only [FitM, FitE, ObLe, LeL, Le, List.cons_append, List.nil_append] <;> (try (simp (maxSteps := 2000000) -implicitDefEqProofs only [o_sl, o_grows, o_kill, o_len, o_cap, o_isl, o_le, o_cells, o_one, oOk_c, oOk_o, oO_cells, oO_own, oV_s, oV_0, oO_nil, oO_iL, iL_nil, iL_snoc, List.length_append, extO, extO2, or_true, pgC_le, le_v, Sz.extLe_no, Int.natCast_add, Int.natCast_one, s_alt, s_alt20, s_alt2t, s_alt2f, ↓s_loopi, ↓v_pq, ↓PRE, POST, CORE, Nat.reduceDiv, Nat.reduceMod, Int.reduceLT, Int.reduceLE, Int.reduceToNat, Int.reduceAdd, ↓reduceIte, Nat.reduceEqDiff, Nat.reduceAdd, Nat.reduceMul, Nat.reduceSub, Nat.reduceLeDiff, Nat.reduceLT, reduceCtorEq, if_true, eq_self, forall_const, implies_true])) <;> (try simp only [Sz.Le, Sz.LeL, List.getElem?_cons_zero, List.getElem?_cons_succ]) <;> (try simp))⟩
  · intro st hI
    obtain ⟨sp, sc, ps, s2⟩ := st
    obtain ⟨i1, i2, i3⟩ := hI
    simp only at i1 i2 i3
    have j1 : decide ((N : Int) < (N : Int)) = false := decide_eq_false (by omega)
    simp (maxSteps := 2000000) -implicitDefEqProofs only [j1, bkO, s_alt, s_alt20, s_alt2t, s_alt2f, ↓s_loopi, ↓v_pq, ↓PRE, POST, CORE, Nat.reduceDiv, Nat.reduceMod, Int.reduceLT, Int.reduceLE, Int.reduceToNat, Int.reduceAdd, ↓reduceIte, Nat.reduceEqDiff, Nat.reduceAdd, Nat.reduceMul, Nat.reduceSub, Nat.reduceLeDiff, Nat.reduceLT, reduceCtorEq, if_true, eq_self, forall_const, implies_true]
    rw [Nat.sub_self] at i1
    have i1 : (ps, s2) = pagesF smF N [] s1 := i1
    rw [← i1] at hk
    have hk := hk sp sc i2
    refine ⟨o_one, ?_⟩
    by_cases h0 : ps = []
    · subst h0
      rw [if_pos rfl] at hk
      refine hQ [.v (.slice sp s2.1.length sc), .v (.int .i64 s2.2)] [] (.agg [.v (.bool bad), .v (.int .i64 er), .v (.slice none 0 0)]) [] _ _ rfl (by simp [NdL, NdA]) ?_ ?_ (by simp) ?_
      · simp [FitM, ObLe, LeL, Le]
      · simp [SV.up, upL, Le, LeL, oV_0]
      · simpa [SV.up, upL, oV_0] using hk
    · rw [if_neg h0] at hk
      obtain ⟨n, hn⟩ : ∃ n, ps.length = n + 1 := ⟨ps.length - 1, by have : ps.length ≠ 0 := fun h => h0 (List.length_eq_zero_iff.1 h); omega⟩
      have hne : pgC ps ≠ [] := by
        intro h
        have h2 : (pgC ps).length = ps.length * 3 := by unfold pgC; rw [List.length_map, rowV_len Pg.len]
        rw [h, hn] at h2
        simp at h2
      have ho : oO (pgC ps) = ⟨true, pgC ps⟩ := by
        cases h : pgC ps with
        | nil => exact (hne h).elim
        | cons c cs => rfl
      have hup : ∀ d, upL d (pgC ps) = pgC ps := fun d => upL_v d _
      rw [hn, oV_s] at hk
      rw [hn, oV_s, ho]
      refine hQ [.v (.slice sp s2.1.length sc), .v (.int .i64 s2.2)] [⟨true, pgC ps⟩] (.agg [.v (.bool bad), .v (.int .i64 er), .row 0 0 (n + 1) 3]) [2] _ _ rfl (by simp [NdL, NdA]) ?_ ?_ (by simp) ?_
      · simp [FitM, ObLe, LeL, Le, SObj.up, hup, pgC_le]
      · simp [SV.up, upL, Le, LeL]
      · simpa [SV.up, upL, SObj.up, hup] using hk
end Go.Proofs.Ytibefgdjijmncaa
end
section
namespace Go.Proofs.Ytibefgdjijmncaa
open Go.RowKit Sz
set_option maxHeartbeats 4000000
def bkCs : Nat → List Bk → List SV
  | _, [] => []
  | k, b :: bs => .v (.bool b.bad) :: .v (.int .i64 b.er) :: oV k 3 b.pages.length :: bkCs (k + 1) bs
theorem bkCs_len : ∀ (k : Nat) (bs : List Bk), (bkCs k bs).length = bs.length * 3
  | _, [] => rfl
  | k, b :: bs => by simp only [bkCs, List.length_cons, bkCs_len (k + 1) bs]; omega
theorem bkCs_snoc : ∀ (k : Nat) (bs : List Bk) (b : Bk), bkCs k (bs ++ [b]) = bkCs k bs ++ [.v (.bool b.bad), .v (.int .i64 b.er), oV (k + bs.length) 3 b.pages.length]
  | _, [], _ => by simp [bkCs]
  | k, a :: bs, b => by
    simp only [List.cons_append, bkCs, bkCs_snoc (k + 1) bs b, List.length_cons]
    rw [show k + 1 + bs.length = k + (bs.length + 1) by omega]
theorem bkCs_le {g : List Nat} : ∀ (k : Nat) (bs : List Bk), (∀ i, i < bs.length → g[k + i]? = some (k + i)) → LeL g (bkCs k bs) (bkCs k bs)
  | _, [], _ => by simp [bkCs, LeL]
  | k, b :: bs, h => by
    simp only [bkCs, LeL, Le, true_and]
    refine ⟨by rw [o_le]; exact .inr (h 0 (by simp)), bkCs_le (k + 1) bs fun i hi => ?_⟩
    have := h (i + 1) (by simp; omega)
    rwa [show k + 1 + i = k + (i + 1) by omega]
def pgX (b : Bk) : SObj := if b.pages = [] then ⟨true, [.any, .any, .any]⟩ else ⟨true, pgC b.pages⟩
def pgM (bs : List Bk) : Mem := bs.map pgX
theorem pgM_own (bs : List Bk) : ∀ o ∈ pgM bs, o.own = true := fun o ho => by
  obtain ⟨b, _, rfl⟩ := List.mem_map.1 ho
  unfold pgX
  split <;> rfl
theorem pgM_len (bs : List Bk) : (pgM bs).length = bs.length := by simp [pgM]
theorem FitM_of {g : List Nat} {m : Mem} : ∀ {ks : List Nat} {m' : Mem}, ks.length = m'.length → (∀ (j k : Nat) (o' : SObj), ks[j]? = some k → m'[j]? = some o' → ∃ o, m[k]? = some o ∧ ObLe g o' o) → FitM g m ks m'
  | [], [], _, _ => trivial
  | k :: ks, o' :: m', hl, h => by
    obtain ⟨o, h1, h2⟩ := h 0 k o' rfl rfl
    simp only [FitM, h1]
    exact ⟨h2, FitM_of (by simpa using hl) fun j k o' a b => h (j + 1) k o' (by simpa using a) (by simpa using b)⟩
theorem ob_pg {g : List Nat} {b : Bk} : ObLe g (pgX b) (pgX b) := by
  unfold pgX
  split
  · exact .inr ⟨id, by simp [LeL, Le], trivial⟩
  · exact .inr ⟨id, LeL_plain g (plainL_v _), trivial⟩
def gI (n x : Nat) : List Nat := 0 :: 1 :: 2 :: (4 + n + x + 1) :: List.range' 4 (n + 1)
theorem gI_nd {n x : Nat} : (gI n x).Nodup := by
  unfold gI
  refine List.nodup_cons.2 ⟨?_, List.nodup_cons.2 ⟨?_, List.nodup_cons.2 ⟨?_, List.nodup_cons.2 ⟨?_, List.nodup_range'⟩⟩⟩⟩ <;> simp only [List.mem_cons, List.mem_range'_1, not_or] <;> omega
theorem gI_at {n x i : Nat} (h : i < n + 1) : (gI n x)[4 + i]? = some (4 + i) := by
  unfold gI
  rw [show 4 + i = i + 1 + 1 + 1 + 1 by omega]
  simp only [List.getElem?_cons_succ]
  rw [List.getElem?_range' (by omega)]
  simp; omega
theorem fit15 {bs : List Bk} {b : Bk} {X : Mem} (hX : X = if b.pages = [] then [] else [⟨true, pgC b.pages⟩]) {z rd o3 : SObj} {ge : List SV} (ho3 : ∃ a b c, o3 = ⟨true, [a, b, c]⟩) (hz : ∀ g, ObLe g z z) (hrd : ∀ g, ObLe g rd rd) (hge : ∀ g, LeL g ge ge) :
    FitM (gI bs.length X.length) (z :: rd :: ⟨true, ge ++ [.row (4 + bs.length + X.length + 1) 0 (bs.length + 1) 3]⟩ :: ⟨false, []⟩ :: (pgM bs ++ X ++ [o3] ++ [⟨true, bkCs 4 (bs ++ [b])⟩])) (gI bs.length X.length)
      (z :: rd :: ⟨true, ge ++ [oV 3 3 (bs ++ [b]).length]⟩ :: oO (bkCs 4 (bs ++ [b])) :: pgM (bs ++ [b])) := by
  have hlen := pgM_len bs
  have hg : ∀ (a c : List SV), (∀ g : List Nat, LeL g ge ge) → ∀ g s t, Le g s t → LeL g (ge ++ [s]) (ge ++ [t]) := by
    intro _ _ h g s t hst
    have : ∀ l : List SV, LeL g l l → LeL g (l ++ [s]) (l ++ [t]) := by
      intro l
      induction l with
      | nil => intro _; simp only [List.nil_append, LeL]; exact ⟨hst, trivial⟩
      | cons c l ih => intro hl; simp only [List.cons_append, LeL] at hl ⊢; exact ⟨hl.1, ih hl.2⟩
    exact this ge (h g)
  have hbk : oO (bkCs 4 (bs ++ [b])) = ⟨true, bkCs 4 (bs ++ [b])⟩ := by rw [bkCs_snoc]; exact oO_app
  have e4 : (z :: rd :: (⟨true, ge ++ [.row (4 + bs.length + X.length + 1) 0 (bs.length + 1) 3]⟩ : SObj) :: (⟨false, []⟩ : SObj) :: (pgM bs ++ X ++ [o3] ++ [(⟨true, bkCs 4 (bs ++ [b])⟩ : SObj)]))[4 + bs.length + X.length + 1]? = some ⟨true, bkCs 4 (bs ++ [b])⟩ := by
    rw [show 4 + bs.length + X.length + 1 = (bs.length + X.length + 1) + 1 + 1 + 1 + 1 by omega]
    simp only [List.getElem?_cons_succ]
    rw [List.getElem?_append_right (by simp [hlen]; omega), show bs.length + X.length + 1 - (pgM bs ++ X ++ [o3]).length = 0 by simp [hlen]; omega]
    rfl
  generalize hG : gI bs.length X.length = G
  have hat : ∀ i, i < bs.length + 1 → G[4 + i]? = some (4 + i) := fun i hi => by rw [← hG]; exact gI_at hi
  have h3 : G[3]? = some (4 + bs.length + X.length + 1) := by rw [← hG]; rfl
  conv => arg 3; rw [← hG, gI]
  rw [hbk]
  simp only [FitM, List.getElem?_cons_zero, List.getElem?_cons_succ, e4]
  refine ⟨hz _, hrd _, .inr ⟨id, hg [] [] hge _ _ _ ?_, trivial⟩, .inr ⟨id, bkCs_le 4 _ fun i hi => hat i (by simpa using hi), trivial⟩, ?_⟩
  · rw [List.length_append, List.length_singleton, oV_s]
    simp only [Le, h3]
  · refine FitM_of (by simp [pgM_len]) fun j k o' hk ho => ?_
    have hj : j < bs.length + 1 := by
      have := (List.getElem?_eq_some_iff.1 hk).1
      simpa using this
    rw [List.getElem?_range' (by omega)] at hk
    injection hk with hk
    obtain rfl : k = 4 + j := by omega
    rw [show 4 + j = j + 1 + 1 + 1 + 1 by omega]
    simp only [List.getElem?_cons_succ, List.append_assoc]
    rcases Nat.lt_or_ge j bs.length with hlt | hge2
    · rw [List.getElem?_append_left (by omega)]
      obtain ⟨a, ha⟩ : ∃ a, bs[j]? = some a := ⟨_, List.getElem?_eq_getElem hlt⟩
      have e1 : (pgM bs)[j]? = some (pgX a) := by unfold pgM; rw [List.getElem?_map, ha]; rfl
      have e2 : (pgM (bs ++ [b]))[j]? = some (pgX a) := by unfold pgM; rw [List.getElem?_map, List.getElem?_append_left hlt, ha]; rfl
      rw [e2] at ho
      injection ho with ho
      subst ho
      exact ⟨_, e1, ob_pg⟩
    · obtain rfl : j = bs.length := by omega
      rw [List.getElem?_append_right (by omega), hlen, Nat.sub_self]
      have e2 : (pgM (bs ++ [b]))[bs.length]? = some (pgX b) := by unfold pgM; rw [List.getElem?_map]; simp
      rw [e2] at ho
      injection ho with ho
      subst ho
      by_cases hp : b.pages = []
      · rw [if_pos hp] at hX
        subst hX
        obtain ⟨a1, a2, a3, rfl⟩ := ho3
        refine ⟨_, rfl, ?_⟩
        unfold pgX
        rw [if_pos hp]
        exact .inr ⟨id, by simp [LeL, Le], trivial⟩
      · rw [if_neg hp] at hX
        subst hX
        refine ⟨_, rfl, ?_⟩
        have := @ob_pg G b
        unfold pgX at this ⊢
        rw [if_neg hp] at this ⊢
        exact this
def gS (n : Nat) : List Nat := 0 :: 1 :: 2 :: 3 :: List.range' 4 n
theorem gS_nd {n : Nat} : (gS n).Nodup := by
  unfold gS
  refine List.nodup_cons.2 ⟨?_, List.nodup_cons.2 ⟨?_, List.nodup_cons.2 ⟨?_, List.nodup_cons.2 ⟨?_, List.nodup_range'⟩⟩⟩⟩ <;> simp only [List.mem_cons, List.mem_range'_1, not_or] <;> omega
theorem gS_at {n i : Nat} (h : i < n) : (gS n)[4 + i]? = some (4 + i) := by
  unfold gS
  rw [show 4 + i = i + 1 + 1 + 1 + 1 by omega]
  simp only [List.getElem?_cons_succ]
  rw [List.getElem?_range' (by omega)]
  simp; omega
theorem oO_le {g : List Nat} {cs : List SV} (h : LeL g cs cs) : ObLe g (oO cs) (oO cs) := .inr ⟨id, h, trivial⟩
theorem fit15s {bs : List Bk} {z rd : SObj} {ge : List SV} (hz : ∀ g, ObLe g z z) (hrd : ∀ g, ObLe g rd rd) (hge : ∀ g s, Le g s s → LeL g (ge ++ [s]) (ge ++ [s])) :
    FitM (gS bs.length) (z :: rd :: ⟨true, ge ++ [oV 3 3 bs.length]⟩ :: oO (bkCs 4 bs) :: pgM bs) (gS bs.length)
      (z :: rd :: ⟨true, ge ++ [oV 3 3 bs.length]⟩ :: oO (bkCs 4 bs) :: pgM bs) := by
  generalize hG : gS bs.length = G
  have hat : ∀ i, i < bs.length → G[4 + i]? = some (4 + i) := fun i hi => by rw [← hG]; exact gS_at hi
  have h3 : G[3]? = some 3 := by rw [← hG]; rfl
  conv => arg 3; rw [← hG, gS]
  simp only [FitM, List.getElem?_cons_zero, List.getElem?_cons_succ]
  refine ⟨hz _, hrd _, .inr ⟨id, hge _ _ (by rw [o_le]; exact .inr h3), trivial⟩, oO_le (bkCs_le 4 _ fun i hi => hat i hi), ?_⟩
  refine FitM_of (by simp [pgM_len]) fun j k o' hk ho => ?_
  have hj : j < bs.length := by
    have := (List.getElem?_eq_some_iff.1 hk).1
    simpa using this
  rw [List.getElem?_range' (by omega)] at hk
  injection hk with hk
  obtain rfl : k = 4 + j := by omega
  rw [show 4 + j = j + 1 + 1 + 1 + 1 by omega]
  simp only [List.getElem?_cons_succ]
  refine ⟨o', ho, ?_⟩
  unfold pgM at ho
  rw [List.getElem?_map] at ho
  obtain ⟨a, _, rfl⟩ := Option.map_eq_some_iff.1 ho
  exact ob_pg
theorem blk_own [Inp] {m : Mem} : ∀ (k : Nat) (bs : List Bk), (∀ (i : Nat) (b : Bk), bs[i]? = some b → m[k + i]? = some (pgX b)) → blkS m (bkCs k bs) bs
  | _, [], _ => by simp [bkCs, blkS]
  | k, b :: bs, h => by
    have h0 := h 0 b rfl
    refine ⟨rfl, rfl, ?_, blk_own (k + 1) bs fun i c hc => by rw [show k + 1 + i = k + (i + 1) by omega]; exact h (i + 1) c (by simpa using hc)⟩
    by_cases hp : b.pages = []
    · rw [hp]
      exact sl_0
    · unfold pgX at h0
      rw [if_neg hp, Nat.add_zero] at h0
      have hn : b.pages.length ≠ 0 := fun h => hp (List.length_eq_zero_iff.1 h)
      have hl : (pgC b.pages).length = b.pages.length * 3 := by unfold pgC; rw [List.length_map, rowV_len Pg.len]
      unfold oV
      rw [if_neg hn, sl_row, h0, sl_k]
      simp only [Nat.zero_add, List.drop_zero, hl, Nat.le_refl, if_true]
      rw [List.take_of_length_le (by rw [hl]; exact Nat.le_refl _)]
      rfl
theorem bkCs_le2 {g : List Nat} : ∀ (k k' : Nat) (bs : List Bk), (∀ i, i < bs.length → g[k' + i]? = some (k + i)) → LeL g (bkCs k' bs) (bkCs k bs)
  | _, _, [], _ => by simp [bkCs, LeL]
  | k, k', b :: bs, h => by
    simp only [bkCs, LeL, Le, true_and]
    refine ⟨by rw [o_le]; exact .inr (h 0 (by simp)), bkCs_le2 (k + 1) (k' + 1) bs fun i hi => ?_⟩
    have := h (i + 1) (by simp; omega)
    rwa [show k' + 1 + i = k' + (i + 1) by omega, show k + 1 + i = k + (i + 1) by omega]
theorem bkCs_up {d : Nat} : ∀ (k : Nat) (bs : List Bk), upL d (bkCs k bs) = bkCs (d + k) bs
  | _, [] => by simp [bkCs, upL]
  | k, b :: bs => by
    simp only [bkCs, upL, SV.up, o_up, bkCs_up (k + 1) bs]
    rw [show d + (k + 1) = d + k + 1 by omega]
theorem pgX_up {d : Nat} {b : Bk} : (pgX b).up d = pgX b := by
  unfold pgX
  split
  · simp [SObj.up, upL, SV.up]
  · simp only [SObj.up]
    rw [show upL d (pgC b.pages) = pgC b.pages from upL_v d _]
theorem pgM_up {d : Nat} {bs : List Bk} : (pgM bs).map (SObj.up d) = pgM bs := by
  unfold pgM
  rw [List.map_map]
  exact List.map_congr_left fun b _ => pgX_up
theorem pic_own [Inp] {m : Mem} {g : Ge} {bs : List Bk} {j : Nat} (h0 : m[j]? = some ⟨true, bkCs (j + 1) bs⟩) (h1 : ∀ (i : Nat) (b : Bk), bs[i]? = some b → m[j + 1 + i]? = some (pgX b)) (hne : bs ≠ []) : picS m (.agg (g.sv ++ [oV j 3 bs.length])) g bs := by
  refine ⟨oV j 3 bs.length, bkCs (j + 1) bs, rfl, ?_, blk_own _ _ h1⟩
  have hn : bs.length ≠ 0 := fun h => hne (List.length_eq_zero_iff.1 h)
  have hl := bkCs_len (j + 1) bs
  unfold oV
  rw [if_neg hn, sl_row, h0, sl_k]
  simp only [Nat.zero_add, List.drop_zero, hl, Nat.le_refl, if_true]
  rw [List.take_of_length_le (by rw [hl]; exact Nat.le_refl _)]
theorem fit_tail (bs : List Bk) (hbo : oO (bkCs 4 bs) = ⟨true, bkCs 4 bs⟩) {a r p : SObj} : FitM (3 :: List.range' 4 bs.length) (a :: r :: p :: oO (bkCs 4 bs) :: pgM bs) (3 :: List.range' 4 bs.length) ((⟨true, bkCs 1 bs⟩ : SObj) :: pgM bs) := by
  rw [hbo]
  generalize hG : 3 :: List.range' 4 bs.length = G
  have hat : ∀ i, i < bs.length → G[1 + i]? = some (4 + i) := fun i hi => by
    rw [← hG, Nat.add_comm 1 i, List.getElem?_cons_succ, List.getElem?_range' hi]
    simp
  conv => arg 3; rw [← hG]
  simp only [FitM, List.getElem?_cons_zero, List.getElem?_cons_succ]
  refine ⟨.inr ⟨id, bkCs_le2 4 1 bs hat, trivial⟩, ?_⟩
  refine FitM_of (by simp [pgM_len]) fun j k o' hk ho => ?_
  have hj : j < bs.length := by
    have := (List.getElem?_eq_some_iff.1 hk).1
    simpa using this
  rw [List.getElem?_range' (by omega)] at hk
  injection hk with hk
  obtain rfl : k = 4 + j := by omega
  rw [show 4 + j = j + 1 + 1 + 1 + 1 by omega]
  simp only [List.getElem?_cons_succ]
  refine ⟨o', ho, ?_⟩
  unfold pgM at ho
  rw [List.getElem?_map] at ho
  obtain ⟨a, _, rfl⟩ := Option.map_eq_some_iff.1 ho
  exact ob_pg
end Go.Proofs.Ytibefgdjijmncaa
end
section
namespace Go.Proofs.Ytibefgdjijmncaa.Sz
open Go.RowKit
def CapK (s : SV) (u : Value) : Prop := ∀ k o n z : Nat, s = .row k o n z → ∃ p c, u = .slice p n c ∧ n ≤ c
theorem capL_of {r : List Loc} : ∀ {ss : List SV} {us : List Value}, SV.IsL r ss us → KL CapK ss us
  | [], us, h => by simpa only [SV.IsL, KL] using h
  | s :: ss, us, h => by
    simp only [SV.IsL] at h
    obtain ⟨u, t, rfl, h1, h2⟩ := h
    refine ⟨u, t, rfl, fun k o n z hs => ?_, capL_of h2⟩
    subst hs
    simp only [SV.Is] at h1
    obtain ⟨l, cap, _, hc, _, rfl⟩ := h1
    exact ⟨_, _, rfl, hc⟩
section
variable {P : Program} {f : FuncId} {eff : List FuncId} {N : Nat} {x : XC} {rs : List XR}
theorem Contract.readFC [I : Inp] (hF : FnX P f eff N x rs) {G : Inp → List CEntry} (hG : ∀ J, @GOk J P (G J)) (tr : Trans)
    (body : ∀ args m k, tr args m k → args.length ≤ N ∧ ∀ (J : Inp), J.keep = 0 → ∀ (us : List Value), KnowsL I J m args us → KL CapK args us → @evX J P N eff (G J) x (slots (argSlots 0 (us.map SV.of))) [] (fun ex e m' => EndsX ex ∧ evR rs e m' fun s => ∃ (g2 : List Nat) (s2 : SV) (m2 : Mem), g2.Nodup ∧ FitM g2 m' g2 m2 ∧ (∀ o ∈ m2, o.own = true) ∧ Le g2 s2 s ∧ k (s2.up m.length) (m ++ m2.map (SObj.up m.length)))) : Contract P f true tr := by
  refine ⟨hF.enter, fun args m k base w0 W r vs ht hst ha => ?_⟩
  obtain ⟨hlen, hev⟩ := body args m k ht
  have hk := knowsL_of hst ha
  have hvl := IsL_len ha
  refine (@FnX.calls P f eff N x rs (G (inpOf W)) (inpOf W) hF (hG (inpOf W)) _ _ _ _ _ _ _ (St.inpOf W) (isL_of vs) (by simp; omega) (fun s m' => ∃ (g2 : List Nat) (s2 : SV) (m2 : Mem), g2.Nodup ∧ FitM g2 m' g2 m2 ∧ (∀ o ∈ m2, o.own = true) ∧ Le g2 s2 s ∧ k (s2.up m.length) (m ++ m2.map (SObj.up m.length))) (hev (inpOf W) rfl vs hk (capL_of ha))).mono ?_
  rintro e W1 ⟨s, m', r', u, ⟨g2, s2, m2, hn2, hm2, hown, hle2, hk⟩, rfl, hst1, hs, _⟩
  have hb : Below W.heap.size W W1 := (@St.low (inpOf W) _ _ _ _ _ hst1).below
  obtain ⟨r2, hst2, hr2, _⟩ := @fit_sound (inpOf W) 0 _ (fun _ => .any) _ _ [] _ _ _ _ #[] (NdL_of hn2) hm2 hst1
  have hj := St.join2 I (inpOf W) hst hst2 hown
  rw [← hst.len] at hk
  exact ⟨_, _, r2, u, hk, rfl, hj, up_is (Le.is hr2 hle2 hs), fun _ => Same.below hst hb⟩
end
end Go.Proofs.Ytibefgdjijmncaa.Sz
end
section
namespace Go.Proofs.Ytibefgdjijmncaa
open Go.RowKit Sz
set_option maxHeartbeats 4000000
set_option maxRecDepth 20000
-- almshouse/image.Parse (1 parameters)
def x15 : XC := (.seq (.tree (.seq ⟨some 2, none, (.alloc [(.v (.int .i64 0)), (.v (.int .i64 0)), (.v (.int .i64 0)), (.v (.int .i64 0)), (.v (.slice none 0 0))])⟩
 (.seq ⟨some 3, none, (.ofA (.mv (.cst (.v (.int .i64 0)))))⟩
 .done)))
 (.seq (.tree (.seq ⟨some 6, none, (.ofA (.mv (.tmp 0)))⟩
 (.seq ⟨some 7, none, (.build [(.v (.slice none 0 0)), (.v (.int .i64 0))] [(0, 1, (.tmp 6))])⟩
 (.seq ⟨some 8, none, (.box (.tmp 7))⟩
 (.seq ⟨some 4, none, (.ofA (.mv (.tmp 8)))⟩
 .done)))))
 (.seq (.tree (.seq ⟨some 5, none, (.alloc [(.v (.int .i64 0)), (.v (.int .i64 0)), (.v (.int .i64 0)), (.v (.int .i64 0)), (.v (.slice none 0 0))])⟩
 .done))
 (.seq (.tree (.seq ⟨some 9, none, (.ofA (.mv (.tmp 4)))⟩
 (.seq ⟨some 10, none, (.ofA (.mkfn 51 [(.tmp 5)]))⟩
 (.seq ⟨some 11, none, (.call (.cst (.fn 50 [])) [(.tmp 9), (.cst (.v (.int .i64 71))), (.tmp 10)])⟩
 .done))))
 (.seq (.seq (.tree (.seq ⟨some 12, none, (.ofA (.mv (.tmp 4)))⟩
 (.seq ⟨some 13, none, (.ofA (.nilc (.tmp 12)))⟩
 (.seq ⟨some 14, none, (.ofA (.faddr 1 (.tmp 13)))⟩
 (.seq ⟨some 15, none, (.ofA (.load none (.tmp 14)))⟩
 (.seq ⟨some 16, none, (.ofA (.bin .eql (.tmp 15) (.cst (.v (.int .i64 0)))))⟩
 (.seq ⟨some 17, none, (.ofA (.mv (.tmp 16)))⟩
 (.seq ⟨some 18, some (17, true), (.ofA (.faddr 0 (.tmp 5)))⟩
 (.seq ⟨some 19, some (17, true), (.ofA (.load (some 4) (.tmp 18)))⟩
 (.seq ⟨some 20, some (17, true), (.call (.cst (.fn 53 [])) [(.tmp 19)])⟩
 (.seq ⟨some 21, some (17, true), (.ofA (.bin .neq (.tmp 20) (.cst (.v (.int .i64 0)))))⟩
 (.seq ⟨some 22, none, (.ofA (.pick (.tmp 17) (.tmp 21) (.cst (.v (.bool false)))))⟩
 .done))))))))))))
 (.cond (.tmp 22)
 (.tree (.seq ⟨some 23, none, (.ofA (.mv (.tmp 4)))⟩
 (.seq ⟨some 24, none, (.call (.cst (.fn 54 [])) [(.tmp 23), (.cst (.v (.int .i64 2)))])⟩
 .done)))
 .skip))
 (.seq (.seq (.tree (.seq ⟨some 25, none, (.ofA (.faddr 0 (.tmp 5)))⟩
 (.seq ⟨some 26, none, (.ofA (.load (some 4) (.tmp 25)))⟩
 (.seq ⟨some 27, none, (.call (.cst (.fn 55 [])) [(.tmp 26)])⟩
 (.seq ⟨some 28, none, (.ofA (.mv (.cst (.v (.int .i64 0)))))⟩
 .done)))))
 (.block 0 (.loop (.seq (.tree (.seq ⟨some 29, none, (.ofA (.bin .lss (.tmp 28) (.tmp 27)))⟩
 .done))
 (.seq (.cond (.tmp 29)
 .skip
 (.exit 0))
 (.seq (.block 1 (.seq (.tree (.seq ⟨some 30, none, (.ofA (.mv (.tmp 4)))⟩
 (.seq ⟨some 31, none, (.ofA (.nilc (.tmp 30)))⟩
 (.seq ⟨some 32, none, (.ofA (.faddr 1 (.tmp 31)))⟩
 (.seq ⟨some 33, none, (.ofA (.load none (.tmp 32)))⟩
 (.seq ⟨some 34, none, (.ofA (.bin .eql (.tmp 33) (.cst (.v (.int .i64 0)))))⟩
 .done))))))
 (.cond (.tmp 34)
 (.tree (.take ⟨some 35, none, (.ofA (.faddr 4 (.tmp 5)))⟩
 (.take ⟨some 37, none, (.ofA (.mv (.tmp 4)))⟩
 (.alt [true, false] [(⟨some 36, none, (.ofA (.load none (.tmp 35)))⟩,
 (.alt [false] [(⟨some 38, none, (.call (.cst (.fn 56 [])) [(.tmp 37)])⟩,
 (.alt [true] [(⟨some 39, none, (.buildSl 3 1 [(.v (.bool false)), (.v (.int .i64 0)), (.v (.slice none 0 0))] [(0, 3, (.tmp 38))])⟩,
 (.alt [false] [(⟨some 40, none, (.app 3 40 (.tmp 36) (.tmp 39))⟩,
 (.take ⟨some 41, none, (.ofA (.faddr 4 (.tmp 5)))⟩
 (.alt [false] [(⟨none, none, (.store 1 (.tmp 41) (.tmp 40))⟩,
 .done)])))]))]))])), (⟨some 38, none, (.call (.cst (.fn 56 [])) [(.tmp 37)])⟩,
 (.take ⟨some 36, none, (.ofA (.load none (.tmp 35)))⟩
 (.alt [true] [(⟨some 39, none, (.buildSl 3 1 [(.v (.bool false)), (.v (.int .i64 0)), (.v (.slice none 0 0))] [(0, 3, (.tmp 38))])⟩,
 (.alt [false] [(⟨some 40, none, (.app 3 40 (.tmp 36) (.tmp 39))⟩,
 (.take ⟨some 41, none, (.ofA (.faddr 4 (.tmp 5)))⟩
 (.alt [false] [(⟨none, none, (.store 1 (.tmp 41) (.tmp 40))⟩,
 .done)])))]))])))]))))
 .skip)))
 (.tree (.seq ⟨some 42, none, (.ofA (.bin .add (.tmp 28) (.cst (.v (.int .i64 1)))))⟩
 (.seq ⟨some 28, none, (.ofA (.mv (.tmp 42)))⟩
 .done)))))))))
 (.seq (.seq (.tree (.seq ⟨some 43, none, (.ofA (.mv (.tmp 4)))⟩
 (.seq ⟨some 44, none, (.ofA (.nilc (.tmp 43)))⟩
 (.seq ⟨some 45, none, (.ofA (.faddr 1 (.tmp 44)))⟩
 (.seq ⟨some 46, none, (.ofA (.load none (.tmp 45)))⟩
 (.seq ⟨some 47, none, (.ofA (.bin .eql (.tmp 46) (.cst (.v (.int .i64 0)))))⟩
 (.seq ⟨some 48, none, (.ofA (.mv (.tmp 47)))⟩
 (.seq ⟨some 49, some (48, true), (.ofA (.mv (.tmp 4)))⟩
 (.seq ⟨some 50, some (48, true), (.ofA (.nilc (.tmp 49)))⟩
 (.seq ⟨some 51, some (48, true), (.ofA (.faddr 0 (.tmp 50)))⟩
 (.seq ⟨some 52, some (48, true), (.ofA (.load none (.tmp 51)))⟩
 (.seq ⟨some 53, some (48, true), (.ofA (.len (.tmp 52)))⟩
 (.seq ⟨some 54, some (48, true), (.ofA (.bin .gtr (.tmp 53) (.cst (.v (.int .i64 0)))))⟩
 (.seq ⟨some 55, some (48, true), (.ofA (.mv (.tmp 54)))⟩
 (.seq ⟨some 56, some (55, false), (.ofA (.load (some 5) (.tmp 5)))⟩
 (.seq ⟨some 57, some (55, false), (.call (.cst (.fn 45 [])) [(.tmp 56)])⟩
 (.seq ⟨some 58, some (55, false), (.ofA (.un .not (.tmp 57)))⟩
 (.seq ⟨some 59, some (48, true), (.ofA (.pick (.tmp 55) (.cst (.v (.bool true))) (.tmp 58)))⟩
 (.seq ⟨some 60, none, (.ofA (.pick (.tmp 48) (.tmp 59) (.cst (.v (.bool false)))))⟩
 .done)))))))))))))))))))
 (.cond (.tmp 60)
 (.tree (.seq ⟨some 61, none, (.ofA (.mv (.tmp 4)))⟩
 (.seq ⟨some 62, none, (.call (.cst (.fn 54 [])) [(.tmp 61), (.cst (.v (.int .i64 2)))])⟩
 .done)))
 .skip))
 (.seq (.seq (.tree (.seq ⟨some 63, none, (.ofA (.mv (.tmp 4)))⟩
 (.seq ⟨some 64, none, (.ofA (.nilc (.tmp 63)))⟩
 (.seq ⟨some 65, none, (.ofA (.faddr 1 (.tmp 64)))⟩
 (.seq ⟨some 66, none, (.ofA (.load none (.tmp 65)))⟩
 (.seq ⟨some 67, none, (.ofA (.bin .neq (.tmp 66) (.cst (.v (.int .i64 0)))))⟩
 .done))))))
 (.cond (.tmp 67)
 (.seq (.tree (.take ⟨some 69, none, (.ofA (.mv (.tmp 4)))⟩
 (.take ⟨some 70, none, (.ofA (.nilc (.tmp 69)))⟩
 (.take ⟨some 71, none, (.ofA (.faddr 1 (.tmp 70)))⟩
 (.alt [true, true] [(⟨some 68, none, (.build [(.v (.int .i64 0)), (.v (.int .i64 0)), (.v (.int .i64 0)), (.v (.int .i64 0)), (.v (.slice none 0 0))] [])⟩,
 (.alt [true, false] [(⟨some 72, none, (.ofA (.load none (.tmp 71)))⟩,
 (.alt [false] [(⟨none, none, (.store 5 (.tmp 2) (.tmp 68))⟩,
 (.take ⟨some 3, none, (.ofA (.mv (.tmp 72)))⟩
 .done))])), (⟨none, none, (.store 5 (.tmp 2) (.tmp 68))⟩,
 (.take ⟨some 72, none, (.ofA (.load none (.tmp 71)))⟩
 (.take ⟨some 3, none, (.ofA (.mv (.tmp 72)))⟩
 .done)))])), (⟨some 72, none, (.ofA (.load none (.tmp 71)))⟩,
 (.alt [true] [(⟨some 68, none, (.build [(.v (.int .i64 0)), (.v (.int .i64 0)), (.v (.int .i64 0)), (.v (.int .i64 0)), (.v (.slice none 0 0))] [])⟩,
 (.alt [false] [(⟨none, none, (.store 5 (.tmp 2) (.tmp 68))⟩,
 (.take ⟨some 3, none, (.ofA (.mv (.tmp 72)))⟩
 .done))]))]))])))))
 .ret)
 .skip))
 (.seq (.tree (.seq ⟨some 73, none, (.ofA (.load (some 5) (.tmp 5)))⟩
 (.seq ⟨none, none, (.store 5 (.tmp 2) (.tmp 73))⟩
 (.seq ⟨some 3, none, (.ofA (.mv (.cst (.v (.int .i64 0)))))⟩
 .done))))
 .ret)))))))))
def r15 : List XR := [.cell 2 (some 5), .tmp 3]
theorem fn15 : FnX Try.prog 15 [50, 51, 52, 54, 56, 95, 97, 98, 99, 100, 101, 125, 126] 74 x15 r15 := ⟨_, Try.func15, by kernel_rfl, by kernel_rfl, by kernel_rfl, by kernel_rfl⟩
theorem pagesF_len : ∀ (n : Nat) (ps : List Pg) (s : RS), (pagesF smF n ps s).1.length ≤ ps.length + n
  | 0, _, _ => Nat.le_refl _
  | n + 1, ps, s => by
    unfold pagesF
    split
    · have := pagesF_len n (ps ++ [(nextF smF 80 decPg noPg s).1]) (nextF smF 80 decPg noPg s).2
      simp only [List.length_append, List.length_cons, List.length_nil] at this
      omega
    · have := pagesF_len n ps s
      omega
theorem blockF_pl {s : RS} (hb : Byt s.1) : (blockF smF s).1.pages.length ≤ 255 := by
  have h := nxB_cnt hb
  have := pagesF_len (nxB s).1.2.1.toNat [] (nxB s).2
  show (pagesF smF (nxB s).1.2.1.toNat [] (nxB s).2).1.length ≤ 255
  simp only [List.length_nil] at this
  omega
structure St15 where
  p : Option Addr
  c : Nat
  bs : List Bk
  s : RS
def G15 [Inp] : List CEntry := [⟨50, false, c50h⟩, ⟨53, true, c53⟩, ⟨54, false, c54⟩, ⟨55, true, c55⟩, ⟨56, false, c56⟩, ⟨45, true, c45⟩]
theorem g15 [Inp] : GOk Try.prog G15 := GOk.cons c50h_ok (GOk.cons c53_ok (GOk.cons c54_ok (GOk.cons c55_ok (GOk.cons c56_ok (GOk.cons c45_ok (g0 _))))))
def c15 [Inp] : Trans := fun args m k => ∃ (s0 : SV) (b : List Int), args = [s0] ∧ rdB m s0 = some b ∧ b.length ≤ 1000000 ∧ Byt b ∧ ((∃ k o n z : Nat, s0 = .row k o n z) ∨ ∃ p n c, s0 = .v (.slice p n c) ∧ n ≤ c) ∧
  ((parseF smF b).2.2 ≠ 0 → k (.tup [.agg [.v (.int .i64 0), .v (.int .i64 0), .v (.int .i64 0), .v (.int .i64 0), .v (.slice none 0 0)], .v (.int .i64 (parseF smF b).2.2)]) m) ∧
  ((parseF smF b).2.2 = 0 → ∀ (s : SV) (m2 : Mem), picS (m ++ m2) s (parseF smF b).1 (parseF smF b).2.1 → k (.tup [s, .v (.int .i64 0)]) (m ++ m2))
theorem c15_ok [I : Inp] : Contract Try.prog 15 true c15 := by
  refine .readFC fn15 (G := fun J => @G15 J) (fun J => @g15 J) _ fun args m k h => ?_
  unfold c15 at h
  obtain ⟨s0, b, rfl, hb, hmax, hB, hs0, hke, hk0⟩ := h
  refine ⟨by simp, fun J hJ us hus hcap => ?_⟩
  obtain ⟨u, t1, rfl, hk1, rfl⟩ := hus
  obtain ⟨p, c, rfl, hin⟩ := rdB_knows hb hk1
  have hc : b.length ≤ c := by
    obtain ⟨u, t, e, hC, _⟩ := hcap
    injection e with e _
    subst e
    rcases hs0 with ⟨k1, o, n, z, rfl⟩ | ⟨p1, n, c1, rfl, hn⟩
    · obtain ⟨p2, c2, h1, h2⟩ := hC _ _ _ _ rfl
      injection h1 with _ h3 h4
      omega
    · have := hk1.1 _ rfl
      injection this with _ h3 h4
      omega
  have hfJ : @Fr J p c b := ⟨hc, hin, hmax, hB⟩
  simp (maxSteps := 2000000) -implicitDefEqProofs only [↓x15, ↓r15, ↓G15, ↓c50h, s_alt, s_alt20, s_alt2t, s_alt2f, ↓s_loopi, ↓v_pq, ↓PRE, POST, CORE, Nat.reduceDiv, Nat.reduceMod, Int.reduceLT, Int.reduceLE, Int.reduceToNat, Int.reduceAdd, ↓reduceIte, Nat.reduceEqDiff, Nat.reduceAdd, Nat.reduceMul, Nat.reduceSub, Nat.reduceLeDiff, Nat.reduceLT, reduceCtorEq, if_true, eq_self, forall_const, implies_true]
  refine ⟨p, c, (b, 0), rfl, hfJ, fun p2 c2 T hr => ?_⟩
  have eP : parseF smF b = ((headF' smF b).1, (blocksF smF (nB (headF' smF b).1).toNat [] (startS (headF' smF b))).1, endE (headF' smF b).1 (blocksF smF (nB (headF' smF b).1).toNat [] (startS (headF' smF b)))) := rfl
  rw [eP] at hke hk0
  rw [show nextF smF 71 decHd ⟨0, 0, 0, 0⟩ (b, 0) = headF' smF b from rfl] at hr ⊢
  generalize headF' smF b = hd at hr hke hk0 ⊢
  obtain ⟨g, s1⟩ := hd
  simp only at hr hke hk0 ⊢
  have mid : ∀ (s2 : RS) (T2 : Mem), s2 = startS (g, s1) → ∀ (e : Env) (m' : Mem), True → True := fun _ _ _ _ _ _ => trivial
  have hnb0 : 0 ≤ nB g ∧ nB g ≤ 64 := by
    unfold nB
    split
    · rename_i h
      have := (chk_in.1 h).2
      omega
    · omega
  obtain ⟨N, hnb⟩ := Int.eq_ofNat_of_zero_le hnb0.1
  have hN64 : N ≤ 64 := by omega
  rw [hnb, Int.toNat_natCast] at hke hk0
  by_cases he : s1.2 = 0
  · have d1 : (s1.2 == 0) = true := by simpa using he
    simp (maxSteps := 2000000) -implicitDefEqProofs only [d1, geO, ↓G15, ↓c53, s_alt, s_alt20, s_alt2t, s_alt2f, ↓s_loopi, ↓v_pq, ↓PRE, POST, CORE, Nat.reduceDiv, Nat.reduceMod, Int.reduceLT, Int.reduceLE, Int.reduceToNat, Int.reduceAdd, ↓reduceIte, Nat.reduceEqDiff, Nat.reduceAdd, Nat.reduceMul, Nat.reduceSub, Nat.reduceLeDiff, Nat.reduceLT, reduceCtorEq, if_true, eq_self, forall_const, implies_true]
    refine ⟨g, rfl, fun e53 h53 => ?_⟩
    by_cases hg : chkG g = true
    · have d2 : (e53 != 0) = false := by rw [h53.2 hg]; rfl
      have e2 : startS (g, s1) = s1 := by unfold startS; rw [if_neg (by simp [hg])]
      simp (maxSteps := 2000000) -implicitDefEqProofs only [d2, ↓G15, ↓c55, s_alt, s_alt20, s_alt2t, s_alt2f, ↓s_loopi, ↓v_pq, ↓PRE, POST, CORE, Nat.reduceDiv, Nat.reduceMod, Int.reduceLT, Int.reduceLE, Int.reduceToNat, Int.reduceAdd, ↓reduceIte, Nat.reduceEqDiff, Nat.reduceAdd, Nat.reduceMul, Nat.reduceSub, Nat.reduceLeDiff, Nat.reduceLT, reduceCtorEq, if_true, eq_self, forall_const, implies_true]
      refine ⟨g, rfl, ?_⟩
      rw [hnb]
      refine TXi_of (TX_countS (@g15 J) N (σ := St15) (fun x st => [(2, .ptr 0 0), (3, .v (.int .i64 0)), (4, .ptr 1 0), (5, .ptr 2 0), (27, .v (.int .i64 (N : Int))), (28, .v (.int .i64 (x : Int)))])
        (fun x st => (⟨true, [.v (.int .i64 0), .v (.int .i64 0), .v (.int .i64 0), .v (.int .i64 0), .v (.slice none 0 0)]⟩ : SObj) :: rdO (.v (.slice st.p st.s.1.length st.c)) st.s.2 :: (⟨true, [.v (.int .i64 g.ch), .v (.int .i64 g.di), .v (.int .i64 g.bl), .v (.int .i64 g.pa), oV 3 3 st.bs.length]⟩ : SObj) :: oO (bkCs 4 st.bs) :: pgM st.bs)
        (fun x st => blocksF smF (N - x) st.bs st.s = blocksF smF N [] (startS (g, s1)) ∧ Rl p c b st.p st.c st.s.1 ∧ st.bs.length ≤ x ∧ ∀ a ∈ st.bs, a.pages.length ≤ 255) ⟨p2, c2, [], s1⟩ ⟨by rw [e2]; rfl, hr, by simp, by simp⟩ (by show Fit _ _ [(2, .ptr 0 0), (3, .v (.int .i64 0)), (4, .ptr 1 0), (5, .ptr 2 0), (27, .v (.int .i64 (N : Int))), (28, .v (.int .i64 0))] [(⟨true, [.v (.int .i64 0), .v (.int .i64 0), .v (.int .i64 0), .v (.int .i64 0), .v (.slice none 0 0)]⟩ : SObj), rdO (.v (.slice p2 s1.1.length c2)) s1.2, (⟨true, [.v (.int .i64 g.ch), .v (.int .i64 g.di), .v (.int .i64 g.bl), .v (.int .i64 g.pa), .v (.slice none 0 0)]⟩ : SObj), (⟨false, []⟩ : SObj)]; exact (by refine ⟨[0, 1, 2, 2], by simp [NdL, NdA, oO_cells, oO_own, iL_nil], ?_, ?_, keep0 hJ⟩ <;> simp only [FitM, FitE, ObLe, LeL, Le, List.cons_append, List.nil_append] <;> (try (simp (maxSteps := 2000000) -implicitDefEqProofs only [le_v, or_true, Sz.extLe_no, s_alt, s_alt20, s_alt2t, s_alt2f, ↓s_loopi, ↓v_pq, ↓PRE, POST, CORE, Nat.reduceDiv, Nat.reduceMod, Int.reduceLT, Int.reduceLE, Int.reduceToNat, Int.reduceAdd, ↓reduceIte, Nat.reduceEqDiff, Nat.reduceAdd, Nat.reduceMul, Nat.reduceSub, Nat.reduceLeDiff, Nat.reduceLT, reduceCtorEq, if_true, eq_self, forall_const, implies_true])) <;> (try simp only [Sz.Le, Sz.LeL, List.getElem?_cons_zero, List.getElem?_cons_succ]) <;> (try simp))) ?_ ?_)
      · intro x st hx hI
        obtain ⟨sp, sc, bs, s2⟩ := st
        obtain ⟨i1, i2, i3, i4⟩ := hI
        simp only at i1 i2 i3 i4
        have j1 : decide ((x : Int) < (N : Int)) = true := decide_eq_true (by omega)
        have w1 : IntKind.i64.wrap ((x : Int) + 1) = (x : Int) + 1 := Sz.w_64 (by omega) (by omega)
        have eN : N - x = (N - (x + 1)) + 1 := by omega
        rw [eN] at i1
        by_cases h2 : s2.2 = 0
        · have d2 : (s2.2 == 0) = true := by simpa using h2
          have i1 : blocksF smF (N - (x + 1)) (bs ++ [(blockF smF s2).1]) (blockF smF s2).2 = blocksF smF N [] (startS (g, s1)) := by rw [← i1]; exact (if_pos h2).symm
          simp (maxSteps := 2000000) -implicitDefEqProofs only [j1, d2, ↓G15, ↓c56, s_alt, s_alt20, s_alt2t, s_alt2f, ↓s_loopi, ↓v_pq, ↓PRE, POST, CORE, Nat.reduceDiv, Nat.reduceMod, Int.reduceLT, Int.reduceLE, Int.reduceToNat, Int.reduceAdd, ↓reduceIte, Nat.reduceEqDiff, Nat.reduceAdd, Nat.reduceMul, Nat.reduceSub, Nat.reduceLeDiff, Nat.reduceLT, reduceCtorEq, if_true, eq_self, forall_const, implies_true]
          have hl : (bkCs 4 bs).length = bs.length * 3 := bkCs_len 4 bs
          have hbs : bs.length ≤ 64 := by omega
          refine ⟨?_, ?_⟩ <;> (refine ⟨1, sp, sc, s2, rfl, rfl, i2 J hfJ, fun p3 c3 hr3 => ?_⟩)
          · have hpl := blockF_pl (s := s2) (i2 J hfJ).2.2.2
            generalize blockF smF s2 = B at i1 hr3 hpl ⊢
            obtain ⟨⟨bad, er, pgs⟩, s3⟩ := B
            generalize hX : (if pgs = [] then ([] : Mem) else [⟨true, pgC pgs⟩]) = X
            have hYY : ∀ o, (pgM bs ++ X ++ [o])[(pgM bs).length + X.length]? = some o := fun o => by
              rw [List.getElem?_append_right (by simp), List.length_append, Nat.sub_self]; rfl
            simp only [List.length_cons, List.set_cons_succ, List.set_cons_zero, List.cons_append, hX]
            simp (maxSteps := 2000000) -implicitDefEqProofs only [o_sl, o_grows, o_kill, o_len, o_cap, o_isl, o_le, o_cells, o_one, oOk_c, oOk_o, oO_cells, oO_own, oV_s, oV_0, oO_nil, oO_iL, iL_nil, iL_snoc, List.length_append, hl, w1, hYY, s_alt, s_alt20, s_alt2t, s_alt2f, ↓s_loopi, ↓v_pq, ↓PRE, POST, CORE, Nat.reduceDiv, Nat.reduceMod, Int.reduceLT, Int.reduceLE, Int.reduceToNat, Int.reduceAdd, ↓reduceIte, Nat.reduceEqDiff, Nat.reduceAdd, Nat.reduceMul, Nat.reduceSub, Nat.reduceLeDiff, Nat.reduceLT, reduceCtorEq, if_true, eq_self, forall_const, implies_true]
            rw [show (pgM bs).length + X.length + 1 + 1 + 1 + 1 + 1 = 4 + bs.length + X.length + 1 by rw [pgM_len]; omega, show (pgM bs).length + 1 + 1 + 1 + 1 = 4 + bs.length by rw [pgM_len]; omega]
            rw [show bkCs 4 bs ++ [.v (.bool bad), .v (.int .i64 er), oV (4 + bs.length) 3 pgs.length] = bkCs 4 (bs ++ [⟨bad, er, pgs⟩]) from (bkCs_snoc 4 bs ⟨bad, er, pgs⟩).symm]
            refine ⟨⟨by unfold maxLen; omega, by omega⟩, ⟨p3, c3, bs ++ [⟨bad, er, pgs⟩], s3⟩, ⟨i1, i2.trans hr3, by simp only [List.length_append, List.length_cons, List.length_nil]; omega, fun a ha => by rcases List.mem_append.1 ha with ha | ha; exact i4 a ha; rw [List.mem_singleton.1 ha]; exact hpl⟩, gI bs.length X.length, NdL_of gI_nd, ?_, ?_, keep0 hJ⟩
            · exact fit15 (b := ⟨bad, er, pgs⟩) hX.symm (ho3 := ⟨_, _, _, rfl⟩) (ge := [.v (.int .i64 g.ch), .v (.int .i64 g.di), .v (.int .i64 g.bl), .v (.int .i64 g.pa)]) (fun _ => .inr ⟨id, LeL_plain _ (plainL_v [_, _, _, _, _]), trivial⟩) (fun _ => .inr ⟨id, LeL_plain _ (plainL_v [_, _]), trivial⟩) (fun _ => LeL_plain _ (plainL_v [_, _, _, _]))
            · simp only [FitE, Le, gI, List.getElem?_cons_zero, List.getElem?_cons_succ]
              simp (maxSteps := 2000000) -implicitDefEqProofs only [Int.natCast_add, Int.natCast_one, s_alt, s_alt20, s_alt2t, s_alt2f, ↓s_loopi, ↓v_pq, ↓PRE, POST, CORE, Nat.reduceDiv, Nat.reduceMod, Int.reduceLT, Int.reduceLE, Int.reduceToNat, Int.reduceAdd, ↓reduceIte, Nat.reduceEqDiff, Nat.reduceAdd, Nat.reduceMul, Nat.reduceSub, Nat.reduceLeDiff, Nat.reduceLT, reduceCtorEq, if_true, eq_self, forall_const, implies_true]
              try simp
          · have hpl := blockF_pl (s := s2) (i2 J hfJ).2.2.2
            generalize blockF smF s2 = B at i1 hr3 hpl ⊢
            obtain ⟨⟨bad, er, pgs⟩, s3⟩ := B
            generalize hX : (if pgs = [] then ([] : Mem) else [⟨true, pgC pgs⟩]) = X
            have hYY : ∀ o, (pgM bs ++ X ++ [o])[(pgM bs).length + X.length]? = some o := fun o => by
              rw [List.getElem?_append_right (by simp), List.length_append, Nat.sub_self]; rfl
            simp only [hX, List.length_cons, List.set_cons_succ, List.set_cons_zero, List.cons_append, hX]
            simp (maxSteps := 2000000) -implicitDefEqProofs only [o_sl, o_grows, o_kill, o_len, o_cap, o_isl, o_le, o_cells, o_one, oOk_c, oOk_o, oO_cells, oO_own, oV_s, oV_0, oO_nil, oO_iL, iL_nil, iL_snoc, List.length_append, hl, w1, hYY, s_alt, s_alt20, s_alt2t, s_alt2f, ↓s_loopi, ↓v_pq, ↓PRE, POST, CORE, Nat.reduceDiv, Nat.reduceMod, Int.reduceLT, Int.reduceLE, Int.reduceToNat, Int.reduceAdd, ↓reduceIte, Nat.reduceEqDiff, Nat.reduceAdd, Nat.reduceMul, Nat.reduceSub, Nat.reduceLeDiff, Nat.reduceLT, reduceCtorEq, if_true, eq_self, forall_const, implies_true]
            rw [show (pgM bs).length + X.length + 1 + 1 + 1 + 1 + 1 = 4 + bs.length + X.length + 1 by rw [pgM_len]; omega, show (pgM bs).length + 1 + 1 + 1 + 1 = 4 + bs.length by rw [pgM_len]; omega]
            rw [show bkCs 4 bs ++ [.v (.bool bad), .v (.int .i64 er), oV (4 + bs.length) 3 pgs.length] = bkCs 4 (bs ++ [⟨bad, er, pgs⟩]) from (bkCs_snoc 4 bs ⟨bad, er, pgs⟩).symm]
            refine ⟨⟨by unfold maxLen; omega, by omega⟩, ⟨p3, c3, bs ++ [⟨bad, er, pgs⟩], s3⟩, ⟨i1, i2.trans hr3, by simp only [List.length_append, List.length_cons, List.length_nil]; omega, fun a ha => by rcases List.mem_append.1 ha with ha | ha; exact i4 a ha; rw [List.mem_singleton.1 ha]; exact hpl⟩, gI bs.length X.length, NdL_of gI_nd, ?_, ?_, keep0 hJ⟩
            · exact fit15 (b := ⟨bad, er, pgs⟩) hX.symm (ho3 := ⟨_, _, _, rfl⟩) (ge := [.v (.int .i64 g.ch), .v (.int .i64 g.di), .v (.int .i64 g.bl), .v (.int .i64 g.pa)]) (fun _ => .inr ⟨id, LeL_plain _ (plainL_v [_, _, _, _, _]), trivial⟩) (fun _ => .inr ⟨id, LeL_plain _ (plainL_v [_, _]), trivial⟩) (fun _ => LeL_plain _ (plainL_v [_, _, _, _]))
            · simp only [FitE, Le, gI, List.getElem?_cons_zero, List.getElem?_cons_succ]
              simp (maxSteps := 2000000) -implicitDefEqProofs only [Int.natCast_add, Int.natCast_one, s_alt, s_alt20, s_alt2t, s_alt2f, ↓s_loopi, ↓v_pq, ↓PRE, POST, CORE, Nat.reduceDiv, Nat.reduceMod, Int.reduceLT, Int.reduceLE, Int.reduceToNat, Int.reduceAdd, ↓reduceIte, Nat.reduceEqDiff, Nat.reduceAdd, Nat.reduceMul, Nat.reduceSub, Nat.reduceLeDiff, Nat.reduceLT, reduceCtorEq, if_true, eq_self, forall_const, implies_true]
              try simp
        · have d2 : (s2.2 == 0) = false := by simpa using h2
          have i1 : blocksF smF (N - (x + 1)) bs s2 = blocksF smF N [] (startS (g, s1)) := by rw [← i1]; exact (if_neg h2).symm
          simp (maxSteps := 2000000) -implicitDefEqProofs only [j1, d2, w1, s_alt, s_alt20, s_alt2t, s_alt2f, ↓s_loopi, ↓v_pq, ↓PRE, POST, CORE, Nat.reduceDiv, Nat.reduceMod, Int.reduceLT, Int.reduceLE, Int.reduceToNat, Int.reduceAdd, ↓reduceIte, Nat.reduceEqDiff, Nat.reduceAdd, Nat.reduceMul, Nat.reduceSub, Nat.reduceLeDiff, Nat.reduceLT, reduceCtorEq, if_true, eq_self, forall_const, implies_true]
          refine ⟨⟨sp, sc, bs, s2⟩, ⟨i1, i2, by simp only; omega, i4⟩, gS bs.length, NdL_of gS_nd, ?_, ?_, keep0 hJ⟩
          · exact fit15s (ge := [.v (.int .i64 g.ch), .v (.int .i64 g.di), .v (.int .i64 g.bl), .v (.int .i64 g.pa)]) (fun _ => .inr ⟨id, LeL_plain _ (plainL_v [_, _, _, _, _]), trivial⟩) (fun _ => .inr ⟨id, LeL_plain _ (plainL_v [_, _]), trivial⟩) (fun g s h => by simp [LeL, Le, h])
          · simp only [FitE, Le, gS, List.getElem?_cons_zero, List.getElem?_cons_succ]
            simp (maxSteps := 2000000) -implicitDefEqProofs only [Int.natCast_add, Int.natCast_one, s_alt, s_alt20, s_alt2t, s_alt2f, ↓s_loopi, ↓v_pq, ↓PRE, POST, CORE, Nat.reduceDiv, Nat.reduceMod, Int.reduceLT, Int.reduceLE, Int.reduceToNat, Int.reduceAdd, ↓reduceIte, Nat.reduceEqDiff, Nat.reduceAdd, Nat.reduceMul, Nat.reduceSub, Nat.reduceLeDiff, Nat.reduceLT, reduceCtorEq, if_true, eq_self, forall_const, implies_true]
            try simp
      · intro st hI
        obtain ⟨sp, sc, bs, s2⟩ := st
        obtain ⟨i1, i2, i3, i4⟩ := hI
        simp only at i1 i2 i3 i4
        rw [Nat.sub_self] at i1
        have i1 : (bs, s2) = blocksF smF N [] (startS (g, s1)) := i1
        rw [← i1] at hke hk0
        have j1 : decide ((N : Int) < (N : Int)) = false := decide_eq_false (by omega)
        have fin : ∀ (e : Int) (m' : Mem), k (.tup [.agg [.v (.int .i64 0), .v (.int .i64 0), .v (.int .i64 0), .v (.int .i64 0), .v (.slice none 0 0)], .v (.int .i64 e)]) m →
            ∃ (g2 : List Nat) (s2 : SV) (m2 : Mem), g2.Nodup ∧ FitM g2 m' g2 m2 ∧ (∀ o ∈ m2, o.own = true) ∧ Le g2 s2 (.tup [.agg [.v (.int .i64 0), .v (.int .i64 0), .v (.int .i64 0), .v (.int .i64 0), .v (.slice none 0 0)], .v (.int .i64 e)]) ∧ k (s2.up m.length) (m ++ m2.map (SObj.up m.length)) := fun e m' hk =>
          ⟨[], .tup [.agg [.v (.int .i64 0), .v (.int .i64 0), .v (.int .i64 0), .v (.int .i64 0), .v (.slice none 0 0)], .v (.int .i64 e)], [], by simp, trivial, by simp, by simp [Le, LeL], by simpa [SV.up, upL] using hk⟩
        by_cases h2 : s2.2 = 0
        · have d2 : (s2.2 == 0) = true := by simpa using h2
          by_cases h3 : s2.1 = []
          · have d3 : decide ((0 : Int) < (s2.1.length : Int)) = false := by rw [h3]; rfl
            simp (maxSteps := 2000000) -implicitDefEqProofs only [j1, d2, d3, ↓G15, ↓c45, s_alt, s_alt20, s_alt2t, s_alt2f, ↓s_loopi, ↓v_pq, ↓PRE, POST, CORE, Nat.reduceDiv, Nat.reduceMod, Int.reduceLT, Int.reduceLE, Int.reduceToNat, Int.reduceAdd, ↓reduceIte, Nat.reduceEqDiff, Nat.reduceAdd, Nat.reduceMul, Nat.reduceSub, Nat.reduceLeDiff, Nat.reduceLT, reduceCtorEq, if_true, eq_self, forall_const, implies_true]
            refine ⟨_, g, bs, rfl, ⟨oV 3 3 bs.length, bkCs 4 bs, rfl, ?_, blk_own 4 bs fun i a ha => ?_⟩, by omega, fun a ha => by have := i4 a ha; omega, ?_⟩
            · rw [o_sl (by show oOk1 (some (oO (bkCs 4 bs))) _ _; rw [oOk_o]; exact ⟨bkCs_len 4 bs, by omega⟩)]
              rfl
            · rw [show 4 + i = i + 1 + 1 + 1 + 1 by omega]
              simp only [List.getElem?_cons_succ]
              unfold pgM
              rw [List.getElem?_map, ha]
              rfl
            cases hm : mayF g bs with
            | false =>
              have eE : endE g (bs, s2) = 2 := by unfold endE; rw [if_pos ⟨h2, .inr hm⟩]
              rw [eE] at hke
              simp (maxSteps := 2000000) -implicitDefEqProofs only [Bool.not_false, ↓c54, s_alt, s_alt20, s_alt2t, s_alt2f, ↓s_loopi, ↓v_pq, ↓PRE, POST, CORE, Nat.reduceDiv, Nat.reduceMod, Int.reduceLT, Int.reduceLE, Int.reduceToNat, Int.reduceAdd, ↓reduceIte, Nat.reduceEqDiff, Nat.reduceAdd, Nat.reduceMul, Nat.reduceSub, Nat.reduceLeDiff, Nat.reduceLT, reduceCtorEq, if_true, eq_self, forall_const, implies_true]
              refine ⟨1, _, _, _, rfl, rfl, ?_⟩
              rw [if_pos h2]
              have d4 : ((2 : Int) != 0) = true := rfl
              simp (maxSteps := 2000000) -implicitDefEqProofs only [d4, s_alt, s_alt20, s_alt2t, s_alt2f, ↓s_loopi, ↓v_pq, ↓PRE, POST, CORE, Nat.reduceDiv, Nat.reduceMod, Int.reduceLT, Int.reduceLE, Int.reduceToNat, Int.reduceAdd, ↓reduceIte, Nat.reduceEqDiff, Nat.reduceAdd, Nat.reduceMul, Nat.reduceSub, Nat.reduceLeDiff, Nat.reduceLT, reduceCtorEq, if_true, eq_self, forall_const, implies_true]
              exact fin _ _ (hke (by decide))
            | true =>
              have eE : endE g (bs, s2) = 0 := by unfold endE; rw [if_neg (fun h => h.2.elim (fun h => h h3) (fun h => by simp [hm] at h))]; exact h2
              have hk0 := hk0 eE
              have d4 : (s2.2 != 0) = false := by rw [h2]; rfl
              simp (maxSteps := 2000000) -implicitDefEqProofs only [Bool.not_true, d4, s_alt, s_alt20, s_alt2t, s_alt2f, ↓s_loopi, ↓v_pq, ↓PRE, POST, CORE, Nat.reduceDiv, Nat.reduceMod, Int.reduceLT, Int.reduceLE, Int.reduceToNat, Int.reduceAdd, ↓reduceIte, Nat.reduceEqDiff, Nat.reduceAdd, Nat.reduceMul, Nat.reduceSub, Nat.reduceLeDiff, Nat.reduceLT, reduceCtorEq, if_true, eq_self, forall_const, implies_true]
              have hne : bs ≠ [] := by
                intro h
                unfold mayF at hm
                simp only [Bool.and_eq_true, beq_iff_eq] at hm
                have h5 := (chk_in.1 hm.1).2
                have h6 := hm.2.1
                rw [h] at h6
                unfold nB at h6
                rw [if_pos hm.1] at h6
                simp only [List.length_nil] at h6
                omega
              have hbo : oO (bkCs 4 bs) = ⟨true, bkCs 4 bs⟩ := by
                cases bs with
                | nil => exact (hne rfl).elim
                | cons a l => rfl
              refine ⟨o_one, 3 :: List.range' 4 bs.length, .tup [.agg (g.sv ++ [oV 0 3 bs.length]), .v (.int .i64 0)], ⟨true, bkCs 1 bs⟩ :: pgM bs, ?_, ?_, ?_, ?_, ?_⟩
              · exact List.nodup_cons.2 ⟨by simp only [List.mem_range'_1]; omega, List.nodup_range'⟩
              · exact fit_tail bs hbo
              · intro o ho
                rcases List.mem_cons.1 ho with rfl | ho
                · rfl
                · exact pgM_own bs o ho
              · simp [Le, LeL, Ge.sv, o_le]
              · rw [show (SV.tup [.agg (g.sv ++ [oV 0 3 bs.length]), .v (.int .i64 0)]).up m.length = .tup [.agg (g.sv ++ [oV m.length 3 bs.length]), .v (.int .i64 0)] by simp [SV.up, upL, Ge.sv, o_up]]
                rw [List.map_cons, pgM_up, show SObj.up m.length ⟨true, bkCs 1 bs⟩ = ⟨true, bkCs (m.length + 1) bs⟩ by simp only [SObj.up, bkCs_up]]
                refine hk0 _ _ (@pic_own I (m ++ (⟨true, bkCs (m.length + 1) bs⟩ :: pgM bs)) g bs m.length (by rw [List.getElem?_append_right (Nat.le_refl _), Nat.sub_self]; rfl) (fun i a ha => ?_) hne)
                rw [List.getElem?_append_right (by omega), show m.length + 1 + i - m.length = i + 1 by omega, List.getElem?_cons_succ]
                unfold pgM
                rw [List.getElem?_map, ha]
                rfl
          · have d3 : decide ((0 : Int) < (s2.1.length : Int)) = true := by
              have : s2.1.length ≠ 0 := fun h => h3 (List.length_eq_zero_iff.1 h)
              exact decide_eq_true (by omega)
            have eE : endE g (bs, s2) = 2 := by unfold endE; rw [if_pos ⟨h2, .inl h3⟩]
            rw [eE] at hke
            simp (maxSteps := 2000000) -implicitDefEqProofs only [j1, d2, d3, ↓G15, ↓c54, s_alt, s_alt20, s_alt2t, s_alt2f, ↓s_loopi, ↓v_pq, ↓PRE, POST, CORE, Nat.reduceDiv, Nat.reduceMod, Int.reduceLT, Int.reduceLE, Int.reduceToNat, Int.reduceAdd, ↓reduceIte, Nat.reduceEqDiff, Nat.reduceAdd, Nat.reduceMul, Nat.reduceSub, Nat.reduceLeDiff, Nat.reduceLT, reduceCtorEq, if_true, eq_self, forall_const, implies_true]
            refine ⟨1, _, _, _, rfl, rfl, ?_⟩
            rw [if_pos h2]
            have d4 : ((2 : Int) != 0) = true := rfl
            simp (maxSteps := 2000000) -implicitDefEqProofs only [d4, s_alt, s_alt20, s_alt2t, s_alt2f, ↓s_loopi, ↓v_pq, ↓PRE, POST, CORE, Nat.reduceDiv, Nat.reduceMod, Int.reduceLT, Int.reduceLE, Int.reduceToNat, Int.reduceAdd, ↓reduceIte, Nat.reduceEqDiff, Nat.reduceAdd, Nat.reduceMul, Nat.reduceSub, Nat.reduceLeDiff, Nat.reduceLT, reduceCtorEq, if_true, eq_self, forall_const, implies_true]
            exact fin _ _ (hke (by decide))
        · have d2 : (s2.2 == 0) = false := by simpa using h2
          have d4 : (s2.2 != 0) = true := by simpa using h2
          have eE : endE g (bs, s2) = s2.2 := by unfold endE; rw [if_neg (fun h => h2 h.1)]
          rw [eE] at hke
          have hke := hke h2
          simp (maxSteps := 2000000) -implicitDefEqProofs only [j1, d2, d4, s_alt, s_alt20, s_alt2t, s_alt2f, ↓s_loopi, ↓v_pq, ↓PRE, POST, CORE, Nat.reduceDiv, Nat.reduceMod, Int.reduceLT, Int.reduceLE, Int.reduceToNat, Int.reduceAdd, ↓reduceIte, Nat.reduceEqDiff, Nat.reduceAdd, Nat.reduceMul, Nat.reduceSub, Nat.reduceLeDiff, Nat.reduceLT, reduceCtorEq, if_true, eq_self, forall_const, implies_true]
          exact fin _ _ hke
    · have d2 : (e53 != 0) = true := by
        have : e53 ≠ 0 := fun h => hg (h53.1 h)
        simpa using this
      have e2 : startS (g, s1) = (s1.1, 2) := by unfold startS; rw [if_pos ⟨he, by simpa using hg⟩]
      simp (maxSteps := 2000000) -implicitDefEqProofs only [d2, ↓G15, ↓c54, s_alt, s_alt20, s_alt2t, s_alt2f, ↓s_loopi, ↓v_pq, ↓PRE, POST, CORE, Nat.reduceDiv, Nat.reduceMod, Int.reduceLT, Int.reduceLE, Int.reduceToNat, Int.reduceAdd, ↓reduceIte, Nat.reduceEqDiff, Nat.reduceAdd, Nat.reduceMul, Nat.reduceSub, Nat.reduceLeDiff, Nat.reduceLT, reduceCtorEq, if_true, eq_self, forall_const, implies_true]
      refine ⟨1, _, _, _, rfl, rfl, ?_⟩
      rw [if_pos he]
      simp (maxSteps := 2000000) -implicitDefEqProofs only [↓c55, s_alt, s_alt20, s_alt2t, s_alt2f, ↓s_loopi, ↓v_pq, ↓PRE, POST, CORE, Nat.reduceDiv, Nat.reduceMod, Int.reduceLT, Int.reduceLE, Int.reduceToNat, Int.reduceAdd, ↓reduceIte, Nat.reduceEqDiff, Nat.reduceAdd, Nat.reduceMul, Nat.reduceSub, Nat.reduceLeDiff, Nat.reduceLT, reduceCtorEq, if_true, eq_self, forall_const, implies_true]
      refine ⟨g, rfl, ?_⟩
      rw [hnb]
      refine TXi_of (TX_countS (@g15 J) N (σ := St15) (fun x st => [(2, .ptr 0 0), (3, .v (.int .i64 0)), (4, .ptr 1 0), (5, .ptr 2 0), (27, .v (.int .i64 (N : Int))), (28, .v (.int .i64 (x : Int)))])
        (fun x st => (⟨true, [.v (.int .i64 0), .v (.int .i64 0), .v (.int .i64 0), .v (.int .i64 0), .v (.slice none 0 0)]⟩ : SObj) :: rdO (.v (.slice st.p st.s.1.length st.c)) st.s.2 :: (⟨true, [.v (.int .i64 g.ch), .v (.int .i64 g.di), .v (.int .i64 g.bl), .v (.int .i64 g.pa), oV 3 3 st.bs.length]⟩ : SObj) :: oO (bkCs 4 st.bs) :: pgM st.bs)
        (fun x st => blocksF smF (N - x) st.bs st.s = blocksF smF N [] (startS (g, s1)) ∧ Rl p c b st.p st.c st.s.1 ∧ st.bs.length ≤ x ∧ ∀ a ∈ st.bs, a.pages.length ≤ 255) ⟨p2, c2, [], (s1.1, 2)⟩ ⟨by rw [e2]; rfl, hr, by simp, by simp⟩ (by show Fit _ _ [(2, .ptr 0 0), (3, .v (.int .i64 0)), (4, .ptr 1 0), (5, .ptr 2 0), (27, .v (.int .i64 (N : Int))), (28, .v (.int .i64 0))] [(⟨true, [.v (.int .i64 0), .v (.int .i64 0), .v (.int .i64 0), .v (.int .i64 0), .v (.slice none 0 0)]⟩ : SObj), rdO (.v (.slice p2 s1.1.length c2)) 2, (⟨true, [.v (.int .i64 g.ch), .v (.int .i64 g.di), .v (.int .i64 g.bl), .v (.int .i64 g.pa), .v (.slice none 0 0)]⟩ : SObj), (⟨false, []⟩ : SObj)]; exact (by refine ⟨[0, 1, 2, 2], by simp [NdL, NdA, oO_cells, oO_own, iL_nil], ?_, ?_, keep0 hJ⟩ <;> simp only [FitM, FitE, ObLe, LeL, Le, List.cons_append, List.nil_append] <;> (try (simp (maxSteps := 2000000) -implicitDefEqProofs only [le_v, or_true, Sz.extLe_no, s_alt, s_alt20, s_alt2t, s_alt2f, ↓s_loopi, ↓v_pq, ↓PRE, POST, CORE, Nat.reduceDiv, Nat.reduceMod, Int.reduceLT, Int.reduceLE, Int.reduceToNat, Int.reduceAdd, ↓reduceIte, Nat.reduceEqDiff, Nat.reduceAdd, Nat.reduceMul, Nat.reduceSub, Nat.reduceLeDiff, Nat.reduceLT, reduceCtorEq, if_true, eq_self, forall_const, implies_true])) <;> (try simp only [Sz.Le, Sz.LeL, List.getElem?_cons_zero, List.getElem?_cons_succ]) <;> (try simp))) ?_ ?_)
      · intro x st hx hI
        obtain ⟨sp, sc, bs, s2⟩ := st
        obtain ⟨i1, i2, i3, i4⟩ := hI
        simp only at i1 i2 i3 i4
        have j1 : decide ((x : Int) < (N : Int)) = true := decide_eq_true (by omega)
        have w1 : IntKind.i64.wrap ((x : Int) + 1) = (x : Int) + 1 := Sz.w_64 (by omega) (by omega)
        have eN : N - x = (N - (x + 1)) + 1 := by omega
        rw [eN] at i1
        by_cases h2 : s2.2 = 0
        · have d2 : (s2.2 == 0) = true := by simpa using h2
          have i1 : blocksF smF (N - (x + 1)) (bs ++ [(blockF smF s2).1]) (blockF smF s2).2 = blocksF smF N [] (startS (g, s1)) := by rw [← i1]; exact (if_pos h2).symm
          simp (maxSteps := 2000000) -implicitDefEqProofs only [j1, d2, ↓G15, ↓c56, s_alt, s_alt20, s_alt2t, s_alt2f, ↓s_loopi, ↓v_pq, ↓PRE, POST, CORE, Nat.reduceDiv, Nat.reduceMod, Int.reduceLT, Int.reduceLE, Int.reduceToNat, Int.reduceAdd, ↓reduceIte, Nat.reduceEqDiff, Nat.reduceAdd, Nat.reduceMul, Nat.reduceSub, Nat.reduceLeDiff, Nat.reduceLT, reduceCtorEq, if_true, eq_self, forall_const, implies_true]
          have hl : (bkCs 4 bs).length = bs.length * 3 := bkCs_len 4 bs
          have hbs : bs.length ≤ 64 := by omega
          refine ⟨?_, ?_⟩ <;> (refine ⟨1, sp, sc, s2, rfl, rfl, i2 J hfJ, fun p3 c3 hr3 => ?_⟩)
          · have hpl := blockF_pl (s := s2) (i2 J hfJ).2.2.2
            generalize blockF smF s2 = B at i1 hr3 hpl ⊢
            obtain ⟨⟨bad, er, pgs⟩, s3⟩ := B
            generalize hX : (if pgs = [] then ([] : Mem) else [⟨true, pgC pgs⟩]) = X
            have hYY : ∀ o, (pgM bs ++ X ++ [o])[(pgM bs).length + X.length]? = some o := fun o => by
              rw [List.getElem?_append_right (by simp), List.length_append, Nat.sub_self]; rfl
            simp only [List.length_cons, List.set_cons_succ, List.set_cons_zero, List.cons_append, hX]
            simp (maxSteps := 2000000) -implicitDefEqProofs only [o_sl, o_grows, o_kill, o_len, o_cap, o_isl, o_le, o_cells, o_one, oOk_c, oOk_o, oO_cells, oO_own, oV_s, oV_0, oO_nil, oO_iL, iL_nil, iL_snoc, List.length_append, hl, w1, hYY, s_alt, s_alt20, s_alt2t, s_alt2f, ↓s_loopi, ↓v_pq, ↓PRE, POST, CORE, Nat.reduceDiv, Nat.reduceMod, Int.reduceLT, Int.reduceLE, Int.reduceToNat, Int.reduceAdd, ↓reduceIte, Nat.reduceEqDiff, Nat.reduceAdd, Nat.reduceMul, Nat.reduceSub, Nat.reduceLeDiff, Nat.reduceLT, reduceCtorEq, if_true, eq_self, forall_const, implies_true]
            rw [show (pgM bs).length + X.length + 1 + 1 + 1 + 1 + 1 = 4 + bs.length + X.length + 1 by rw [pgM_len]; omega, show (pgM bs).length + 1 + 1 + 1 + 1 = 4 + bs.length by rw [pgM_len]; omega]
            rw [show bkCs 4 bs ++ [.v (.bool bad), .v (.int .i64 er), oV (4 + bs.length) 3 pgs.length] = bkCs 4 (bs ++ [⟨bad, er, pgs⟩]) from (bkCs_snoc 4 bs ⟨bad, er, pgs⟩).symm]
            refine ⟨⟨by unfold maxLen; omega, by omega⟩, ⟨p3, c3, bs ++ [⟨bad, er, pgs⟩], s3⟩, ⟨i1, i2.trans hr3, by simp only [List.length_append, List.length_cons, List.length_nil]; omega, fun a ha => by rcases List.mem_append.1 ha with ha | ha; exact i4 a ha; rw [List.mem_singleton.1 ha]; exact hpl⟩, gI bs.length X.length, NdL_of gI_nd, ?_, ?_, keep0 hJ⟩
            · exact fit15 (b := ⟨bad, er, pgs⟩) hX.symm (ho3 := ⟨_, _, _, rfl⟩) (ge := [.v (.int .i64 g.ch), .v (.int .i64 g.di), .v (.int .i64 g.bl), .v (.int .i64 g.pa)]) (fun _ => .inr ⟨id, LeL_plain _ (plainL_v [_, _, _, _, _]), trivial⟩) (fun _ => .inr ⟨id, LeL_plain _ (plainL_v [_, _]), trivial⟩) (fun _ => LeL_plain _ (plainL_v [_, _, _, _]))
            · simp only [FitE, Le, gI, List.getElem?_cons_zero, List.getElem?_cons_succ]
              simp (maxSteps := 2000000) -implicitDefEqProofs only [Int.natCast_add, Int.natCast_one, s_alt, s_alt20, s_alt2t, s_alt2f, ↓s_loopi, ↓v_pq, ↓PRE, POST, CORE, Nat.reduceDiv, Nat.reduceMod, Int.reduceLT, Int.reduceLE, Int.reduceToNat, Int.reduceAdd, ↓reduceIte, Nat.reduceEqDiff, Nat.reduceAdd, Nat.reduceMul, Nat.reduceSub, Nat.reduceLeDiff, Nat.reduceLT, reduceCtorEq, if_true, eq_self, forall_const, implies_true]
              try simp
          · have hpl := blockF_pl (s := s2) (i2 J hfJ).2.2.2
            generalize blockF smF s2 = B at i1 hr3 hpl ⊢
            obtain ⟨⟨bad, er, pgs⟩, s3⟩ := B
            generalize hX : (if pgs = [] then ([] : Mem) else [⟨true, pgC pgs⟩]) = X
            have hYY : ∀ o, (pgM bs ++ X ++ [o])[(pgM bs).length + X.length]? = some o := fun o => by
              rw [List.getElem?_append_right (by simp), List.length_append, Nat.sub_self]; rfl
            simp only [hX, List.length_cons, List.set_cons_succ, List.set_cons_zero, List.cons_append, hX]
            simp (maxSteps := 2000000) -implicitDefEqProofs only [o_sl, o_grows, o_kill, o_len, o_cap, o_isl, o_le, o_cells, o_one, oOk_c, oOk_o, oO_cells, oO_own, oV_s, oV_0, oO_nil, oO_iL, iL_nil, iL_snoc, List.length_append, hl, w1, hYY, s_alt, s_alt20, s_alt2t, s_alt2f, ↓s_loopi, ↓v_pq, ↓PRE, POST, CORE, Nat.reduceDiv, Nat.reduceMod, Int.reduceLT, Int.reduceLE, Int.reduceToNat, Int.reduceAdd, ↓reduceIte, Nat.reduceEqDiff, Nat.reduceAdd, Nat.reduceMul, Nat.reduceSub, Nat.reduceLeDiff, Nat.reduceLT, reduceCtorEq, if_true, eq_self, forall_const, implies_true]
            rw [show (pgM bs).length + X.length + 1 + 1 + 1 + 1 + 1 = 4 + bs.length + X.length + 1 by rw [pgM_len]; omega, show (pgM bs).length + 1 + 1 + 1 + 1 = 4 + bs.length by rw [pgM_len]; omega]
            rw [show bkCs 4 bs ++ [.v (.bool bad), .v (.int .i64 er), oV (4 + bs.length) 3 pgs.length] = bkCs 4 (bs ++ [⟨bad, er, pgs⟩]) from (bkCs_snoc 4 bs ⟨bad, er, pgs⟩).symm]
            refine ⟨⟨by unfold maxLen; omega, by omega⟩, ⟨p3, c3, bs ++ [⟨bad, er, pgs⟩], s3⟩, ⟨i1, i2.trans hr3, by simp only [List.length_append, List.length_cons, List.length_nil]; omega, fun a ha => by rcases List.mem_append.1 ha with ha | ha; exact i4 a ha; rw [List.mem_singleton.1 ha]; exact hpl⟩, gI bs.length X.length, NdL_of gI_nd, ?_, ?_, keep0 hJ⟩
            · exact fit15 (b := ⟨bad, er, pgs⟩) hX.symm (ho3 := ⟨_, _, _, rfl⟩) (ge := [.v (.int .i64 g.ch), .v (.int .i64 g.di), .v (.int .i64 g.bl), .v (.int .i64 g.pa)]) (fun _ => .inr ⟨id, LeL_plain _ (plainL_v [_, _, _, _, _]), trivial⟩) (fun _ => .inr ⟨id, LeL_plain _ (plainL_v [_, _]), trivial⟩) (fun _ => LeL_plain _ (plainL_v [_, _, _, _]))
            · simp only [FitE, Le, gI, List.getElem?_cons_zero, List.getElem?_cons_succ]
              simp (maxSteps := 2000000) -implicitDefEqProofs only [Int.natCast_add, Int.natCast_one, s_alt, s_alt20, s_alt2t, s_alt2f, ↓s_loopi, ↓v_pq, ↓PRE, POST, CORE, Nat.reduceDiv, Nat.reduceMod, Int.reduceLT, Int.reduceLE, Int.reduceToNat, Int.reduceAdd, ↓reduceIte, Nat.reduceEqDiff, Nat.reduceAdd, Nat.reduceMul, Nat.reduceSub, Nat.reduceLeDiff, Nat.reduceLT, reduceCtorEq, if_true, eq_self, forall_const, implies_true]
              try simp
        · have d2 : (s2.2 == 0) = false := by simpa using h2
          have i1 : blocksF smF (N - (x + 1)) bs s2 = blocksF smF N [] (startS (g, s1)) := by rw [← i1]; exact (if_neg h2).symm
          simp (maxSteps := 2000000) -implicitDefEqProofs only [j1, d2, w1, s_alt, s_alt20, s_alt2t, s_alt2f, ↓s_loopi, ↓v_pq, ↓PRE, POST, CORE, Nat.reduceDiv, Nat.reduceMod, Int.reduceLT, Int.reduceLE, Int.reduceToNat, Int.reduceAdd, ↓reduceIte, Nat.reduceEqDiff, Nat.reduceAdd, Nat.reduceMul, Nat.reduceSub, Nat.reduceLeDiff, Nat.reduceLT, reduceCtorEq, if_true, eq_self, forall_const, implies_true]
          refine ⟨⟨sp, sc, bs, s2⟩, ⟨i1, i2, by simp only; omega, i4⟩, gS bs.length, NdL_of gS_nd, ?_, ?_, keep0 hJ⟩
          · exact fit15s (ge := [.v (.int .i64 g.ch), .v (.int .i64 g.di), .v (.int .i64 g.bl), .v (.int .i64 g.pa)]) (fun _ => .inr ⟨id, LeL_plain _ (plainL_v [_, _, _, _, _]), trivial⟩) (fun _ => .inr ⟨id, LeL_plain _ (plainL_v [_, _]), trivial⟩) (fun g s h => by simp [LeL, Le, h])
          · simp only [FitE, Le, gS, List.getElem?_cons_zero, List.getElem?_cons_succ]
            simp (maxSteps := 2000000) -implicitDefEqProofs only [Int.natCast_add, Int.natCast_one, s_alt, s_alt20, s_alt2t, s_alt2f, ↓s_loopi, ↓v_pq, ↓PRE, POST, CORE, Nat.reduceDiv, Nat.reduceMod, Int.reduceLT, Int.reduceLE, Int.reduceToNat, Int.reduceAdd, ↓reduceIte, Nat.reduceEqDiff, Nat.reduceAdd, Nat.reduceMul, Nat.reduceSub, Nat.reduceLeDiff, Nat.reduceLT, reduceCtorEq, if_true, eq_self, forall_const, implies_true]
            try simp
      · intro st hI
        obtain ⟨sp, sc, bs, s2⟩ := st
        obtain ⟨i1, i2, i3, i4⟩ := hI
        simp only at i1 i2 i3 i4
        rw [Nat.sub_self] at i1
        have i1 : (bs, s2) = blocksF smF N [] (startS (g, s1)) := i1
        rw [← i1] at hke hk0
        have j1 : decide ((N : Int) < (N : Int)) = false := decide_eq_false (by omega)
        have fin : ∀ (e : Int) (m' : Mem), k (.tup [.agg [.v (.int .i64 0), .v (.int .i64 0), .v (.int .i64 0), .v (.int .i64 0), .v (.slice none 0 0)], .v (.int .i64 e)]) m →
            ∃ (g2 : List Nat) (s2 : SV) (m2 : Mem), g2.Nodup ∧ FitM g2 m' g2 m2 ∧ (∀ o ∈ m2, o.own = true) ∧ Le g2 s2 (.tup [.agg [.v (.int .i64 0), .v (.int .i64 0), .v (.int .i64 0), .v (.int .i64 0), .v (.slice none 0 0)], .v (.int .i64 e)]) ∧ k (s2.up m.length) (m ++ m2.map (SObj.up m.length)) := fun e m' hk =>
          ⟨[], .tup [.agg [.v (.int .i64 0), .v (.int .i64 0), .v (.int .i64 0), .v (.int .i64 0), .v (.slice none 0 0)], .v (.int .i64 e)], [], by simp, trivial, by simp, by simp [Le, LeL], by simpa [SV.up, upL] using hk⟩
        by_cases h2 : s2.2 = 0
        · have d2 : (s2.2 == 0) = true := by simpa using h2
          by_cases h3 : s2.1 = []
          · have d3 : decide ((0 : Int) < (s2.1.length : Int)) = false := by rw [h3]; rfl
            simp (maxSteps := 2000000) -implicitDefEqProofs only [j1, d2, d3, ↓G15, ↓c45, s_alt, s_alt20, s_alt2t, s_alt2f, ↓s_loopi, ↓v_pq, ↓PRE, POST, CORE, Nat.reduceDiv, Nat.reduceMod, Int.reduceLT, Int.reduceLE, Int.reduceToNat, Int.reduceAdd, ↓reduceIte, Nat.reduceEqDiff, Nat.reduceAdd, Nat.reduceMul, Nat.reduceSub, Nat.reduceLeDiff, Nat.reduceLT, reduceCtorEq, if_true, eq_self, forall_const, implies_true]
            refine ⟨_, g, bs, rfl, ⟨oV 3 3 bs.length, bkCs 4 bs, rfl, ?_, blk_own 4 bs fun i a ha => ?_⟩, by omega, fun a ha => by have := i4 a ha; omega, ?_⟩
            · rw [o_sl (by show oOk1 (some (oO (bkCs 4 bs))) _ _; rw [oOk_o]; exact ⟨bkCs_len 4 bs, by omega⟩)]
              rfl
            · rw [show 4 + i = i + 1 + 1 + 1 + 1 by omega]
              simp only [List.getElem?_cons_succ]
              unfold pgM
              rw [List.getElem?_map, ha]
              rfl
            cases hm : mayF g bs with
            | false =>
              have eE : endE g (bs, s2) = 2 := by unfold endE; rw [if_pos ⟨h2, .inr hm⟩]
              rw [eE] at hke
              simp (maxSteps := 2000000) -implicitDefEqProofs only [Bool.not_false, ↓c54, s_alt, s_alt20, s_alt2t, s_alt2f, ↓s_loopi, ↓v_pq, ↓PRE, POST, CORE, Nat.reduceDiv, Nat.reduceMod, Int.reduceLT, Int.reduceLE, Int.reduceToNat, Int.reduceAdd, ↓reduceIte, Nat.reduceEqDiff, Nat.reduceAdd, Nat.reduceMul, Nat.reduceSub, Nat.reduceLeDiff, Nat.reduceLT, reduceCtorEq, if_true, eq_self, forall_const, implies_true]
              refine ⟨1, _, _, _, rfl, rfl, ?_⟩
              rw [if_pos h2]
              have d4 : ((2 : Int) != 0) = true := rfl
              simp (maxSteps := 2000000) -implicitDefEqProofs only [d4, s_alt, s_alt20, s_alt2t, s_alt2f, ↓s_loopi, ↓v_pq, ↓PRE, POST, CORE, Nat.reduceDiv, Nat.reduceMod, Int.reduceLT, Int.reduceLE, Int.reduceToNat, Int.reduceAdd, ↓reduceIte, Nat.reduceEqDiff, Nat.reduceAdd, Nat.reduceMul, Nat.reduceSub, Nat.reduceLeDiff, Nat.reduceLT, reduceCtorEq, if_true, eq_self, forall_const, implies_true]
              exact fin _ _ (hke (by decide))
            | true =>
              have eE : endE g (bs, s2) = 0 := by unfold endE; rw [if_neg (fun h => h.2.elim (fun h => h h3) (fun h => by simp [hm] at h))]; exact h2
              have hk0 := hk0 eE
              have d4 : (s2.2 != 0) = false := by rw [h2]; rfl
              simp (maxSteps := 2000000) -implicitDefEqProofs only [Bool.not_true, d4, s_alt, s_alt20, s_alt2t, s_alt2f, ↓s_loopi, ↓v_pq, ↓PRE, POST, CORE, Nat.reduceDiv, Nat.reduceMod, Int.reduceLT, Int.reduceLE, Int.reduceToNat, Int.reduceAdd, ↓reduceIte, Nat.reduceEqDiff, Nat.reduceAdd, Nat.reduceMul, Nat.reduceSub, Nat.reduceLeDiff, Nat.reduceLT, reduceCtorEq, if_true, eq_self, forall_const, implies_true]
              have hne : bs ≠ [] := by
                intro h
                unfold mayF at hm
                simp only [Bool.and_eq_true, beq_iff_eq] at hm
                have h5 := (chk_in.1 hm.1).2
                have h6 := hm.2.1
                rw [h] at h6
                unfold nB at h6
                rw [if_pos hm.1] at h6
                simp only [List.length_nil] at h6
                omega
              have hbo : oO (bkCs 4 bs) = ⟨true, bkCs 4 bs⟩ := by
                cases bs with
                | nil => exact (hne rfl).elim
                | cons a l => rfl
              refine ⟨o_one, 3 :: List.range' 4 bs.length, .tup [.agg (g.sv ++ [oV 0 3 bs.length]), .v (.int .i64 0)], ⟨true, bkCs 1 bs⟩ :: pgM bs, ?_, ?_, ?_, ?_, ?_⟩
              · exact List.nodup_cons.2 ⟨by simp only [List.mem_range'_1]; omega, List.nodup_range'⟩
              · exact fit_tail bs hbo
              · intro o ho
                rcases List.mem_cons.1 ho with rfl | ho
                · rfl
                · exact pgM_own bs o ho
              · simp [Le, LeL, Ge.sv, o_le]
              · rw [show (SV.tup [.agg (g.sv ++ [oV 0 3 bs.length]), .v (.int .i64 0)]).up m.length = .tup [.agg (g.sv ++ [oV m.length 3 bs.length]), .v (.int .i64 0)] by simp [SV.up, upL, Ge.sv, o_up]]
                rw [List.map_cons, pgM_up, show SObj.up m.length ⟨true, bkCs 1 bs⟩ = ⟨true, bkCs (m.length + 1) bs⟩ by simp only [SObj.up, bkCs_up]]
                refine hk0 _ _ (@pic_own I (m ++ (⟨true, bkCs (m.length + 1) bs⟩ :: pgM bs)) g bs m.length (by rw [List.getElem?_append_right (Nat.le_refl _), Nat.sub_self]; rfl) (fun i a ha => ?_) hne)
                rw [List.getElem?_append_right (by omega), show m.length + 1 + i - m.length = i + 1 by omega, List.getElem?_cons_succ]
                unfold pgM
                rw [List.getElem?_map, ha]
                rfl
          · have d3 : decide ((0 : Int) < (s2.1.length : Int)) = true := by
              have : s2.1.length ≠ 0 := fun h => h3 (List.length_eq_zero_iff.1 h)
              exact decide_eq_true (by omega)
            have eE : endE g (bs, s2) = 2 := by unfold endE; rw [if_pos ⟨h2, .inl h3⟩]
            rw [eE] at hke
            simp (maxSteps := 2000000) -implicitDefEqProofs only [j1, d2, d3, ↓G15, ↓c54, s_alt, s_alt20, s_alt2t, s_alt2f, ↓s_loopi, ↓v_pq, ↓PRE, POST, CORE, Nat.reduceDiv, Nat.reduceMod, Int.reduceLT, Int.reduceLE, Int.reduceToNat, Int.reduceAdd, ↓reduceIte, Nat.reduceEqDiff, Nat.reduceAdd, Nat.reduceMul, Nat.reduceSub, Nat.reduceLeDiff, Nat.reduceLT, reduceCtorEq, if_true, eq_self, forall_const, implies_true]
            refine ⟨1, _, _, _, rfl, rfl, ?_⟩
            rw [if_pos h2]
            have d4 : ((2 : Int) != 0) = true := rfl
            simp (maxSteps := 2000000) -implicitDefEqProofs only [d4, s_alt, s_alt20, s_alt2t, s_alt2f, ↓s_loopi, ↓v_pq, ↓PRE, POST, CORE, Nat.reduceDiv, Nat.reduceMod, Int.reduceLT, Int.reduceLE, Int.reduceToNat, Int.reduceAdd, ↓reduceIte, Nat.reduceEqDiff, Nat.reduceAdd, Nat.reduceMul, Nat.reduceSub, Nat.reduceLeDiff, Nat.reduceLT, reduceCtorEq, if_true, eq_self, forall_const, implies_true]
            exact fin _ _ (hke (by decide))
        · have d2 : (s2.2 == 0) = false := by simpa using h2
          have d4 : (s2.2 != 0) = true := by simpa using h2
          have eE : endE g (bs, s2) = s2.2 := by unfold endE; rw [if_neg (fun h => h2 h.1)]
          rw [eE] at hke
          have hke := hke h2
          simp (maxSteps := 2000000) -implicitDefEqProofs only [j1, d2, d4, s_alt, s_alt20, s_alt2t, s_alt2f, ↓s_loopi, ↓v_pq, ↓PRE, POST, CORE, Nat.reduceDiv, Nat.reduceMod, Int.reduceLT, Int.reduceLE, Int.reduceToNat, Int.reduceAdd, ↓reduceIte, Nat.reduceEqDiff, Nat.reduceAdd, Nat.reduceMul, Nat.reduceSub, Nat.reduceLeDiff, Nat.reduceLT, reduceCtorEq, if_true, eq_self, forall_const, implies_true]
          exact fin _ _ hke
  · have d1 : (s1.2 == 0) = false := by simpa using he
    have e2 : startS (g, s1) = s1 := by unfold startS; rw [if_neg (fun h => he h.1)]
    simp (maxSteps := 2000000) -implicitDefEqProofs only [d1, geO, ↓G15, ↓c55, s_alt, s_alt20, s_alt2t, s_alt2f, ↓s_loopi, ↓v_pq, ↓PRE, POST, CORE, Nat.reduceDiv, Nat.reduceMod, Int.reduceLT, Int.reduceLE, Int.reduceToNat, Int.reduceAdd, ↓reduceIte, Nat.reduceEqDiff, Nat.reduceAdd, Nat.reduceMul, Nat.reduceSub, Nat.reduceLeDiff, Nat.reduceLT, reduceCtorEq, if_true, eq_self, forall_const, implies_true]
    refine ⟨g, rfl, ?_⟩
    rw [hnb]
    refine TXi_of (TX_countS (@g15 J) N (σ := St15) (fun x st => [(2, .ptr 0 0), (3, .v (.int .i64 0)), (4, .ptr 1 0), (5, .ptr 2 0), (27, .v (.int .i64 (N : Int))), (28, .v (.int .i64 (x : Int)))])
      (fun x st => (⟨true, [.v (.int .i64 0), .v (.int .i64 0), .v (.int .i64 0), .v (.int .i64 0), .v (.slice none 0 0)]⟩ : SObj) :: rdO (.v (.slice st.p st.s.1.length st.c)) st.s.2 :: (⟨true, [.v (.int .i64 g.ch), .v (.int .i64 g.di), .v (.int .i64 g.bl), .v (.int .i64 g.pa), oV 3 3 st.bs.length]⟩ : SObj) :: oO (bkCs 4 st.bs) :: pgM st.bs)
      (fun x st => blocksF smF (N - x) st.bs st.s = blocksF smF N [] (startS (g, s1)) ∧ Rl p c b st.p st.c st.s.1 ∧ st.bs.length ≤ x ∧ ∀ a ∈ st.bs, a.pages.length ≤ 255) ⟨p2, c2, [], s1⟩ ⟨by rw [e2]; rfl, hr, by simp, by simp⟩ (by show Fit _ _ [(2, .ptr 0 0), (3, .v (.int .i64 0)), (4, .ptr 1 0), (5, .ptr 2 0), (27, .v (.int .i64 (N : Int))), (28, .v (.int .i64 0))] [(⟨true, [.v (.int .i64 0), .v (.int .i64 0), .v (.int .i64 0), .v (.int .i64 0), .v (.slice none 0 0)]⟩ : SObj), rdO (.v (.slice p2 s1.1.length c2)) s1.2, (⟨true, [.v (.int .i64 g.ch), .v (.int .i64 g.di), .v (.int .i64 g.bl), .v (.int .i64 g.pa), .v (.slice none 0 0)]⟩ : SObj), (⟨false, []⟩ : SObj)]; exact (by refine ⟨[0, 1, 2, 2], by simp [NdL, NdA, oO_cells, oO_own, iL_nil], ?_, ?_, keep0 hJ⟩ <;> simp only [FitM, FitE, ObLe, LeL, Le, List.cons_append, List.nil_append] <;> (try (simp (maxSteps := 2000000) -implicitDefEqProofs only [le_v, or_true, Sz.extLe_no, s_alt, s_alt20, s_alt2t, s_alt2f, ↓s_loopi, ↓v_pq, ↓PRE, POST, CORE, Nat.reduceDiv, Nat.reduceMod, Int.reduceLT, Int.reduceLE, Int.reduceToNat, Int.reduceAdd, ↓reduceIte, Nat.reduceEqDiff, Nat.reduceAdd, Nat.reduceMul, Nat.reduceSub, Nat.reduceLeDiff, Nat.reduceLT, reduceCtorEq, if_true, eq_self, forall_const, implies_true])) <;> (try simp only [Sz.Le, Sz.LeL, List.getElem?_cons_zero, List.getElem?_cons_succ]) <;> (try simp))) ?_ ?_)
    · intro x st hx hI
      obtain ⟨sp, sc, bs, s2⟩ := st
      obtain ⟨i1, i2, i3, i4⟩ := hI
      simp only at i1 i2 i3 i4
      have j1 : decide ((x : Int) < (N : Int)) = true := decide_eq_true (by omega)
      have w1 : IntKind.i64.wrap ((x : Int) + 1) = (x : Int) + 1 := Sz.w_64 (by omega) (by omega)
      have eN : N - x = (N - (x + 1)) + 1 := by omega
      rw [eN] at i1
      by_cases h2 : s2.2 = 0
      · have d2 : (s2.2 == 0) = true := by simpa using h2
        have i1 : blocksF smF (N - (x + 1)) (bs ++ [(blockF smF s2).1]) (blockF smF s2).2 = blocksF smF N [] (startS (g, s1)) := by rw [← i1]; exact (if_pos h2).symm
        simp (maxSteps := 2000000) -implicitDefEqProofs only [j1, d2, ↓G15, ↓c56, s_alt, s_alt20, s_alt2t, s_alt2f, ↓s_loopi, ↓v_pq, ↓PRE, POST, CORE, Nat.reduceDiv, Nat.reduceMod, Int.reduceLT, Int.reduceLE, Int.reduceToNat, Int.reduceAdd, ↓reduceIte, Nat.reduceEqDiff, Nat.reduceAdd, Nat.reduceMul, Nat.reduceSub, Nat.reduceLeDiff, Nat.reduceLT, reduceCtorEq, if_true, eq_self, forall_const, implies_true]
        have hl : (bkCs 4 bs).length = bs.length * 3 := bkCs_len 4 bs
        have hbs : bs.length ≤ 64 := by omega
        refine ⟨?_, ?_⟩ <;> (refine ⟨1, sp, sc, s2, rfl, rfl, i2 J hfJ, fun p3 c3 hr3 => ?_⟩)
        · have hpl := blockF_pl (s := s2) (i2 J hfJ).2.2.2
          generalize blockF smF s2 = B at i1 hr3 hpl ⊢
          obtain ⟨⟨bad, er, pgs⟩, s3⟩ := B
          generalize hX : (if pgs = [] then ([] : Mem) else [⟨true, pgC pgs⟩]) = X
          have hYY : ∀ o, (pgM bs ++ X ++ [o])[(pgM bs).length + X.length]? = some o := fun o => by
            rw [List.getElem?_append_right (by simp), List.length_append, Nat.sub_self]; rfl
          simp only [List.length_cons, List.set_cons_succ, List.set_cons_zero, List.cons_append, hX]
          simp (maxSteps := 2000000) -implicitDefEqProofs only [o_sl, o_grows, o_kill, o_len, o_cap, o_isl, o_le, o_cells, o_one, oOk_c, oOk_o, oO_cells, oO_own, oV_s, oV_0, oO_nil, oO_iL, iL_nil, iL_snoc, List.length_append, hl, w1, hYY, s_alt, s_alt20, s_alt2t, s_alt2f, ↓s_loopi, ↓v_pq, ↓PRE, POST, CORE, Nat.reduceDiv, Nat.reduceMod, Int.reduceLT, Int.reduceLE, Int.reduceToNat, Int.reduceAdd, ↓reduceIte, Nat.reduceEqDiff, Nat.reduceAdd, Nat.reduceMul, Nat.reduceSub, Nat.reduceLeDiff, Nat.reduceLT, reduceCtorEq, if_true, eq_self, forall_const, implies_true]
          rw [show (pgM bs).length + X.length + 1 + 1 + 1 + 1 + 1 = 4 + bs.length + X.length + 1 by rw [pgM_len]; omega, show (pgM bs).length + 1 + 1 + 1 + 1 = 4 + bs.length by rw [pgM_len]; omega]
          rw [show bkCs 4 bs ++ [.v (.bool bad), .v (.int .i64 er), oV (4 + bs.length) 3 pgs.length] = bkCs 4 (bs ++ [⟨bad, er, pgs⟩]) from (bkCs_snoc 4 bs ⟨bad, er, pgs⟩).symm]
          refine ⟨⟨by unfold maxLen; omega, by omega⟩, ⟨p3, c3, bs ++ [⟨bad, er, pgs⟩], s3⟩, ⟨i1, i2.trans hr3, by simp only [List.length_append, List.length_cons, List.length_nil]; omega, fun a ha => by rcases List.mem_append.1 ha with ha | ha; exact i4 a ha; rw [List.mem_singleton.1 ha]; exact hpl⟩, gI bs.length X.length, NdL_of gI_nd, ?_, ?_, keep0 hJ⟩
          · exact fit15 (b := ⟨bad, er, pgs⟩) hX.symm (ho3 := ⟨_, _, _, rfl⟩) (ge := [.v (.int .i64 g.ch), .v (.int .i64 g.di), .v (.int .i64 g.bl), .v (.int .i64 g.pa)]) (fun _ => .inr ⟨id, LeL_plain _ (plainL_v [_, _, _, _, _]), trivial⟩) (fun _ => .inr ⟨id, LeL_plain _ (plainL_v [_, _]), trivial⟩) (fun _ => LeL_plain _ (plainL_v [_, _, _, _]))
          · simp only [FitE, Le, gI, List.getElem?_cons_zero, List.getElem?_cons_succ]
            simp (maxSteps := 2000000) -implicitDefEqProofs only [Int.natCast_add, Int.natCast_one, s_alt, s_alt20, s_alt2t, s_alt2f, ↓s_loopi, ↓v_pq, ↓PRE, POST, CORE, Nat.reduceDiv, Nat.reduceMod, Int.reduceLT, Int.reduceLE, Int.reduceToNat, Int.reduceAdd, ↓reduceIte, Nat.reduceEqDiff, Nat.reduceAdd, Nat.reduceMul, Nat.reduceSub, Nat.reduceLeDiff, Nat.reduceLT, reduceCtorEq, if_true, eq_self, forall_const, implies_true]
            try simp
        · have hpl := blockF_pl (s := s2) (i2 J hfJ).2.2.2
          generalize blockF smF s2 = B at i1 hr3 hpl ⊢
          obtain ⟨⟨bad, er, pgs⟩, s3⟩ := B
          generalize hX : (if pgs = [] then ([] : Mem) else [⟨true, pgC pgs⟩]) = X
          have hYY : ∀ o, (pgM bs ++ X ++ [o])[(pgM bs).length + X.length]? = some o := fun o => by
            rw [List.getElem?_append_right (by simp), List.length_append, Nat.sub_self]; rfl
          simp only [hX, List.length_cons, List.set_cons_succ, List.set_cons_zero, List.cons_append, hX]
          simp (maxSteps := 2000000) -implicitDefEqProofs only [o_sl, o_grows, o_kill, o_len, o_cap, o_isl, o_le, o_cells, o_one, oOk_c, oOk_o, oO_cells, oO_own, oV_s, oV_0, oO_nil, oO_iL, iL_nil, iL_snoc, List.length_append, hl, w1, hYY, s_alt, s_alt20, s_alt2t, s_alt2f, ↓s_loopi, ↓v_pq, ↓PRE, POST, CORE, Nat.reduceDiv, Nat.reduceMod, Int.reduceLT, Int.reduceLE, Int.reduceToNat, Int.reduceAdd, ↓reduceIte, Nat.reduceEqDiff, Nat.reduceAdd, Nat.reduceMul, Nat.reduceSub, Nat.reduceLeDiff, Nat.reduceLT, reduceCtorEq, if_true, eq_self, forall_const, implies_true]
          rw [show (pgM bs).length + X.length + 1 + 1 + 1 + 1 + 1 = 4 + bs.length + X.length + 1 by rw [pgM_len]; omega, show (pgM bs).length + 1 + 1 + 1 + 1 = 4 + bs.length by rw [pgM_len]; omega]
          rw [show bkCs 4 bs ++ [.v (.bool bad), .v (.int .i64 er), oV (4 + bs.length) 3 pgs.length] = bkCs 4 (bs ++ [⟨bad, er, pgs⟩]) from (bkCs_snoc 4 bs ⟨bad, er, pgs⟩).symm]
          refine ⟨⟨by unfold maxLen; omega, by omega⟩, ⟨p3, c3, bs ++ [⟨bad, er, pgs⟩], s3⟩, ⟨i1, i2.trans hr3, by simp only [List.length_append, List.length_cons, List.length_nil]; omega, fun a ha => by rcases List.mem_append.1 ha with ha | ha; exact i4 a ha; rw [List.mem_singleton.1 ha]; exact hpl⟩, gI bs.length X.length, NdL_of gI_nd, ?_, ?_, keep0 hJ⟩
          · exact fit15 (b := ⟨bad, er, pgs⟩) hX.symm (ho3 := ⟨_, _, _, rfl⟩) (ge := [.v (.int .i64 g.ch), .v (.int .i64 g.di), .v (.int .i64 g.bl), .v (.int .i64 g.pa)]) (fun _ => .inr ⟨id, LeL_plain _ (plainL_v [_, _, _, _, _]), trivial⟩) (fun _ => .inr ⟨id, LeL_plain _ (plainL_v [_, _]), trivial⟩) (fun _ => LeL_plain _ (plainL_v [_, _, _, _]))
          · simp only [FitE, Le, gI, List.getElem?_cons_zero, List.getElem?_cons_succ]
            simp (maxSteps := 2000000) -implicitDefEqProofs only [Int.natCast_add, Int.natCast_one, s_alt, s_alt20, s_alt2t, s_alt2f, ↓s_loopi, ↓v_pq, ↓PRE, POST, CORE, Nat.reduceDiv, Nat.reduceMod, Int.reduceLT, Int.reduceLE, Int.reduceToNat, Int.reduceAdd, ↓reduceIte, Nat.reduceEqDiff, Nat.reduceAdd, Nat.reduceMul, Nat.reduceSub, Nat.reduceLeDiff, Nat.reduceLT, reduceCtorEq, if_true, eq_self, forall_const, implies_true]
            try simp
      · have d2 : (s2.2 == 0) = false := by simpa using h2
        have i1 : blocksF smF (N - (x + 1)) bs s2 = blocksF smF N [] (startS (g, s1)) := by rw [← i1]; exact (if_neg h2).symm
        simp (maxSteps := 2000000) -implicitDefEqProofs only [j1, d2, w1, s_alt, s_alt20, s_alt2t, s_alt2f, ↓s_loopi, ↓v_pq, ↓PRE, POST, CORE, Nat.reduceDiv, Nat.reduceMod, Int.reduceLT, Int.reduceLE, Int.reduceToNat, Int.reduceAdd, ↓reduceIte, Nat.reduceEqDiff, Nat.reduceAdd, Nat.reduceMul, Nat.reduceSub, Nat.reduceLeDiff, Nat.reduceLT, reduceCtorEq, if_true, eq_self, forall_const, implies_true]
        refine ⟨⟨sp, sc, bs, s2⟩, ⟨i1, i2, by simp only; omega, i4⟩, gS bs.length, NdL_of gS_nd, ?_, ?_, keep0 hJ⟩
        · exact fit15s (ge := [.v (.int .i64 g.ch), .v (.int .i64 g.di), .v (.int .i64 g.bl), .v (.int .i64 g.pa)]) (fun _ => .inr ⟨id, LeL_plain _ (plainL_v [_, _, _, _, _]), trivial⟩) (fun _ => .inr ⟨id, LeL_plain _ (plainL_v [_, _]), trivial⟩) (fun g s h => by simp [LeL, Le, h])
        · simp only [FitE, Le, gS, List.getElem?_cons_zero, List.getElem?_cons_succ]
          simp (maxSteps := 2000000) -implicitDefEqProofs only [Int.natCast_add, Int.natCast_one, s_alt, s_alt20, s_alt2t, s_alt2f, ↓s_loopi, ↓v_pq, ↓PRE, POST, CORE, Nat.reduceDiv, Nat.reduceMod, Int.reduceLT, Int.reduceLE, Int.reduceToNat, Int.reduceAdd, ↓reduceIte, Nat.reduceEqDiff, Nat.reduceAdd, Nat.reduceMul, Nat.reduceSub, Nat.reduceLeDiff, Nat.reduceLT, reduceCtorEq, if_true, eq_self, forall_const, implies_true]
          try simp
    · intro st hI
      obtain ⟨sp, sc, bs, s2⟩ := st
      obtain ⟨i1, i2, i3, i4⟩ := hI
      simp only at i1 i2 i3 i4
      rw [Nat.sub_self] at i1
      have i1 : (bs, s2) = blocksF smF N [] (startS (g, s1)) := i1
      rw [← i1] at hke hk0
      have j1 : decide ((N : Int) < (N : Int)) = false := decide_eq_false (by omega)
      have fin : ∀ (e : Int) (m' : Mem), k (.tup [.agg [.v (.int .i64 0), .v (.int .i64 0), .v (.int .i64 0), .v (.int .i64 0), .v (.slice none 0 0)], .v (.int .i64 e)]) m →
          ∃ (g2 : List Nat) (s2 : SV) (m2 : Mem), g2.Nodup ∧ FitM g2 m' g2 m2 ∧ (∀ o ∈ m2, o.own = true) ∧ Le g2 s2 (.tup [.agg [.v (.int .i64 0), .v (.int .i64 0), .v (.int .i64 0), .v (.int .i64 0), .v (.slice none 0 0)], .v (.int .i64 e)]) ∧ k (s2.up m.length) (m ++ m2.map (SObj.up m.length)) := fun e m' hk =>
        ⟨[], .tup [.agg [.v (.int .i64 0), .v (.int .i64 0), .v (.int .i64 0), .v (.int .i64 0), .v (.slice none 0 0)], .v (.int .i64 e)], [], by simp, trivial, by simp, by simp [Le, LeL], by simpa [SV.up, upL] using hk⟩
      by_cases h2 : s2.2 = 0
      · have d2 : (s2.2 == 0) = true := by simpa using h2
        by_cases h3 : s2.1 = []
        · have d3 : decide ((0 : Int) < (s2.1.length : Int)) = false := by rw [h3]; rfl
          simp (maxSteps := 2000000) -implicitDefEqProofs only [j1, d2, d3, ↓G15, ↓c45, s_alt, s_alt20, s_alt2t, s_alt2f, ↓s_loopi, ↓v_pq, ↓PRE, POST, CORE, Nat.reduceDiv, Nat.reduceMod, Int.reduceLT, Int.reduceLE, Int.reduceToNat, Int.reduceAdd, ↓reduceIte, Nat.reduceEqDiff, Nat.reduceAdd, Nat.reduceMul, Nat.reduceSub, Nat.reduceLeDiff, Nat.reduceLT, reduceCtorEq, if_true, eq_self, forall_const, implies_true]
          refine ⟨_, g, bs, rfl, ⟨oV 3 3 bs.length, bkCs 4 bs, rfl, ?_, blk_own 4 bs fun i a ha => ?_⟩, by omega, fun a ha => by have := i4 a ha; omega, ?_⟩
          · rw [o_sl (by show oOk1 (some (oO (bkCs 4 bs))) _ _; rw [oOk_o]; exact ⟨bkCs_len 4 bs, by omega⟩)]
            rfl
          · rw [show 4 + i = i + 1 + 1 + 1 + 1 by omega]
            simp only [List.getElem?_cons_succ]
            unfold pgM
            rw [List.getElem?_map, ha]
            rfl
          cases hm : mayF g bs with
          | false =>
            have eE : endE g (bs, s2) = 2 := by unfold endE; rw [if_pos ⟨h2, .inr hm⟩]
            rw [eE] at hke
            simp (maxSteps := 2000000) -implicitDefEqProofs only [Bool.not_false, ↓c54, s_alt, s_alt20, s_alt2t, s_alt2f, ↓s_loopi, ↓v_pq, ↓PRE, POST, CORE, Nat.reduceDiv, Nat.reduceMod, Int.reduceLT, Int.reduceLE, Int.reduceToNat, Int.reduceAdd, ↓reduceIte, Nat.reduceEqDiff, Nat.reduceAdd, Nat.reduceMul, Nat.reduceSub, Nat.reduceLeDiff, Nat.reduceLT, reduceCtorEq, if_true, eq_self, forall_const, implies_true]
            refine ⟨1, _, _, _, rfl, rfl, ?_⟩
            rw [if_pos h2]
            have d4 : ((2 : Int) != 0) = true := rfl
            simp (maxSteps := 2000000) -implicitDefEqProofs only [d4, s_alt, s_alt20, s_alt2t, s_alt2f, ↓s_loopi, ↓v_pq, ↓PRE, POST, CORE, Nat.reduceDiv, Nat.reduceMod, Int.reduceLT, Int.reduceLE, Int.reduceToNat, Int.reduceAdd, ↓reduceIte, Nat.reduceEqDiff, Nat.reduceAdd, Nat.reduceMul, Nat.reduceSub, Nat.reduceLeDiff, Nat.reduceLT, reduceCtorEq, if_true, eq_self, forall_const, implies_true]
            exact fin _ _ (hke (by decide))
          | true =>
            have eE : endE g (bs, s2) = 0 := by unfold endE; rw [if_neg (fun h => h.2.elim (fun h => h h3) (fun h => by simp [hm] at h))]; exact h2
            have hk0 := hk0 eE
            have d4 : (s2.2 != 0) = false := by rw [h2]; rfl
            simp (maxSteps := 2000000) -implicitDefEqProofs only [Bool.not_true, d4, s_alt, s_alt20, s_alt2t, s_alt2f, ↓s_loopi, ↓v_pq, ↓PRE, POST, CORE, Nat.reduceDiv, Nat.reduceMod, Int.reduceLT, Int.reduceLE, Int.reduceToNat, Int.reduceAdd, ↓reduceIte, Nat.reduceEqDiff, Nat.reduceAdd, Nat.reduceMul, Nat.reduceSub, Nat.reduceLeDiff, Nat.reduceLT, reduceCtorEq, if_true, eq_self, forall_const, implies_true]
            have hne : bs ≠ [] := by
              intro h
              unfold mayF at hm
              simp only [Bool.and_eq_true, beq_iff_eq] at hm
              have h5 := (chk_in.1 hm.1).2
              have h6 := hm.2.1
              rw [h] at h6
              unfold nB at h6
              rw [if_pos hm.1] at h6
              simp only [List.length_nil] at h6
              omega
            have hbo : oO (bkCs 4 bs) = ⟨true, bkCs 4 bs⟩ := by
              cases bs with
              | nil => exact (hne rfl).elim
              | cons a l => rfl
            refine ⟨o_one, 3 :: List.range' 4 bs.length, .tup [.agg (g.sv ++ [oV 0 3 bs.length]), .v (.int .i64 0)], ⟨true, bkCs 1 bs⟩ :: pgM bs, ?_, ?_, ?_, ?_, ?_⟩
            · exact List.nodup_cons.2 ⟨by simp only [List.mem_range'_1]; omega, List.nodup_range'⟩
            · exact fit_tail bs hbo
            · intro o ho
              rcases List.mem_cons.1 ho with rfl | ho
              · rfl
              · exact pgM_own bs o ho
            · simp [Le, LeL, Ge.sv, o_le]
            · rw [show (SV.tup [.agg (g.sv ++ [oV 0 3 bs.length]), .v (.int .i64 0)]).up m.length = .tup [.agg (g.sv ++ [oV m.length 3 bs.length]), .v (.int .i64 0)] by simp [SV.up, upL, Ge.sv, o_up]]
              rw [List.map_cons, pgM_up, show SObj.up m.length ⟨true, bkCs 1 bs⟩ = ⟨true, bkCs (m.length + 1) bs⟩ by simp only [SObj.up, bkCs_up]]
              refine hk0 _ _ (@pic_own I (m ++ (⟨true, bkCs (m.length + 1) bs⟩ :: pgM bs)) g bs m.length (by rw [List.getElem?_append_right (Nat.le_refl _), Nat.sub_self]; rfl) (fun i a ha => ?_) hne)
              rw [List.getElem?_append_right (by omega), show m.length + 1 + i - m.length = i + 1 by omega, List.getElem?_cons_succ]
              unfold pgM
              rw [List.getElem?_map, ha]
              rfl
        · have d3 : decide ((0 : Int) < (s2.1.length : Int)) = true := by
            have : s2.1.length ≠ 0 := fun h => h3 (List.length_eq_zero_iff.1 h)
            exact decide_eq_true (by omega)
          have eE : endE g (bs, s2) = 2 := by unfold endE; rw [if_pos ⟨h2, .inl h3⟩]
          rw [eE] at hke
          simp (maxSteps := 2000000) -implicitDefEqProofs only [j1, d2, d3, ↓G15, ↓c54, s_alt, s_alt20, s_alt2t, s_alt2f, ↓s_loopi, ↓v_pq, ↓PRE, POST, CORE, Nat.reduceDiv, Nat.reduceMod, Int.reduceLT, Int.reduceLE, Int.reduceToNat, Int.reduceAdd, ↓reduceIte, Nat.reduceEqDiff, Nat.reduceAdd, Nat.reduceMul, Nat.reduceSub, Nat.reduceLeDiff, Nat.reduceLT, reduceCtorEq, if_true, eq_self, forall_const, implies_true]
          refine ⟨1, _, _, _, rfl, rfl, ?_⟩
          rw [if_pos h2]
          have d4 : ((2 : Int) != 0) = true := rfl
          simp (maxSteps := 2000000) -implicitDefEqProofs only [d4, s_alt, s_alt20, s_alt2t, s_alt2f, ↓s_loopi, ↓v_pq, ↓PRE, POST, CORE, Nat.reduceDiv, Nat.reduceMod, Int.reduceLT, Int.reduceLE, Int.reduceToNat, Int.reduceAdd, ↓reduceIte, Nat.reduceEqDiff, Nat.reduceAdd, Nat.reduceMul, Nat.reduceSub, Nat.reduceLeDiff, Nat.reduceLT, reduceCtorEq, if_true, eq_self, forall_const, implies_true]
          exact fin _ _ (hke (by decide))
      · have d2 : (s2.2 == 0) = false := by simpa using h2
        have d4 : (s2.2 != 0) = true := by simpa using h2
        have eE : endE g (bs, s2) = s2.2 := by unfold endE; rw [if_neg (fun h => h2 h.1)]
        rw [eE] at hke
        have hke := hke h2
        simp (maxSteps := 2000000) -implicitDefEqProofs only [j1, d2, d4, s_alt, s_alt20, s_alt2t, s_alt2f, ↓s_loopi, ↓v_pq, ↓PRE, POST, CORE, Nat.reduceDiv, Nat.reduceMod, Int.reduceLT, Int.reduceLE, Int.reduceToNat, Int.reduceAdd, ↓reduceIte, Nat.reduceEqDiff, Nat.reduceAdd, Nat.reduceMul, Nat.reduceSub, Nat.reduceLeDiff, Nat.reduceLT, reduceCtorEq, if_true, eq_self, forall_const, implies_true]
        exact fin _ _ hke
end Go.Proofs.Ytibefgdjijmncaa
end
section
namespace Go.Proofs.Ytibefgdjijmncaa
open Go.RowKit Sz
def smallB (bs : List Bk) : Prop := bs.length ≤ 140737488355328 ∧ ∀ b ∈ bs, b.pages.length ≤ 140737488355328 ∧ ∀ x ∈ b.pages, x.beside.size ≤ 140737488355328 ∧ x.data.size ≤ 140737488355328
theorem slOf_app [Inp] {m m2 : Mem} {z : Nat} {s : SV} {x : Nat × List SV} (h : slOf m z s = some x) : slOf (m ++ m2) z s = some x := by
  unfold slOf at h ⊢
  split at h
  · rename_i k o n sz
    split at h
    · rename_i hz
      rw [if_pos hz]
      split at h
      · rename_i ob hob
        rw [List.getElem?_append_left (List.getElem?_eq_some_iff.1 hob).1, hob]
        exact h
      · cases h
    · cases h
  all_goals exact h
theorem blkS_app [Inp] {m m2 : Mem} : ∀ {cs : List SV} {bs : List Bk}, blkS m cs bs → blkS (m ++ m2) cs bs
  | [], [], _ => trivial
  | x :: y :: z :: t, b :: bs, h => ⟨h.1, h.2.1, slOf_app h.2.2.1, blkS_app h.2.2.2⟩
  | [], _ :: _, h => h.elim
  | [_], bs, h => by cases bs <;> exact h.elim
  | [_, _], bs, h => by cases bs <;> exact h.elim
  | _ :: _ :: _ :: _, [], h => h.elim
theorem picS_app [Inp] {m m2 : Mem} {s : SV} {g : Ge} {bs : List Bk} (h : picS m s g bs) : picS (m ++ m2) s g bs := by
  obtain ⟨r, cells, h1, h2, h3⟩ := h
  exact ⟨r, cells, h1, slOf_app h2, blkS_app h3⟩
theorem told_len {g : Ge} {bs : List Bk} (h : mayF g bs = true) : (toldF smF g bs).length ≤ 209739 := by
  rw [← outB_end]
  exact outB_len h _
theorem told_pos {g : Ge} {bs : List Bk} : 0 < (toldF smF g bs).length := by
  unfold toldF
  rw [List.length_append, frF_len]
  omega
theorem frF_byt {k : Int} {body : List Int} (h : Byt body) : Byt (frF smF k body) := (hdF_byt h).app (leN_byt _ _)
theorem flat_byt {α : Type} {f : α → List Int} : ∀ {l : List α}, (∀ x ∈ l, Byt (f x)) → Byt (l.flatMap f) := fun {l} h x hx => by
  obtain ⟨a, ha, hx⟩ := List.mem_flatMap.1 hx
  exact h a ha x hx
theorem told_byt {g : Ge} {bs : List Bk} : Byt (toldF smF g bs) := by
  unfold toldF hdB
  refine (frF_byt ?_).app (flat_byt fun b _ => ?_)
  · exact (leN_byt _ _).app ((leN_byt _ _).app ((leN_byt _ _).app ((leN_byt _ _).app fun x hx => by cases hx)))
  · exact (frF_byt (bkB_byt b)).app (flat_byt fun x _ => frF_byt (pgB_byt x))
theorem may_len {g : Ge} {bs : List Bk} (h : mayF g bs = true) : bs.length ≤ 64 ∧ ∀ b ∈ bs, b.pages.length ≤ 16 := ⟨(may_all h).2.1, fun b hb => ((may_all h).2.2 b hb).1⟩
end Go.Proofs.Ytibefgdjijmncaa
end
