/- Walks and plain facts for the law ImageBytes, part MIBI. No condition. -/
import Derived.Test.YtibefgdjijmncaaMIBH
import Derived.Test.YtibefgdjijmncaaMIBF
import Derived.Test.YtibefgdjijmncaaMIBG
import Derived.Test.YtibefgdjijmncaaMIBD
set_option linter.unusedVariables false
set_option linter.unusedSimpArgs false
section
namespace Go.Proofs.Ytibefgdjijmncaa
open Go.RowKit Sz
set_option maxHeartbeats 4000000
set_option maxRecDepth 20000
-- almshouse/image.Parse (1 parameters)
def x15 : XC := (.seq (.tree (.seq ⟨some 2, none, (.alloc [(.v (.int .i64 0)), (.v (.int .i64 0)), (.v (.int .i64 0)), (.v (.int .i64 0)), (.v (.slice none 0 0))])⟩
  (.seq ⟨some 3, none, (.ofA (.mv (.cst (.v (.int .i64 0)))))⟩
  .done)))
 (.seq (.tree (.seq ⟨some 6, none, (.ofA (.mv (.tmp 0)))⟩
  (.seq ⟨some 7, none, (.build [(.v (.slice none 0 0)), (.v (.int .i64 0))] [(0, 1, (.tmp 6))])⟩
  (.seq ⟨some 8, none, (.box (.tmp 7))⟩
  (.seq ⟨some 4, none, (.ofA (.mv (.tmp 8)))⟩
  .done)))))
 (.seq (.tree (.seq ⟨some 5, none, (.alloc [(.v (.int .i64 0)), (.v (.int .i64 0)), (.v (.int .i64 0)), (.v (.int .i64 0)), (.v (.slice none 0 0))])⟩
  .done))
 (.seq (.tree (.seq ⟨some 9, none, (.ofA (.mv (.tmp 4)))⟩
  (.seq ⟨some 10, none, (.ofA (.mkfn 51 [(.tmp 5)]))⟩
  (.seq ⟨some 11, none, (.call (.cst (.fn 50 [])) [(.tmp 9), (.cst (.v (.int .i64 71))), (.tmp 10)])⟩
  .done))))
 (.seq (.seq (.tree (.seq ⟨some 12, none, (.ofA (.mv (.tmp 4)))⟩
  (.seq ⟨some 13, none, (.ofA (.nilc (.tmp 12)))⟩
  (.seq ⟨some 14, none, (.ofA (.faddr 1 (.tmp 13)))⟩
  (.seq ⟨some 15, none, (.ofA (.load none (.tmp 14)))⟩
  (.seq ⟨some 16, none, (.ofA (.bin .eql (.tmp 15) (.cst (.v (.int .i64 0)))))⟩
  (.seq ⟨some 17, none, (.ofA (.mv (.tmp 16)))⟩
  (.seq ⟨some 18, some (17, true), (.ofA (.faddr 0 (.tmp 5)))⟩
  (.seq ⟨some 19, some (17, true), (.ofA (.load (some 4) (.tmp 18)))⟩
  (.seq ⟨some 20, some (17, true), (.call (.cst (.fn 53 [])) [(.tmp 19)])⟩
  (.seq ⟨some 21, some (17, true), (.ofA (.bin .neq (.tmp 20) (.cst (.v (.int .i64 0)))))⟩
  (.seq ⟨some 22, none, (.ofA (.pick (.tmp 17) (.tmp 21) (.cst (.v (.bool false)))))⟩
  .done))))))))))))
 (.cond (.tmp 22)
 (.tree (.seq ⟨some 23, none, (.ofA (.mv (.tmp 4)))⟩
  (.seq ⟨some 24, none, (.call (.cst (.fn 54 [])) [(.tmp 23), (.cst (.v (.int .i64 2)))])⟩
  .done)))
 .skip))
 (.seq (.seq (.tree (.seq ⟨some 25, none, (.ofA (.faddr 0 (.tmp 5)))⟩
  (.seq ⟨some 26, none, (.ofA (.load (some 4) (.tmp 25)))⟩
  (.seq ⟨some 27, none, (.call (.cst (.fn 55 [])) [(.tmp 26)])⟩
  (.seq ⟨some 28, none, (.ofA (.mv (.cst (.v (.int .i64 0)))))⟩
  .done)))))
 (.block 0 (.loop (.seq (.tree (.seq ⟨some 29, none, (.ofA (.bin .lss (.tmp 28) (.tmp 27)))⟩
  .done))
 (.seq (.cond (.tmp 29)
 .skip
 (.exit 0))
 (.seq (.block 1 (.seq (.tree (.seq ⟨some 30, none, (.ofA (.mv (.tmp 4)))⟩
  (.seq ⟨some 31, none, (.ofA (.nilc (.tmp 30)))⟩
  (.seq ⟨some 32, none, (.ofA (.faddr 1 (.tmp 31)))⟩
  (.seq ⟨some 33, none, (.ofA (.load none (.tmp 32)))⟩
  (.seq ⟨some 34, none, (.ofA (.bin .eql (.tmp 33) (.cst (.v (.int .i64 0)))))⟩
  .done))))))
 (.cond (.tmp 34)
 (.tree (.take ⟨some 35, none, (.ofA (.faddr 4 (.tmp 5)))⟩
  (.take ⟨some 37, none, (.ofA (.mv (.tmp 4)))⟩
  (.alt [true, false] [(⟨some 36, none, (.ofA (.load none (.tmp 35)))⟩,
 (.alt [false] [(⟨some 38, none, (.call (.cst (.fn 56 [])) [(.tmp 37)])⟩,
 (.alt [true] [(⟨some 39, none, (.buildSl 3 1 [(.v (.bool false)), (.v (.int .i64 0)), (.v (.slice none 0 0))] [(0, 3, (.tmp 38))])⟩,
 (.alt [false] [(⟨some 40, none, (.app 3 40 (.tmp 36) (.tmp 39))⟩,
 (.take ⟨some 41, none, (.ofA (.faddr 4 (.tmp 5)))⟩
  (.alt [false] [(⟨none, none, (.store 1 (.tmp 41) (.tmp 40))⟩,
 .done)])))]))]))])), (⟨some 38, none, (.call (.cst (.fn 56 [])) [(.tmp 37)])⟩,
 (.take ⟨some 36, none, (.ofA (.load none (.tmp 35)))⟩
  (.alt [true] [(⟨some 39, none, (.buildSl 3 1 [(.v (.bool false)), (.v (.int .i64 0)), (.v (.slice none 0 0))] [(0, 3, (.tmp 38))])⟩,
 (.alt [false] [(⟨some 40, none, (.app 3 40 (.tmp 36) (.tmp 39))⟩,
 (.take ⟨some 41, none, (.ofA (.faddr 4 (.tmp 5)))⟩
  (.alt [false] [(⟨none, none, (.store 1 (.tmp 41) (.tmp 40))⟩,
 .done)])))]))])))]))))
 .skip)))
 (.tree (.seq ⟨some 42, none, (.ofA (.bin .add (.tmp 28) (.cst (.v (.int .i64 1)))))⟩
  (.seq ⟨some 28, none, (.ofA (.mv (.tmp 42)))⟩
  .done)))))))))
 (.seq (.seq (.tree (.seq ⟨some 43, none, (.ofA (.mv (.tmp 4)))⟩
  (.seq ⟨some 44, none, (.ofA (.nilc (.tmp 43)))⟩
  (.seq ⟨some 45, none, (.ofA (.faddr 1 (.tmp 44)))⟩
  (.seq ⟨some 46, none, (.ofA (.load none (.tmp 45)))⟩
  (.seq ⟨some 47, none, (.ofA (.bin .eql (.tmp 46) (.cst (.v (.int .i64 0)))))⟩
  (.seq ⟨some 48, none, (.ofA (.mv (.tmp 47)))⟩
  (.seq ⟨some 49, some (48, true), (.ofA (.mv (.tmp 4)))⟩
  (.seq ⟨some 50, some (48, true), (.ofA (.nilc (.tmp 49)))⟩
  (.seq ⟨some 51, some (48, true), (.ofA (.faddr 0 (.tmp 50)))⟩
  (.seq ⟨some 52, some (48, true), (.ofA (.load none (.tmp 51)))⟩
  (.seq ⟨some 53, some (48, true), (.ofA (.len (.tmp 52)))⟩
  (.seq ⟨some 54, some (48, true), (.ofA (.bin .gtr (.tmp 53) (.cst (.v (.int .i64 0)))))⟩
  (.seq ⟨some 55, some (48, true), (.ofA (.mv (.tmp 54)))⟩
  (.seq ⟨some 56, some (55, false), (.ofA (.load (some 5) (.tmp 5)))⟩
  (.seq ⟨some 57, some (55, false), (.call (.cst (.fn 45 [])) [(.tmp 56)])⟩
  (.seq ⟨some 58, some (55, false), (.ofA (.un .not (.tmp 57)))⟩
  (.seq ⟨some 59, some (48, true), (.ofA (.pick (.tmp 55) (.cst (.v (.bool true))) (.tmp 58)))⟩
  (.seq ⟨some 60, none, (.ofA (.pick (.tmp 48) (.tmp 59) (.cst (.v (.bool false)))))⟩
  .done)))))))))))))))))))
 (.cond (.tmp 60)
 (.tree (.seq ⟨some 61, none, (.ofA (.mv (.tmp 4)))⟩
  (.seq ⟨some 62, none, (.call (.cst (.fn 54 [])) [(.tmp 61), (.cst (.v (.int .i64 2)))])⟩
  .done)))
 .skip))
 (.seq (.seq (.tree (.seq ⟨some 63, none, (.ofA (.mv (.tmp 4)))⟩
  (.seq ⟨some 64, none, (.ofA (.nilc (.tmp 63)))⟩
  (.seq ⟨some 65, none, (.ofA (.faddr 1 (.tmp 64)))⟩
  (.seq ⟨some 66, none, (.ofA (.load none (.tmp 65)))⟩
  (.seq ⟨some 67, none, (.ofA (.bin .neq (.tmp 66) (.cst (.v (.int .i64 0)))))⟩
  .done))))))
 (.cond (.tmp 67)
 (.seq (.tree (.take ⟨some 69, none, (.ofA (.mv (.tmp 4)))⟩
  (.take ⟨some 70, none, (.ofA (.nilc (.tmp 69)))⟩
  (.take ⟨some 71, none, (.ofA (.faddr 1 (.tmp 70)))⟩
  (.alt [true, true] [(⟨some 68, none, (.build [(.v (.int .i64 0)), (.v (.int .i64 0)), (.v (.int .i64 0)), (.v (.int .i64 0)), (.v (.slice none 0 0))] [])⟩,
 (.alt [true, false] [(⟨some 72, none, (.ofA (.load none (.tmp 71)))⟩,
 (.alt [false] [(⟨none, none, (.store 5 (.tmp 2) (.tmp 68))⟩,
 (.take ⟨some 3, none, (.ofA (.mv (.tmp 72)))⟩
  .done))])), (⟨none, none, (.store 5 (.tmp 2) (.tmp 68))⟩,
 (.take ⟨some 72, none, (.ofA (.load none (.tmp 71)))⟩
  (.take ⟨some 3, none, (.ofA (.mv (.tmp 72)))⟩
  .done)))])), (⟨some 72, none, (.ofA (.load none (.tmp 71)))⟩,
 (.alt [true] [(⟨some 68, none, (.build [(.v (.int .i64 0)), (.v (.int .i64 0)), (.v (.int .i64 0)), (.v (.int .i64 0)), (.v (.slice none 0 0))] [])⟩,
 (.alt [false] [(⟨none, none, (.store 5 (.tmp 2) (.tmp 68))⟩,
 (.take ⟨some 3, none, (.ofA (.mv (.tmp 72)))⟩
  .done))]))]))])))))
 .ret)
 .skip))
 (.seq (.tree (.seq ⟨some 73, none, (.ofA (.load (some 5) (.tmp 5)))⟩
  (.seq ⟨none, none, (.store 5 (.tmp 2) (.tmp 73))⟩
  (.seq ⟨some 3, none, (.ofA (.mv (.cst (.v (.int .i64 0)))))⟩
  .done))))
 .ret)))))))))
def r15 : List XR := [.cell 2 (some 5), .tmp 3]
theorem fn15 : FnX Try.prog 15 [50, 51, 52, 54, 56, 95, 97, 98, 99, 100, 101, 125, 126] 74 x15 r15 := ⟨_, Try.func15, by kernel_rfl, by kernel_rfl, by kernel_rfl, by kernel_rfl⟩
theorem pagesF_len : ∀ (n : Nat) (ps : List Pg) (s : RS), (pagesF smF n ps s).1.length ≤ ps.length + n
  | 0, _, _ => Nat.le_refl _
  | n + 1, ps, s => by
    unfold pagesF
    split
    · have := pagesF_len n (ps ++ [(nextF smF 80 decPg noPg s).1]) (nextF smF 80 decPg noPg s).2
      simp only [List.length_append, List.length_cons, List.length_nil] at this
      omega
    · have := pagesF_len n ps s
      omega
theorem blockF_pl {s : RS} (hb : Byt s.1) : (blockF smF s).1.pages.length ≤ 255 := by
  have h := nxB_cnt hb
  have := pagesF_len (nxB s).1.2.1.toNat [] (nxB s).2
  show (pagesF smF (nxB s).1.2.1.toNat [] (nxB s).2).1.length ≤ 255
  simp only [List.length_nil] at this
  omega
structure St15 where
  p : Option Addr
  c : Nat
  bs : List Bk
  s : RS
def G15 [Inp] : List CEntry := [⟨50, false, c50h⟩, ⟨53, true, c53⟩, ⟨54, false, c54⟩, ⟨55, true, c55⟩, ⟨56, false, c56⟩, ⟨45, true, c45⟩]
theorem g15 [Inp] : GOk Try.prog G15 := GOk.cons c50h_ok (GOk.cons c53_ok (GOk.cons c54_ok (GOk.cons c55_ok (GOk.cons c56_ok (GOk.cons c45_ok (g0 _))))))
def c15 [Inp] : Trans := fun args m k => ∃ (s0 : SV) (b : List Int), args = [s0] ∧ rdB m s0 = some b ∧ b.length ≤ 1000000 ∧ Byt b ∧ ((∃ k o n z : Nat, s0 = .row k o n z) ∨ ∃ p n c, s0 = .v (.slice p n c) ∧ n ≤ c) ∧
  ((parseF smF b).2.2 ≠ 0 → k (.tup [.agg [.v (.int .i64 0), .v (.int .i64 0), .v (.int .i64 0), .v (.int .i64 0), .v (.slice none 0 0)], .v (.int .i64 (parseF smF b).2.2)]) m) ∧
  ((parseF smF b).2.2 = 0 → ∀ (s : SV) (m2 : Mem), picS (m ++ m2) s (parseF smF b).1 (parseF smF b).2.1 → k (.tup [s, .v (.int .i64 0)]) (m ++ m2))
theorem c15_ok [I : Inp] : Contract Try.prog 15 true c15 := by
  refine .readFC fn15 (G := fun J => @G15 J) (fun J => @g15 J) _ fun args m k h => ?_
  unfold c15 at h
  obtain ⟨s0, b, rfl, hb, hmax, hB, hs0, hke, hk0⟩ := h
  refine ⟨by simp, fun J hJ us hus hcap => ?_⟩
  obtain ⟨u, t1, rfl, hk1, rfl⟩ := hus
  obtain ⟨p, c, rfl, hin⟩ := rdB_knows hb hk1
  have hc : b.length ≤ c := by
    obtain ⟨u, t, e, hC, _⟩ := hcap
    injection e with e _
    subst e
    rcases hs0 with ⟨k1, o, n, z, rfl⟩ | ⟨p1, n, c1, rfl, hn⟩
    · obtain ⟨p2, c2, h1, h2⟩ := hC _ _ _ _ rfl
      injection h1 with _ h3 h4
      omega
    · have := hk1.1 _ rfl
      injection this with _ h3 h4
      omega
  have hfJ : @Fr J p c b := ⟨hc, hin, hmax, hB⟩
  simp (maxSteps := 2000000) -implicitDefEqProofs only [↓x15, ↓r15, ↓G15, ↓c50h, s_alt, s_alt20, s_alt2t, s_alt2f, ↓s_loopi, ↓v_pq, ↓PRE, POST, CORE, Nat.reduceDiv, Nat.reduceMod, Int.reduceLT, Int.reduceLE, Int.reduceToNat, Int.reduceAdd, ↓reduceIte, Nat.reduceEqDiff, Nat.reduceAdd, Nat.reduceMul, Nat.reduceSub, Nat.reduceLeDiff, Nat.reduceLT, reduceCtorEq, if_true, eq_self, forall_const, implies_true]
  refine ⟨p, c, (b, 0), rfl, hfJ, fun p2 c2 T hr => ?_⟩
  have eP : parseF smF b = ((headF' smF b).1, (blocksF smF (nB (headF' smF b).1).toNat [] (startS (headF' smF b))).1, endE (headF' smF b).1 (blocksF smF (nB (headF' smF b).1).toNat [] (startS (headF' smF b)))) := rfl
  rw [eP] at hke hk0
  rw [show nextF smF 71 decHd ⟨0, 0, 0, 0⟩ (b, 0) = headF' smF b from rfl] at hr ⊢
  generalize headF' smF b = hd at hr hke hk0 ⊢
  obtain ⟨g, s1⟩ := hd
  simp only at hr hke hk0 ⊢
  have mid : ∀ (s2 : RS) (T2 : Mem), s2 = startS (g, s1) → ∀ (e : Env) (m' : Mem), True → True := fun _ _ _ _ _ _ => trivial
  have hnb0 : 0 ≤ nB g ∧ nB g ≤ 64 := by
    unfold nB
    split
    · rename_i h
      have := (chk_in.1 h).2
      omega
    · omega
  obtain ⟨N, hnb⟩ := Int.eq_ofNat_of_zero_le hnb0.1
  have hN64 : N ≤ 64 := by omega
  rw [hnb, Int.toNat_natCast] at hke hk0
  by_cases he : s1.2 = 0
  · have d1 : (s1.2 == 0) = true := by simpa using he
    simp (maxSteps := 2000000) -implicitDefEqProofs only [d1, geO, ↓G15, ↓c53, s_alt, s_alt20, s_alt2t, s_alt2f, ↓s_loopi, ↓v_pq, ↓PRE, POST, CORE, Nat.reduceDiv, Nat.reduceMod, Int.reduceLT, Int.reduceLE, Int.reduceToNat, Int.reduceAdd, ↓reduceIte, Nat.reduceEqDiff, Nat.reduceAdd, Nat.reduceMul, Nat.reduceSub, Nat.reduceLeDiff, Nat.reduceLT, reduceCtorEq, if_true, eq_self, forall_const, implies_true]
    refine ⟨g, rfl, fun e53 h53 => ?_⟩
    by_cases hg : chkG g = true
    · have d2 : (e53 != 0) = false := by rw [h53.2 hg]; rfl
      have e2 : startS (g, s1) = s1 := by unfold startS; rw [if_neg (by simp [hg])]
      simp (maxSteps := 2000000) -implicitDefEqProofs only [d2, ↓G15, ↓c55, s_alt, s_alt20, s_alt2t, s_alt2f, ↓s_loopi, ↓v_pq, ↓PRE, POST, CORE, Nat.reduceDiv, Nat.reduceMod, Int.reduceLT, Int.reduceLE, Int.reduceToNat, Int.reduceAdd, ↓reduceIte, Nat.reduceEqDiff, Nat.reduceAdd, Nat.reduceMul, Nat.reduceSub, Nat.reduceLeDiff, Nat.reduceLT, reduceCtorEq, if_true, eq_self, forall_const, implies_true]
      refine ⟨g, rfl, ?_⟩
      rw [hnb]
      refine TXi_of (TX_countS (@g15 J) N (σ := St15) (fun x st => [(2, .ptr 0 0), (3, .v (.int .i64 0)), (4, .ptr 1 0), (5, .ptr 2 0), (27, .v (.int .i64 (N : Int))), (28, .v (.int .i64 (x : Int)))])
        (fun x st => (⟨true, [.v (.int .i64 0), .v (.int .i64 0), .v (.int .i64 0), .v (.int .i64 0), .v (.slice none 0 0)]⟩ : SObj) :: rdO (.v (.slice st.p st.s.1.length st.c)) st.s.2 :: (⟨true, [.v (.int .i64 g.ch), .v (.int .i64 g.di), .v (.int .i64 g.bl), .v (.int .i64 g.pa), oV 3 3 st.bs.length]⟩ : SObj) :: oO (bkCs 4 st.bs) :: pgM st.bs)
        (fun x st => blocksF smF (N - x) st.bs st.s = blocksF smF N [] (startS (g, s1)) ∧ Rl p c b st.p st.c st.s.1 ∧ st.bs.length ≤ x ∧ ∀ a ∈ st.bs, a.pages.length ≤ 255) ⟨p2, c2, [], s1⟩ ⟨by rw [e2]; rfl, hr, by simp, by simp⟩ (by show Fit _ _ [(2, .ptr 0 0), (3, .v (.int .i64 0)), (4, .ptr 1 0), (5, .ptr 2 0), (27, .v (.int .i64 (N : Int))), (28, .v (.int .i64 0))] [(⟨true, [.v (.int .i64 0), .v (.int .i64 0), .v (.int .i64 0), .v (.int .i64 0), .v (.slice none 0 0)]⟩ : SObj), rdO (.v (.slice p2 s1.1.length c2)) s1.2, (⟨true, [.v (.int .i64 g.ch), .v (.int .i64 g.di), .v (.int .i64 g.bl), .v (.int .i64 g.pa), .v (.slice none 0 0)]⟩ : SObj), (⟨false, []⟩ : SObj)]; exact (by refine ⟨[0, 1, 2, 2], by simp [NdL, NdA, oO_cells, oO_own, iL_nil], ?_, ?_, keep0 hJ⟩ <;> simp only [FitM, FitE, ObLe, LeL, Le, List.cons_append, List.nil_append] <;> (try (simp (maxSteps := 2000000) -implicitDefEqProofs only [le_v, or_true, Sz.extLe_no, s_alt, s_alt20, s_alt2t, s_alt2f, ↓s_loopi, ↓v_pq, ↓PRE, POST, CORE, Nat.reduceDiv, Nat.reduceMod, Int.reduceLT, Int.reduceLE, Int.reduceToNat, Int.reduceAdd, ↓reduceIte, Nat.reduceEqDiff, Nat.reduceAdd, Nat.reduceMul, Nat.reduceSub, Nat.reduceLeDiff, Nat.reduceLT, reduceCtorEq, if_true, eq_self, forall_const, implies_true])) <;> (try simp only [Sz.Le, Sz.LeL, List.getElem?_cons_zero, List.getElem?_cons_succ]) <;> (try simp))) ?_ ?_)
      · intro x st hx hI
        obtain ⟨sp, sc, bs, s2⟩ := st
        obtain ⟨i1, i2, i3, i4⟩ := hI
        simp only at i1 i2 i3 i4
        have j1 : decide ((x : Int) < (N : Int)) = true := decide_eq_true (by omega)
        have w1 : IntKind.i64.wrap ((x : Int) + 1) = (x : Int) + 1 := Sz.w_64 (by omega) (by omega)
        have eN : N - x = (N - (x + 1)) + 1 := by omega
        rw [eN] at i1
        by_cases h2 : s2.2 = 0
        · have d2 : (s2.2 == 0) = true := by simpa using h2
          have i1 : blocksF smF (N - (x + 1)) (bs ++ [(blockF smF s2).1]) (blockF smF s2).2 = blocksF smF N [] (startS (g, s1)) := by rw [← i1]; exact (if_pos h2).symm
          simp (maxSteps := 2000000) -implicitDefEqProofs only [j1, d2, ↓G15, ↓c56, s_alt, s_alt20, s_alt2t, s_alt2f, ↓s_loopi, ↓v_pq, ↓PRE, POST, CORE, Nat.reduceDiv, Nat.reduceMod, Int.reduceLT, Int.reduceLE, Int.reduceToNat, Int.reduceAdd, ↓reduceIte, Nat.reduceEqDiff, Nat.reduceAdd, Nat.reduceMul, Nat.reduceSub, Nat.reduceLeDiff, Nat.reduceLT, reduceCtorEq, if_true, eq_self, forall_const, implies_true]
          have hl : (bkCs 4 bs).length = bs.length * 3 := bkCs_len 4 bs
          have hbs : bs.length ≤ 64 := by omega
          refine ⟨?_, ?_⟩ <;> (refine ⟨1, sp, sc, s2, rfl, rfl, i2 J hfJ, fun p3 c3 hr3 => ?_⟩)
          · have hpl := blockF_pl (s := s2) (i2 J hfJ).2.2.2
            generalize blockF smF s2 = B at i1 hr3 hpl ⊢
            obtain ⟨⟨bad, er, pgs⟩, s3⟩ := B
            generalize hX : (if pgs = [] then ([] : Mem) else [⟨true, pgC pgs⟩]) = X
            have hYY : ∀ o, (pgM bs ++ X ++ [o])[(pgM bs).length + X.length]? = some o := fun o => by
              rw [List.getElem?_append_right (by simp), List.length_append, Nat.sub_self]; rfl
            simp only [List.length_cons, List.set_cons_succ, List.set_cons_zero, List.cons_append, hX]
            simp (maxSteps := 2000000) -implicitDefEqProofs only [o_sl, o_grows, o_kill, o_len, o_cap, o_isl, o_le, o_cells, o_one, oOk_c, oOk_o, oO_cells, oO_own, oV_s, oV_0, oO_nil, oO_iL, iL_nil, iL_snoc, List.length_append, hl, w1, hYY, s_alt, s_alt20, s_alt2t, s_alt2f, ↓s_loopi, ↓v_pq, ↓PRE, POST, CORE, Nat.reduceDiv, Nat.reduceMod, Int.reduceLT, Int.reduceLE, Int.reduceToNat, Int.reduceAdd, ↓reduceIte, Nat.reduceEqDiff, Nat.reduceAdd, Nat.reduceMul, Nat.reduceSub, Nat.reduceLeDiff, Nat.reduceLT, reduceCtorEq, if_true, eq_self, forall_const, implies_true]
            rw [show (pgM bs).length + X.length + 1 + 1 + 1 + 1 + 1 = 4 + bs.length + X.length + 1 by rw [pgM_len]; omega, show (pgM bs).length + 1 + 1 + 1 + 1 = 4 + bs.length by rw [pgM_len]; omega]
            rw [show bkCs 4 bs ++ [.v (.bool bad), .v (.int .i64 er), oV (4 + bs.length) 3 pgs.length] = bkCs 4 (bs ++ [⟨bad, er, pgs⟩]) from (bkCs_snoc 4 bs ⟨bad, er, pgs⟩).symm]
            refine ⟨⟨by unfold maxLen; omega, by omega⟩, ⟨p3, c3, bs ++ [⟨bad, er, pgs⟩], s3⟩, ⟨i1, i2.trans hr3, by simp only [List.length_append, List.length_cons, List.length_nil]; omega, fun a ha => by rcases List.mem_append.1 ha with ha | ha; exact i4 a ha; rw [List.mem_singleton.1 ha]; exact hpl⟩, gI bs.length X.length, NdL_of gI_nd, ?_, ?_, keep0 hJ⟩
            · exact fit15 (b := ⟨bad, er, pgs⟩) hX.symm (ho3 := ⟨_, _, _, rfl⟩) (ge := [.v (.int .i64 g.ch), .v (.int .i64 g.di), .v (.int .i64 g.bl), .v (.int .i64 g.pa)]) (fun _ => .inr ⟨id, LeL_plain _ (plainL_v [_, _, _, _, _]), trivial⟩) (fun _ => .inr ⟨id, LeL_plain _ (plainL_v [_, _]), trivial⟩) (fun _ => LeL_plain _ (plainL_v [_, _, _, _]))
            · simp only [FitE, Le, gI, List.getElem?_cons_zero, List.getElem?_cons_succ]
              simp (maxSteps := 2000000) -implicitDefEqProofs only [Int.natCast_add, Int.natCast_one, s_alt, s_alt20, s_alt2t, s_alt2f, ↓s_loopi, ↓v_pq, ↓PRE, POST, CORE, Nat.reduceDiv, Nat.reduceMod, Int.reduceLT, Int.reduceLE, Int.reduceToNat, Int.reduceAdd, ↓reduceIte, Nat.reduceEqDiff, Nat.reduceAdd, Nat.reduceMul, Nat.reduceSub, Nat.reduceLeDiff, Nat.reduceLT, reduceCtorEq, if_true, eq_self, forall_const, implies_true]
              try simp
          · have hpl := blockF_pl (s := s2) (i2 J hfJ).2.2.2
            generalize blockF smF s2 = B at i1 hr3 hpl ⊢
            obtain ⟨⟨bad, er, pgs⟩, s3⟩ := B
            generalize hX : (if pgs = [] then ([] : Mem) else [⟨true, pgC pgs⟩]) = X
            have hYY : ∀ o, (pgM bs ++ X ++ [o])[(pgM bs).length + X.length]? = some o := fun o => by
              rw [List.getElem?_append_right (by simp), List.length_append, Nat.sub_self]; rfl
            simp only [hX, List.length_cons, List.set_cons_succ, List.set_cons_zero, List.cons_append, hX]
            simp (maxSteps := 2000000) -implicitDefEqProofs only [o_sl, o_grows, o_kill, o_len, o_cap, o_isl, o_le, o_cells, o_one, oOk_c, oOk_o, oO_cells, oO_own, oV_s, oV_0, oO_nil, oO_iL, iL_nil, iL_snoc, List.length_append, hl, w1, hYY, s_alt, s_alt20, s_alt2t, s_alt2f, ↓s_loopi, ↓v_pq, ↓PRE, POST, CORE, Nat.reduceDiv, Nat.reduceMod, Int.reduceLT, Int.reduceLE, Int.reduceToNat, Int.reduceAdd, ↓reduceIte, Nat.reduceEqDiff, Nat.reduceAdd, Nat.reduceMul, Nat.reduceSub, Nat.reduceLeDiff, Nat.reduceLT, reduceCtorEq, if_true, eq_self, forall_const, implies_true]
            rw [show (pgM bs).length + X.length + 1 + 1 + 1 + 1 + 1 = 4 + bs.length + X.length + 1 by rw [pgM_len]; omega, show (pgM bs).length + 1 + 1 + 1 + 1 = 4 + bs.length by rw [pgM_len]; omega]
            rw [show bkCs 4 bs ++ [.v (.bool bad), .v (.int .i64 er), oV (4 + bs.length) 3 pgs.length] = bkCs 4 (bs ++ [⟨bad, er, pgs⟩]) from (bkCs_snoc 4 bs ⟨bad, er, pgs⟩).symm]
            refine ⟨⟨by unfold maxLen; omega, by omega⟩, ⟨p3, c3, bs ++ [⟨bad, er, pgs⟩], s3⟩, ⟨i1, i2.trans hr3, by simp only [List.length_append, List.length_cons, List.length_nil]; omega, fun a ha => by rcases List.mem_append.1 ha with ha | ha; exact i4 a ha; rw [List.mem_singleton.1 ha]; exact hpl⟩, gI bs.length X.length, NdL_of gI_nd, ?_, ?_, keep0 hJ⟩
            · exact fit15 (b := ⟨bad, er, pgs⟩) hX.symm (ho3 := ⟨_, _, _, rfl⟩) (ge := [.v (.int .i64 g.ch), .v (.int .i64 g.di), .v (.int .i64 g.bl), .v (.int .i64 g.pa)]) (fun _ => .inr ⟨id, LeL_plain _ (plainL_v [_, _, _, _, _]), trivial⟩) (fun _ => .inr ⟨id, LeL_plain _ (plainL_v [_, _]), trivial⟩) (fun _ => LeL_plain _ (plainL_v [_, _, _, _]))
            · simp only [FitE, Le, gI, List.getElem?_cons_zero, List.getElem?_cons_succ]
              simp (maxSteps := 2000000) -implicitDefEqProofs only [Int.natCast_add, Int.natCast_one, s_alt, s_alt20, s_alt2t, s_alt2f, ↓s_loopi, ↓v_pq, ↓PRE, POST, CORE, Nat.reduceDiv, Nat.reduceMod, Int.reduceLT, Int.reduceLE, Int.reduceToNat, Int.reduceAdd, ↓reduceIte, Nat.reduceEqDiff, Nat.reduceAdd, Nat.reduceMul, Nat.reduceSub, Nat.reduceLeDiff, Nat.reduceLT, reduceCtorEq, if_true, eq_self, forall_const, implies_true]
              try simp
        · have d2 : (s2.2 == 0) = false := by simpa using h2
          have i1 : blocksF smF (N - (x + 1)) bs s2 = blocksF smF N [] (startS (g, s1)) := by rw [← i1]; exact (if_neg h2).symm
          simp (maxSteps := 2000000) -implicitDefEqProofs only [j1, d2, w1, s_alt, s_alt20, s_alt2t, s_alt2f, ↓s_loopi, ↓v_pq, ↓PRE, POST, CORE, Nat.reduceDiv, Nat.reduceMod, Int.reduceLT, Int.reduceLE, Int.reduceToNat, Int.reduceAdd, ↓reduceIte, Nat.reduceEqDiff, Nat.reduceAdd, Nat.reduceMul, Nat.reduceSub, Nat.reduceLeDiff, Nat.reduceLT, reduceCtorEq, if_true, eq_self, forall_const, implies_true]
          refine ⟨⟨sp, sc, bs, s2⟩, ⟨i1, i2, by simp only; omega, i4⟩, gS bs.length, NdL_of gS_nd, ?_, ?_, keep0 hJ⟩
          · exact fit15s (ge := [.v (.int .i64 g.ch), .v (.int .i64 g.di), .v (.int .i64 g.bl), .v (.int .i64 g.pa)]) (fun _ => .inr ⟨id, LeL_plain _ (plainL_v [_, _, _, _, _]), trivial⟩) (fun _ => .inr ⟨id, LeL_plain _ (plainL_v [_, _]), trivial⟩) (fun g s h => by simp [LeL, Le, h])
          · simp only [FitE, Le, gS, List.getElem?_cons_zero, List.getElem?_cons_succ]
            simp (maxSteps := 2000000) -implicitDefEqProofs only [Int.natCast_add, Int.natCast_one, s_alt, s_alt20, s_alt2t, s_alt2f, ↓s_loopi, ↓v_pq, ↓PRE, POST, CORE, Nat.reduceDiv, Nat.reduceMod, Int.reduceLT, Int.reduceLE, Int.reduceToNat, Int.reduceAdd, ↓reduceIte, Nat.reduceEqDiff, Nat.reduceAdd, Nat.reduceMul, Nat.reduceSub, Nat.reduceLeDiff, Nat.reduceLT, reduceCtorEq, if_true, eq_self, forall_const, implies_true]
            try simp
      · intro st hI
        obtain ⟨sp, sc, bs, s2⟩ := st
        obtain ⟨i1, i2, i3, i4⟩ := hI
        simp only at i1 i2 i3 i4
        rw [Nat.sub_self] at i1
        have i1 : (bs, s2) = blocksF smF N [] (startS (g, s1)) := i1
        rw [← i1] at hke hk0
        have j1 : decide ((N : Int) < (N : Int)) = false := decide_eq_false (by omega)
        have fin : ∀ (e : Int) (m' : Mem), k (.tup [.agg [.v (.int .i64 0), .v (.int .i64 0), .v (.int .i64 0), .v (.int .i64 0), .v (.slice none 0 0)], .v (.int .i64 e)]) m →
            ∃ (g2 : List Nat) (s2 : SV) (m2 : Mem), g2.Nodup ∧ FitM g2 m' g2 m2 ∧ (∀ o ∈ m2, o.own = true) ∧ Le g2 s2 (.tup [.agg [.v (.int .i64 0), .v (.int .i64 0), .v (.int .i64 0), .v (.int .i64 0), .v (.slice none 0 0)], .v (.int .i64 e)]) ∧ k (s2.up m.length) (m ++ m2.map (SObj.up m.length)) := fun e m' hk =>
          ⟨[], .tup [.agg [.v (.int .i64 0), .v (.int .i64 0), .v (.int .i64 0), .v (.int .i64 0), .v (.slice none 0 0)], .v (.int .i64 e)], [], by simp, trivial, by simp, by simp [Le, LeL], by simpa [SV.up, upL] using hk⟩
        by_cases h2 : s2.2 = 0
        · have d2 : (s2.2 == 0) = true := by simpa using h2
          by_cases h3 : s2.1 = []
          · have d3 : decide ((0 : Int) < (s2.1.length : Int)) = false := by rw [h3]; rfl
            simp (maxSteps := 2000000) -implicitDefEqProofs only [j1, d2, d3, ↓G15, ↓c45, s_alt, s_alt20, s_alt2t, s_alt2f, ↓s_loopi, ↓v_pq, ↓PRE, POST, CORE, Nat.reduceDiv, Nat.reduceMod, Int.reduceLT, Int.reduceLE, Int.reduceToNat, Int.reduceAdd, ↓reduceIte, Nat.reduceEqDiff, Nat.reduceAdd, Nat.reduceMul, Nat.reduceSub, Nat.reduceLeDiff, Nat.reduceLT, reduceCtorEq, if_true, eq_self, forall_const, implies_true]
            refine ⟨_, g, bs, rfl, ⟨oV 3 3 bs.length, bkCs 4 bs, rfl, ?_, blk_own 4 bs fun i a ha => ?_⟩, by omega, fun a ha => by have := i4 a ha; omega, ?_⟩
            · rw [o_sl (by show oOk1 (some (oO (bkCs 4 bs))) _ _; rw [oOk_o]; exact ⟨bkCs_len 4 bs, by omega⟩)]
              rfl
            · rw [show 4 + i = i + 1 + 1 + 1 + 1 by omega]
              simp only [List.getElem?_cons_succ]
              unfold pgM
              rw [List.getElem?_map, ha]
              rfl
            cases hm : mayF g bs with
            | false =>
              have eE : endE g (bs, s2) = 2 := by unfold endE; rw [if_pos ⟨h2, .inr hm⟩]
              rw [eE] at hke
              simp (maxSteps := 2000000) -implicitDefEqProofs only [Bool.not_false, ↓c54, s_alt, s_alt20, s_alt2t, s_alt2f, ↓s_loopi, ↓v_pq, ↓PRE, POST, CORE, Nat.reduceDiv, Nat.reduceMod, Int.reduceLT, Int.reduceLE, Int.reduceToNat, Int.reduceAdd, ↓reduceIte, Nat.reduceEqDiff, Nat.reduceAdd, Nat.reduceMul, Nat.reduceSub, Nat.reduceLeDiff, Nat.reduceLT, reduceCtorEq, if_true, eq_self, forall_const, implies_true]
              refine ⟨1, _, _, _, rfl, rfl, ?_⟩
              rw [if_pos h2]
              have d4 : ((2 : Int) != 0) = true := rfl
              simp (maxSteps := 2000000) -implicitDefEqProofs only [d4, s_alt, s_alt20, s_alt2t, s_alt2f, ↓s_loopi, ↓v_pq, ↓PRE, POST, CORE, Nat.reduceDiv, Nat.reduceMod, Int.reduceLT, Int.reduceLE, Int.reduceToNat, Int.reduceAdd, ↓reduceIte, Nat.reduceEqDiff, Nat.reduceAdd, Nat.reduceMul, Nat.reduceSub, Nat.reduceLeDiff, Nat.reduceLT, reduceCtorEq, if_true, eq_self, forall_const, implies_true]
              exact fin _ _ (hke (by decide))
            | true =>
              have eE : endE g (bs, s2) = 0 := by unfold endE; rw [if_neg (fun h => h.2.elim (fun h => h h3) (fun h => by simp [hm] at h))]; exact h2
              have hk0 := hk0 eE
              have d4 : (s2.2 != 0) = false := by rw [h2]; rfl
              simp (maxSteps := 2000000) -implicitDefEqProofs only [Bool.not_true, d4, s_alt, s_alt20, s_alt2t, s_alt2f, ↓s_loopi, ↓v_pq, ↓PRE, POST, CORE, Nat.reduceDiv, Nat.reduceMod, Int.reduceLT, Int.reduceLE, Int.reduceToNat, Int.reduceAdd, ↓reduceIte, Nat.reduceEqDiff, Nat.reduceAdd, Nat.reduceMul, Nat.reduceSub, Nat.reduceLeDiff, Nat.reduceLT, reduceCtorEq, if_true, eq_self, forall_const, implies_true]
              have hne : bs ≠ [] := by
                intro h
                unfold mayF at hm
                simp only [Bool.and_eq_true, beq_iff_eq] at hm
                have h5 := (chk_in.1 hm.1).2
                have h6 := hm.2.1
                rw [h] at h6
                unfold nB at h6
                rw [if_pos hm.1] at h6
                simp only [List.length_nil] at h6
                omega
              have hbo : oO (bkCs 4 bs) = ⟨true, bkCs 4 bs⟩ := by
                cases bs with
                | nil => exact (hne rfl).elim
                | cons a l => rfl
              refine ⟨o_one, 3 :: List.range' 4 bs.length, .tup [.agg (g.sv ++ [oV 0 3 bs.length]), .v (.int .i64 0)], ⟨true, bkCs 1 bs⟩ :: pgM bs, ?_, ?_, ?_, ?_, ?_⟩
              · exact List.nodup_cons.2 ⟨by simp only [List.mem_range'_1]; omega, List.nodup_range'⟩
              · exact fit_tail bs hbo
              · intro o ho
                rcases List.mem_cons.1 ho with rfl | ho
                · rfl
                · exact pgM_own bs o ho
              · simp [Le, LeL, Ge.sv, o_le]
              · rw [show (SV.tup [.agg (g.sv ++ [oV 0 3 bs.length]), .v (.int .i64 0)]).up m.length = .tup [.agg (g.sv ++ [oV m.length 3 bs.length]), .v (.int .i64 0)] by simp [SV.up, upL, Ge.sv, o_up]]
                rw [List.map_cons, pgM_up, show SObj.up m.length ⟨true, bkCs 1 bs⟩ = ⟨true, bkCs (m.length + 1) bs⟩ by simp only [SObj.up, bkCs_up]]
                refine hk0 _ _ (@pic_own I (m ++ (⟨true, bkCs (m.length + 1) bs⟩ :: pgM bs)) g bs m.length (by rw [List.getElem?_append_right (Nat.le_refl _), Nat.sub_self]; rfl) (fun i a ha => ?_) hne)
                rw [List.getElem?_append_right (by omega), show m.length + 1 + i - m.length = i + 1 by omega, List.getElem?_cons_succ]
                unfold pgM
                rw [List.getElem?_map, ha]
                rfl
          · have d3 : decide ((0 : Int) < (s2.1.length : Int)) = true := by
              have : s2.1.length ≠ 0 := fun h => h3 (List.length_eq_zero_iff.1 h)
              exact decide_eq_true (by omega)
            have eE : endE g (bs, s2) = 2 := by unfold endE; rw [if_pos ⟨h2, .inl h3⟩]
            rw [eE] at hke
            simp (maxSteps := 2000000) -implicitDefEqProofs only [j1, d2, d3, ↓G15, ↓c54, s_alt, s_alt20, s_alt2t, s_alt2f, ↓s_loopi, ↓v_pq, ↓PRE, POST, CORE, Nat.reduceDiv, Nat.reduceMod, Int.reduceLT, Int.reduceLE, Int.reduceToNat, Int.reduceAdd, ↓reduceIte, Nat.reduceEqDiff, Nat.reduceAdd, Nat.reduceMul, Nat.reduceSub, Nat.reduceLeDiff, Nat.reduceLT, reduceCtorEq, if_true, eq_self, forall_const, implies_true]
            refine ⟨1, _, _, _, rfl, rfl, ?_⟩
            rw [if_pos h2]
            have d4 : ((2 : Int) != 0) = true := rfl
            simp (maxSteps := 2000000) -implicitDefEqProofs only [d4, s_alt, s_alt20, s_alt2t, s_alt2f, ↓s_loopi, ↓v_pq, ↓PRE, POST, CORE, Nat.reduceDiv, Nat.reduceMod, Int.reduceLT, Int.reduceLE, Int.reduceToNat, Int.reduceAdd, ↓reduceIte, Nat.reduceEqDiff, Nat.reduceAdd, Nat.reduceMul, Nat.reduceSub, Nat.reduceLeDiff, Nat.reduceLT, reduceCtorEq, if_true, eq_self, forall_const, implies_true]
            exact fin _ _ (hke (by decide))
        · have d2 : (s2.2 == 0) = false := by simpa using h2
          have d4 : (s2.2 != 0) = true := by simpa using h2
          have eE : endE g (bs, s2) = s2.2 := by unfold endE; rw [if_neg (fun h => h2 h.1)]
          rw [eE] at hke
          have hke := hke h2
          simp (maxSteps := 2000000) -implicitDefEqProofs only [j1, d2, d4, s_alt, s_alt20, s_alt2t, s_alt2f, ↓s_loopi, ↓v_pq, ↓PRE, POST, CORE, Nat.reduceDiv, Nat.reduceMod, Int.reduceLT, Int.reduceLE, Int.reduceToNat, Int.reduceAdd, ↓reduceIte, Nat.reduceEqDiff, Nat.reduceAdd, Nat.reduceMul, Nat.reduceSub, Nat.reduceLeDiff, Nat.reduceLT, reduceCtorEq, if_true, eq_self, forall_const, implies_true]
          exact fin _ _ hke
    · have d2 : (e53 != 0) = true := by
        have : e53 ≠ 0 := fun h => hg (h53.1 h)
        simpa using this
      have e2 : startS (g, s1) = (s1.1, 2) := by unfold startS; rw [if_pos ⟨he, by simpa using hg⟩]
      simp (maxSteps := 2000000) -implicitDefEqProofs only [d2, ↓G15, ↓c54, s_alt, s_alt20, s_alt2t, s_alt2f, ↓s_loopi, ↓v_pq, ↓PRE, POST, CORE, Nat.reduceDiv, Nat.reduceMod, Int.reduceLT, Int.reduceLE, Int.reduceToNat, Int.reduceAdd, ↓reduceIte, Nat.reduceEqDiff, Nat.reduceAdd, Nat.reduceMul, Nat.reduceSub, Nat.reduceLeDiff, Nat.reduceLT, reduceCtorEq, if_true, eq_self, forall_const, implies_true]
      refine ⟨1, _, _, _, rfl, rfl, ?_⟩
      rw [if_pos he]
      simp (maxSteps := 2000000) -implicitDefEqProofs only [↓c55, s_alt, s_alt20, s_alt2t, s_alt2f, ↓s_loopi, ↓v_pq, ↓PRE, POST, CORE, Nat.reduceDiv, Nat.reduceMod, Int.reduceLT, Int.reduceLE, Int.reduceToNat, Int.reduceAdd, ↓reduceIte, Nat.reduceEqDiff, Nat.reduceAdd, Nat.reduceMul, Nat.reduceSub, Nat.reduceLeDiff, Nat.reduceLT, reduceCtorEq, if_true, eq_self, forall_const, implies_true]
      refine ⟨g, rfl, ?_⟩
      rw [hnb]
      refine TXi_of (TX_countS (@g15 J) N (σ := St15) (fun x st => [(2, .ptr 0 0), (3, .v (.int .i64 0)), (4, .ptr 1 0), (5, .ptr 2 0), (27, .v (.int .i64 (N : Int))), (28, .v (.int .i64 (x : Int)))])
        (fun x st => (⟨true, [.v (.int .i64 0), .v (.int .i64 0), .v (.int .i64 0), .v (.int .i64 0), .v (.slice none 0 0)]⟩ : SObj) :: rdO (.v (.slice st.p st.s.1.length st.c)) st.s.2 :: (⟨true, [.v (.int .i64 g.ch), .v (.int .i64 g.di), .v (.int .i64 g.bl), .v (.int .i64 g.pa), oV 3 3 st.bs.length]⟩ : SObj) :: oO (bkCs 4 st.bs) :: pgM st.bs)
        (fun x st => blocksF smF (N - x) st.bs st.s = blocksF smF N [] (startS (g, s1)) ∧ Rl p c b st.p st.c st.s.1 ∧ st.bs.length ≤ x ∧ ∀ a ∈ st.bs, a.pages.length ≤ 255) ⟨p2, c2, [], (s1.1, 2)⟩ ⟨by rw [e2]; rfl, hr, by simp, by simp⟩ (by show Fit _ _ [(2, .ptr 0 0), (3, .v (.int .i64 0)), (4, .ptr 1 0), (5, .ptr 2 0), (27, .v (.int .i64 (N : Int))), (28, .v (.int .i64 0))] [(⟨true, [.v (.int .i64 0), .v (.int .i64 0), .v (.int .i64 0), .v (.int .i64 0), .v (.slice none 0 0)]⟩ : SObj), rdO (.v (.slice p2 s1.1.length c2)) 2, (⟨true, [.v (.int .i64 g.ch), .v (.int .i64 g.di), .v (.int .i64 g.bl), .v (.int .i64 g.pa), .v (.slice none 0 0)]⟩ : SObj), (⟨false, []⟩ : SObj)]; exact (by refine ⟨[0, 1, 2, 2], by simp [NdL, NdA, oO_cells, oO_own, iL_nil], ?_, ?_, keep0 hJ⟩ <;> simp only [FitM, FitE, ObLe, LeL, Le, List.cons_append, List.nil_append] <;> (try (simp (maxSteps := 2000000) -implicitDefEqProofs only [le_v, or_true, Sz.extLe_no, s_alt, s_alt20, s_alt2t, s_alt2f, ↓s_loopi, ↓v_pq, ↓PRE, POST, CORE, Nat.reduceDiv, Nat.reduceMod, Int.reduceLT, Int.reduceLE, Int.reduceToNat, Int.reduceAdd, ↓reduceIte, Nat.reduceEqDiff, Nat.reduceAdd, Nat.reduceMul, Nat.reduceSub, Nat.reduceLeDiff, Nat.reduceLT, reduceCtorEq, if_true, eq_self, forall_const, implies_true])) <;> (try simp only [Sz.Le, Sz.LeL, List.getElem?_cons_zero, List.getElem?_cons_succ]) <;> (try simp))) ?_ ?_)
      · intro x st hx hI
        obtain ⟨sp, sc, bs, s2⟩ := st
        obtain ⟨i1, i2, i3, i4⟩ := hI
        simp only at i1 i2 i3 i4
        have j1 : decide ((x : Int) < (N : Int)) = true := decide_eq_true (by omega)
        have w1 : IntKind.i64.wrap ((x : Int) + 1) = (x : Int) + 1 := Sz.w_64 (by omega) (by omega)
        have eN : N - x = (N - (x + 1)) + 1 := by omega
        rw [eN] at i1
        by_cases h2 : s2.2 = 0
        · have d2 : (s2.2 == 0) = true := by simpa using h2
          have i1 : blocksF smF (N - (x + 1)) (bs ++ [(blockF smF s2).1]) (blockF smF s2).2 = blocksF smF N [] (startS (g, s1)) := by rw [← i1]; exact (if_pos h2).symm
          simp (maxSteps := 2000000) -implicitDefEqProofs only [j1, d2, ↓G15, ↓c56, s_alt, s_alt20, s_alt2t, s_alt2f, ↓s_loopi, ↓v_pq, ↓PRE, POST, CORE, Nat.reduceDiv, Nat.reduceMod, Int.reduceLT, Int.reduceLE, Int.reduceToNat, Int.reduceAdd, ↓reduceIte, Nat.reduceEqDiff, Nat.reduceAdd, Nat.reduceMul, Nat.reduceSub, Nat.reduceLeDiff, Nat.reduceLT, reduceCtorEq, if_true, eq_self, forall_const, implies_true]
          have hl : (bkCs 4 bs).length = bs.length * 3 := bkCs_len 4 bs
          have hbs : bs.length ≤ 64 := by omega
          refine ⟨?_, ?_⟩ <;> (refine ⟨1, sp, sc, s2, rfl, rfl, i2 J hfJ, fun p3 c3 hr3 => ?_⟩)
          · have hpl := blockF_pl (s := s2) (i2 J hfJ).2.2.2
            generalize blockF smF s2 = B at i1 hr3 hpl ⊢
            obtain ⟨⟨bad, er, pgs⟩, s3⟩ := B
            generalize hX : (if pgs = [] then ([] : Mem) else [⟨true, pgC pgs⟩]) = X
            have hYY : ∀ o, (pgM bs ++ X ++ [o])[(pgM bs).length + X.length]? = some o := fun o => by
              rw [List.getElem?_append_right (by simp), List.length_append, Nat.sub_self]; rfl
            simp only [List.length_cons, List.set_cons_succ, List.set_cons_zero, List.cons_append, hX]
            simp (maxSteps := 2000000) -implicitDefEqProofs only [o_sl, o_grows, o_kill, o_len, o_cap, o_isl, o_le, o_cells, o_one, oOk_c, oOk_o, oO_cells, oO_own, oV_s, oV_0, oO_nil, oO_iL, iL_nil, iL_snoc, List.length_append, hl, w1, hYY, s_alt, s_alt20, s_alt2t, s_alt2f, ↓s_loopi, ↓v_pq, ↓PRE, POST, CORE, Nat.reduceDiv, Nat.reduceMod, Int.reduceLT, Int.reduceLE, Int.reduceToNat, Int.reduceAdd, ↓reduceIte, Nat.reduceEqDiff, Nat.reduceAdd, Nat.reduceMul, Nat.reduceSub, Nat.reduceLeDiff, Nat.reduceLT, reduceCtorEq, if_true, eq_self, forall_const, implies_true]
            rw [show (pgM bs).length + X.length + 1 + 1 + 1 + 1 + 1 = 4 + bs.length + X.length + 1 by rw [pgM_len]; omega, show (pgM bs).length + 1 + 1 + 1 + 1 = 4 + bs.length by rw [pgM_len]; omega]
            rw [show bkCs 4 bs ++ [.v (.bool bad), .v (.int .i64 er), oV (4 + bs.length) 3 pgs.length] = bkCs 4 (bs ++ [⟨bad, er, pgs⟩]) from (bkCs_snoc 4 bs ⟨bad, er, pgs⟩).symm]
            refine ⟨⟨by unfold maxLen; omega, by omega⟩, ⟨p3, c3, bs ++ [⟨bad, er, pgs⟩], s3⟩, ⟨i1, i2.trans hr3, by simp only [List.length_append, List.length_cons, List.length_nil]; omega, fun a ha => by rcases List.mem_append.1 ha with ha | ha; exact i4 a ha; rw [List.mem_singleton.1 ha]; exact hpl⟩, gI bs.length X.length, NdL_of gI_nd, ?_, ?_, keep0 hJ⟩
            · exact fit15 (b := ⟨bad, er, pgs⟩) hX.symm (ho3 := ⟨_, _, _, rfl⟩) (ge := [.v (.int .i64 g.ch), .v (.int .i64 g.di), .v (.int .i64 g.bl), .v (.int .i64 g.pa)]) (fun _ => .inr ⟨id, LeL_plain _ (plainL_v [_, _, _, _, _]), trivial⟩) (fun _ => .inr ⟨id, LeL_plain _ (plainL_v [_, _]), trivial⟩) (fun _ => LeL_plain _ (plainL_v [_, _, _, _]))
            · simp only [FitE, Le, gI, List.getElem?_cons_zero, List.getElem?_cons_succ]
              simp (maxSteps := 2000000) -implicitDefEqProofs only [Int.natCast_add, Int.natCast_one, s_alt, s_alt20, s_alt2t, s_alt2f, ↓s_loopi, ↓v_pq, ↓PRE, POST, CORE, Nat.reduceDiv, Nat.reduceMod, Int.reduceLT, Int.reduceLE, Int.reduceToNat, Int.reduceAdd, ↓reduceIte, Nat.reduceEqDiff, Nat.reduceAdd, Nat.reduceMul, Nat.reduceSub, Nat.reduceLeDiff, Nat.reduceLT, reduceCtorEq, if_true, eq_self, forall_const, implies_true]
              try simp
          · have hpl := blockF_pl (s := s2) (i2 J hfJ).2.2.2
            generalize blockF smF s2 = B at i1 hr3 hpl ⊢
            obtain ⟨⟨bad, er, pgs⟩, s3⟩ := B
            generalize hX : (if pgs = [] then ([] : Mem) else [⟨true, pgC pgs⟩]) = X
            have hYY : ∀ o, (pgM bs ++ X ++ [o])[(pgM bs).length + X.length]? = some o := fun o => by
              rw [List.getElem?_append_right (by simp), List.length_append, Nat.sub_self]; rfl
            simp only [hX, List.length_cons, List.set_cons_succ, List.set_cons_zero, List.cons_append, hX]
            simp (maxSteps := 2000000) -implicitDefEqProofs only [o_sl, o_grows, o_kill, o_len, o_cap, o_isl, o_le, o_cells, o_one, oOk_c, oOk_o, oO_cells, oO_own, oV_s, oV_0, oO_nil, oO_iL, iL_nil, iL_snoc, List.length_append, hl, w1, hYY, s_alt, s_alt20, s_alt2t, s_alt2f, ↓s_loopi, ↓v_pq, ↓PRE, POST, CORE, Nat.reduceDiv, Nat.reduceMod, Int.reduceLT, Int.reduceLE, Int.reduceToNat, Int.reduceAdd, ↓reduceIte, Nat.reduceEqDiff, Nat.reduceAdd, Nat.reduceMul, Nat.reduceSub, Nat.reduceLeDiff, Nat.reduceLT, reduceCtorEq, if_true, eq_self, forall_const, implies_true]
            rw [show (pgM bs).length + X.length + 1 + 1 + 1 + 1 + 1 = 4 + bs.length + X.length + 1 by rw [pgM_len]; omega, show (pgM bs).length + 1 + 1 + 1 + 1 = 4 + bs.length by rw [pgM_len]; omega]
            rw [show bkCs 4 bs ++ [.v (.bool bad), .v (.int .i64 er), oV (4 + bs.length) 3 pgs.length] = bkCs 4 (bs ++ [⟨bad, er, pgs⟩]) from (bkCs_snoc 4 bs ⟨bad, er, pgs⟩).symm]
            refine ⟨⟨by unfold maxLen; omega, by omega⟩, ⟨p3, c3, bs ++ [⟨bad, er, pgs⟩], s3⟩, ⟨i1, i2.trans hr3, by simp only [List.length_append, List.length_cons, List.length_nil]; omega, fun a ha => by rcases List.mem_append.1 ha with ha | ha; exact i4 a ha; rw [List.mem_singleton.1 ha]; exact hpl⟩, gI bs.length X.length, NdL_of gI_nd, ?_, ?_, keep0 hJ⟩
            · exact fit15 (b := ⟨bad, er, pgs⟩) hX.symm (ho3 := ⟨_, _, _, rfl⟩) (ge := [.v (.int .i64 g.ch), .v (.int .i64 g.di), .v (.int .i64 g.bl), .v (.int .i64 g.pa)]) (fun _ => .inr ⟨id, LeL_plain _ (plainL_v [_, _, _, _, _]), trivial⟩) (fun _ => .inr ⟨id, LeL_plain _ (plainL_v [_, _]), trivial⟩) (fun _ => LeL_plain _ (plainL_v [_, _, _, _]))
            · simp only [FitE, Le, gI, List.getElem?_cons_zero, List.getElem?_cons_succ]
              simp (maxSteps := 2000000) -implicitDefEqProofs only [Int.natCast_add, Int.natCast_one, s_alt, s_alt20, s_alt2t, s_alt2f, ↓s_loopi, ↓v_pq, ↓PRE, POST, CORE, Nat.reduceDiv, Nat.reduceMod, Int.reduceLT, Int.reduceLE, Int.reduceToNat, Int.reduceAdd, ↓reduceIte, Nat.reduceEqDiff, Nat.reduceAdd, Nat.reduceMul, Nat.reduceSub, Nat.reduceLeDiff, Nat.reduceLT, reduceCtorEq, if_true, eq_self, forall_const, implies_true]
              try simp
        · have d2 : (s2.2 == 0) = false := by simpa using h2
          have i1 : blocksF smF (N - (x + 1)) bs s2 = blocksF smF N [] (startS (g, s1)) := by rw [← i1]; exact (if_neg h2).symm
          simp (maxSteps := 2000000) -implicitDefEqProofs only [j1, d2, w1, s_alt, s_alt20, s_alt2t, s_alt2f, ↓s_loopi, ↓v_pq, ↓PRE, POST, CORE, Nat.reduceDiv, Nat.reduceMod, Int.reduceLT, Int.reduceLE, Int.reduceToNat, Int.reduceAdd, ↓reduceIte, Nat.reduceEqDiff, Nat.reduceAdd, Nat.reduceMul, Nat.reduceSub, Nat.reduceLeDiff, Nat.reduceLT, reduceCtorEq, if_true, eq_self, forall_const, implies_true]
          refine ⟨⟨sp, sc, bs, s2⟩, ⟨i1, i2, by simp only; omega, i4⟩, gS bs.length, NdL_of gS_nd, ?_, ?_, keep0 hJ⟩
          · exact fit15s (ge := [.v (.int .i64 g.ch), .v (.int .i64 g.di), .v (.int .i64 g.bl), .v (.int .i64 g.pa)]) (fun _ => .inr ⟨id, LeL_plain _ (plainL_v [_, _, _, _, _]), trivial⟩) (fun _ => .inr ⟨id, LeL_plain _ (plainL_v [_, _]), trivial⟩) (fun g s h => by simp [LeL, Le, h])
          · simp only [FitE, Le, gS, List.getElem?_cons_zero, List.getElem?_cons_succ]
            simp (maxSteps := 2000000) -implicitDefEqProofs only [Int.natCast_add, Int.natCast_one, s_alt, s_alt20, s_alt2t, s_alt2f, ↓s_loopi, ↓v_pq, ↓PRE, POST, CORE, Nat.reduceDiv, Nat.reduceMod, Int.reduceLT, Int.reduceLE, Int.reduceToNat, Int.reduceAdd, ↓reduceIte, Nat.reduceEqDiff, Nat.reduceAdd, Nat.reduceMul, Nat.reduceSub, Nat.reduceLeDiff, Nat.reduceLT, reduceCtorEq, if_true, eq_self, forall_const, implies_true]
            try simp
      · intro st hI
        obtain ⟨sp, sc, bs, s2⟩ := st
        obtain ⟨i1, i2, i3, i4⟩ := hI
        simp only at i1 i2 i3 i4
        rw [Nat.sub_self] at i1
        have i1 : (bs, s2) = blocksF smF N [] (startS (g, s1)) := i1
        rw [← i1] at hke hk0
        have j1 : decide ((N : Int) < (N : Int)) = false := decide_eq_false (by omega)
        have fin : ∀ (e : Int) (m' : Mem), k (.tup [.agg [.v (.int .i64 0), .v (.int .i64 0), .v (.int .i64 0), .v (.int .i64 0), .v (.slice none 0 0)], .v (.int .i64 e)]) m →
            ∃ (g2 : List Nat) (s2 : SV) (m2 : Mem), g2.Nodup ∧ FitM g2 m' g2 m2 ∧ (∀ o ∈ m2, o.own = true) ∧ Le g2 s2 (.tup [.agg [.v (.int .i64 0), .v (.int .i64 0), .v (.int .i64 0), .v (.int .i64 0), .v (.slice none 0 0)], .v (.int .i64 e)]) ∧ k (s2.up m.length) (m ++ m2.map (SObj.up m.length)) := fun e m' hk =>
          ⟨[], .tup [.agg [.v (.int .i64 0), .v (.int .i64 0), .v (.int .i64 0), .v (.int .i64 0), .v (.slice none 0 0)], .v (.int .i64 e)], [], by simp, trivial, by simp, by simp [Le, LeL], by simpa [SV.up, upL] using hk⟩
        by_cases h2 : s2.2 = 0
        · have d2 : (s2.2 == 0) = true := by simpa using h2
          by_cases h3 : s2.1 = []
          · have d3 : decide ((0 : Int) < (s2.1.length : Int)) = false := by rw [h3]; rfl
            simp (maxSteps := 2000000) -implicitDefEqProofs only [j1, d2, d3, ↓G15, ↓c45, s_alt, s_alt20, s_alt2t, s_alt2f, ↓s_loopi, ↓v_pq, ↓PRE, POST, CORE, Nat.reduceDiv, Nat.reduceMod, Int.reduceLT, Int.reduceLE, Int.reduceToNat, Int.reduceAdd, ↓reduceIte, Nat.reduceEqDiff, Nat.reduceAdd, Nat.reduceMul, Nat.reduceSub, Nat.reduceLeDiff, Nat.reduceLT, reduceCtorEq, if_true, eq_self, forall_const, implies_true]
            refine ⟨_, g, bs, rfl, ⟨oV 3 3 bs.length, bkCs 4 bs, rfl, ?_, blk_own 4 bs fun i a ha => ?_⟩, by omega, fun a ha => by have := i4 a ha; omega, ?_⟩
            · rw [o_sl (by show oOk1 (some (oO (bkCs 4 bs))) _ _; rw [oOk_o]; exact ⟨bkCs_len 4 bs, by omega⟩)]
              rfl
            · rw [show 4 + i = i + 1 + 1 + 1 + 1 by omega]
              simp only [List.getElem?_cons_succ]
              unfold pgM
              rw [List.getElem?_map, ha]
              rfl
            cases hm : mayF g bs with
            | false =>
              have eE : endE g (bs, s2) = 2 := by unfold endE; rw [if_pos ⟨h2, .inr hm⟩]
              rw [eE] at hke
              simp (maxSteps := 2000000) -implicitDefEqProofs only [Bool.not_false, ↓c54, s_alt, s_alt20, s_alt2t, s_alt2f, ↓s_loopi, ↓v_pq, ↓PRE, POST, CORE, Nat.reduceDiv, Nat.reduceMod, Int.reduceLT, Int.reduceLE, Int.reduceToNat, Int.reduceAdd, ↓reduceIte, Nat.reduceEqDiff, Nat.reduceAdd, Nat.reduceMul, Nat.reduceSub, Nat.reduceLeDiff, Nat.reduceLT, reduceCtorEq, if_true, eq_self, forall_const, implies_true]
              refine ⟨1, _, _, _, rfl, rfl, ?_⟩
              rw [if_pos h2]
              have d4 : ((2 : Int) != 0) = true := rfl
              simp (maxSteps := 2000000) -implicitDefEqProofs only [d4, s_alt, s_alt20, s_alt2t, s_alt2f, ↓s_loopi, ↓v_pq, ↓PRE, POST, CORE, Nat.reduceDiv, Nat.reduceMod, Int.reduceLT, Int.reduceLE, Int.reduceToNat, Int.reduceAdd, ↓reduceIte, Nat.reduceEqDiff, Nat.reduceAdd, Nat.reduceMul, Nat.reduceSub, Nat.reduceLeDiff, Nat.reduceLT, reduceCtorEq, if_true, eq_self, forall_const, implies_true]
              exact fin _ _ (hke (by decide))
            | true =>
              have eE : endE g (bs, s2) = 0 := by unfold endE; rw [if_neg (fun h => h.2.elim (fun h => h h3) (fun h => by simp [hm] at h))]; exact h2
              have hk0 := hk0 eE
              have d4 : (s2.2 != 0) = false := by rw [h2]; rfl
              simp (maxSteps := 2000000) -implicitDefEqProofs only [Bool.not_true, d4, s_alt, s_alt20, s_alt2t, s_alt2f, ↓s_loopi, ↓v_pq, ↓PRE, POST, CORE, Nat.reduceDiv, Nat.reduceMod, Int.reduceLT, Int.reduceLE, Int.reduceToNat, Int.reduceAdd, ↓reduceIte, Nat.reduceEqDiff, Nat.reduceAdd, Nat.reduceMul, Nat.reduceSub, Nat.reduceLeDiff, Nat.reduceLT, reduceCtorEq, if_true, eq_self, forall_const, implies_true]
              have hne : bs ≠ [] := by
                intro h
                unfold mayF at hm
                simp only [Bool.and_eq_true, beq_iff_eq] at hm
                have h5 := (chk_in.1 hm.1).2
                have h6 := hm.2.1
                rw [h] at h6
                unfold nB at h6
                rw [if_pos hm.1] at h6
                simp only [List.length_nil] at h6
                omega
              have hbo : oO (bkCs 4 bs) = ⟨true, bkCs 4 bs⟩ := by
                cases bs with
                | nil => exact (hne rfl).elim
                | cons a l => rfl
              refine ⟨o_one, 3 :: List.range' 4 bs.length, .tup [.agg (g.sv ++ [oV 0 3 bs.length]), .v (.int .i64 0)], ⟨true, bkCs 1 bs⟩ :: pgM bs, ?_, ?_, ?_, ?_, ?_⟩
              · exact List.nodup_cons.2 ⟨by simp only [List.mem_range'_1]; omega, List.nodup_range'⟩
              · exact fit_tail bs hbo
              · intro o ho
                rcases List.mem_cons.1 ho with rfl | ho
                · rfl
                · exact pgM_own bs o ho
              · simp [Le, LeL, Ge.sv, o_le]
              · rw [show (SV.tup [.agg (g.sv ++ [oV 0 3 bs.length]), .v (.int .i64 0)]).up m.length = .tup [.agg (g.sv ++ [oV m.length 3 bs.length]), .v (.int .i64 0)] by simp [SV.up, upL, Ge.sv, o_up]]
                rw [List.map_cons, pgM_up, show SObj.up m.length ⟨true, bkCs 1 bs⟩ = ⟨true, bkCs (m.length + 1) bs⟩ by simp only [SObj.up, bkCs_up]]
                refine hk0 _ _ (@pic_own I (m ++ (⟨true, bkCs (m.length + 1) bs⟩ :: pgM bs)) g bs m.length (by rw [List.getElem?_append_right (Nat.le_refl _), Nat.sub_self]; rfl) (fun i a ha => ?_) hne)
                rw [List.getElem?_append_right (by omega), show m.length + 1 + i - m.length = i + 1 by omega, List.getElem?_cons_succ]
                unfold pgM
                rw [List.getElem?_map, ha]
                rfl
          · have d3 : decide ((0 : Int) < (s2.1.length : Int)) = true := by
              have : s2.1.length ≠ 0 := fun h => h3 (List.length_eq_zero_iff.1 h)
              exact decide_eq_true (by omega)
            have eE : endE g (bs, s2) = 2 := by unfold endE; rw [if_pos ⟨h2, .inl h3⟩]
            rw [eE] at hke
            simp (maxSteps := 2000000) -implicitDefEqProofs only [j1, d2, d3, ↓G15, ↓c54, s_alt, s_alt20, s_alt2t, s_alt2f, ↓s_loopi, ↓v_pq, ↓PRE, POST, CORE, Nat.reduceDiv, Nat.reduceMod, Int.reduceLT, Int.reduceLE, Int.reduceToNat, Int.reduceAdd, ↓reduceIte, Nat.reduceEqDiff, Nat.reduceAdd, Nat.reduceMul, Nat.reduceSub, Nat.reduceLeDiff, Nat.reduceLT, reduceCtorEq, if_true, eq_self, forall_const, implies_true]
            refine ⟨1, _, _, _, rfl, rfl, ?_⟩
            rw [if_pos h2]
            have d4 : ((2 : Int) != 0) = true := rfl
            simp (maxSteps := 2000000) -implicitDefEqProofs only [d4, s_alt, s_alt20, s_alt2t, s_alt2f, ↓s_loopi, ↓v_pq, ↓PRE, POST, CORE, Nat.reduceDiv, Nat.reduceMod, Int.reduceLT, Int.reduceLE, Int.reduceToNat, Int.reduceAdd, ↓reduceIte, Nat.reduceEqDiff, Nat.reduceAdd, Nat.reduceMul, Nat.reduceSub, Nat.reduceLeDiff, Nat.reduceLT, reduceCtorEq, if_true, eq_self, forall_const, implies_true]
            exact fin _ _ (hke (by decide))
        · have d2 : (s2.2 == 0) = false := by simpa using h2
          have d4 : (s2.2 != 0) = true := by simpa using h2
          have eE : endE g (bs, s2) = s2.2 := by unfold endE; rw [if_neg (fun h => h2 h.1)]
          rw [eE] at hke
          have hke := hke h2
          simp (maxSteps := 2000000) -implicitDefEqProofs only [j1, d2, d4, s_alt, s_alt20, s_alt2t, s_alt2f, ↓s_loopi, ↓v_pq, ↓PRE, POST, CORE, Nat.reduceDiv, Nat.reduceMod, Int.reduceLT, Int.reduceLE, Int.reduceToNat, Int.reduceAdd, ↓reduceIte, Nat.reduceEqDiff, Nat.reduceAdd, Nat.reduceMul, Nat.reduceSub, Nat.reduceLeDiff, Nat.reduceLT, reduceCtorEq, if_true, eq_self, forall_const, implies_true]
          exact fin _ _ hke
  · have d1 : (s1.2 == 0) = false := by simpa using he
    have e2 : startS (g, s1) = s1 := by unfold startS; rw [if_neg (fun h => he h.1)]
    simp (maxSteps := 2000000) -implicitDefEqProofs only [d1, geO, ↓G15, ↓c55, s_alt, s_alt20, s_alt2t, s_alt2f, ↓s_loopi, ↓v_pq, ↓PRE, POST, CORE, Nat.reduceDiv, Nat.reduceMod, Int.reduceLT, Int.reduceLE, Int.reduceToNat, Int.reduceAdd, ↓reduceIte, Nat.reduceEqDiff, Nat.reduceAdd, Nat.reduceMul, Nat.reduceSub, Nat.reduceLeDiff, Nat.reduceLT, reduceCtorEq, if_true, eq_self, forall_const, implies_true]
    refine ⟨g, rfl, ?_⟩
    rw [hnb]
    refine TXi_of (TX_countS (@g15 J) N (σ := St15) (fun x st => [(2, .ptr 0 0), (3, .v (.int .i64 0)), (4, .ptr 1 0), (5, .ptr 2 0), (27, .v (.int .i64 (N : Int))), (28, .v (.int .i64 (x : Int)))])
      (fun x st => (⟨true, [.v (.int .i64 0), .v (.int .i64 0), .v (.int .i64 0), .v (.int .i64 0), .v (.slice none 0 0)]⟩ : SObj) :: rdO (.v (.slice st.p st.s.1.length st.c)) st.s.2 :: (⟨true, [.v (.int .i64 g.ch), .v (.int .i64 g.di), .v (.int .i64 g.bl), .v (.int .i64 g.pa), oV 3 3 st.bs.length]⟩ : SObj) :: oO (bkCs 4 st.bs) :: pgM st.bs)
      (fun x st => blocksF smF (N - x) st.bs st.s = blocksF smF N [] (startS (g, s1)) ∧ Rl p c b st.p st.c st.s.1 ∧ st.bs.length ≤ x ∧ ∀ a ∈ st.bs, a.pages.length ≤ 255) ⟨p2, c2, [], s1⟩ ⟨by rw [e2]; rfl, hr, by simp, by simp⟩ (by show Fit _ _ [(2, .ptr 0 0), (3, .v (.int .i64 0)), (4, .ptr 1 0), (5, .ptr 2 0), (27, .v (.int .i64 (N : Int))), (28, .v (.int .i64 0))] [(⟨true, [.v (.int .i64 0), .v (.int .i64 0), .v (.int .i64 0), .v (.int .i64 0), .v (.slice none 0 0)]⟩ : SObj), rdO (.v (.slice p2 s1.1.length c2)) s1.2, (⟨true, [.v (.int .i64 g.ch), .v (.int .i64 g.di), .v (.int .i64 g.bl), .v (.int .i64 g.pa), .v (.slice none 0 0)]⟩ : SObj), (⟨false, []⟩ : SObj)]; exact (by refine ⟨[0, 1, 2, 2], by simp [NdL, NdA, oO_cells, oO_own, iL_nil], ?_, ?_, keep0 hJ⟩ <;> simp only [FitM, FitE, ObLe, LeL, Le, List.cons_append, List.nil_append] <;> (try (simp (maxSteps := 2000000) -implicitDefEqProofs only [le_v, or_true, Sz.extLe_no, s_alt, s_alt20, s_alt2t, s_alt2f, ↓s_loopi, ↓v_pq, ↓PRE, POST, CORE, Nat.reduceDiv, Nat.reduceMod, Int.reduceLT, Int.reduceLE, Int.reduceToNat, Int.reduceAdd, ↓reduceIte, Nat.reduceEqDiff, Nat.reduceAdd, Nat.reduceMul, Nat.reduceSub, Nat.reduceLeDiff, Nat.reduceLT, reduceCtorEq, if_true, eq_self, forall_const, implies_true])) <;> (try simp only [Sz.Le, Sz.LeL, List.getElem?_cons_zero, List.getElem?_cons_succ]) <;> (try simp))) ?_ ?_)
    · intro x st hx hI
      obtain ⟨sp, sc, bs, s2⟩ := st
      obtain ⟨i1, i2, i3, i4⟩ := hI
      simp only at i1 i2 i3 i4
      have j1 : decide ((x : Int) < (N : Int)) = true := decide_eq_true (by omega)
      have w1 : IntKind.i64.wrap ((x : Int) + 1) = (x : Int) + 1 := Sz.w_64 (by omega) (by omega)
      have eN : N - x = (N - (x + 1)) + 1 := by omega
      rw [eN] at i1
      by_cases h2 : s2.2 = 0
      · have d2 : (s2.2 == 0) = true := by simpa using h2
        have i1 : blocksF smF (N - (x + 1)) (bs ++ [(blockF smF s2).1]) (blockF smF s2).2 = blocksF smF N [] (startS (g, s1)) := by rw [← i1]; exact (if_pos h2).symm
        simp (maxSteps := 2000000) -implicitDefEqProofs only [j1, d2, ↓G15, ↓c56, s_alt, s_alt20, s_alt2t, s_alt2f, ↓s_loopi, ↓v_pq, ↓PRE, POST, CORE, Nat.reduceDiv, Nat.reduceMod, Int.reduceLT, Int.reduceLE, Int.reduceToNat, Int.reduceAdd, ↓reduceIte, Nat.reduceEqDiff, Nat.reduceAdd, Nat.reduceMul, Nat.reduceSub, Nat.reduceLeDiff, Nat.reduceLT, reduceCtorEq, if_true, eq_self, forall_const, implies_true]
        have hl : (bkCs 4 bs).length = bs.length * 3 := bkCs_len 4 bs
        have hbs : bs.length ≤ 64 := by omega
        refine ⟨?_, ?_⟩ <;> (refine ⟨1, sp, sc, s2, rfl, rfl, i2 J hfJ, fun p3 c3 hr3 => ?_⟩)
        · have hpl := blockF_pl (s := s2) (i2 J hfJ).2.2.2
          generalize blockF smF s2 = B at i1 hr3 hpl ⊢
          obtain ⟨⟨bad, er, pgs⟩, s3⟩ := B
          generalize hX : (if pgs = [] then ([] : Mem) else [⟨true, pgC pgs⟩]) = X
          have hYY : ∀ o, (pgM bs ++ X ++ [o])[(pgM bs).length + X.length]? = some o := fun o => by
            rw [List.getElem?_append_right (by simp), List.length_append, Nat.sub_self]; rfl
          simp only [List.length_cons, List.set_cons_succ, List.set_cons_zero, List.cons_append, hX]
          simp (maxSteps := 2000000) -implicitDefEqProofs only [o_sl, o_grows, o_kill, o_len, o_cap, o_isl, o_le, o_cells, o_one, oOk_c, oOk_o, oO_cells, oO_own, oV_s, oV_0, oO_nil, oO_iL, iL_nil, iL_snoc, List.length_append, hl, w1, hYY, s_alt, s_alt20, s_alt2t, s_alt2f, ↓s_loopi, ↓v_pq, ↓PRE, POST, CORE, Nat.reduceDiv, Nat.reduceMod, Int.reduceLT, Int.reduceLE, Int.reduceToNat, Int.reduceAdd, ↓reduceIte, Nat.reduceEqDiff, Nat.reduceAdd, Nat.reduceMul, Nat.reduceSub, Nat.reduceLeDiff, Nat.reduceLT, reduceCtorEq, if_true, eq_self, forall_const, implies_true]
          rw [show (pgM bs).length + X.length + 1 + 1 + 1 + 1 + 1 = 4 + bs.length + X.length + 1 by rw [pgM_len]; omega, show (pgM bs).length + 1 + 1 + 1 + 1 = 4 + bs.length by rw [pgM_len]; omega]
          rw [show bkCs 4 bs ++ [.v (.bool bad), .v (.int .i64 er), oV (4 + bs.length) 3 pgs.length] = bkCs 4 (bs ++ [⟨bad, er, pgs⟩]) from (bkCs_snoc 4 bs ⟨bad, er, pgs⟩).symm]
          refine ⟨⟨by unfold maxLen; omega, by omega⟩, ⟨p3, c3, bs ++ [⟨bad, er, pgs⟩], s3⟩, ⟨i1, i2.trans hr3, by simp only [List.length_append, List.length_cons, List.length_nil]; omega, fun a ha => by rcases List.mem_append.1 ha with ha | ha; exact i4 a ha; rw [List.mem_singleton.1 ha]; exact hpl⟩, gI bs.length X.length, NdL_of gI_nd, ?_, ?_, keep0 hJ⟩
          · exact fit15 (b := ⟨bad, er, pgs⟩) hX.symm (ho3 := ⟨_, _, _, rfl⟩) (ge := [.v (.int .i64 g.ch), .v (.int .i64 g.di), .v (.int .i64 g.bl), .v (.int .i64 g.pa)]) (fun _ => .inr ⟨id, LeL_plain _ (plainL_v [_, _, _, _, _]), trivial⟩) (fun _ => .inr ⟨id, LeL_plain _ (plainL_v [_, _]), trivial⟩) (fun _ => LeL_plain _ (plainL_v [_, _, _, _]))
          · simp only [FitE, Le, gI, List.getElem?_cons_zero, List.getElem?_cons_succ]
            simp (maxSteps := 2000000) -implicitDefEqProofs only [Int.natCast_add, Int.natCast_one, s_alt, s_alt20, s_alt2t, s_alt2f, ↓s_loopi, ↓v_pq, ↓PRE, POST, CORE, Nat.reduceDiv, Nat.reduceMod, Int.reduceLT, Int.reduceLE, Int.reduceToNat, Int.reduceAdd, ↓reduceIte, Nat.reduceEqDiff, Nat.reduceAdd, Nat.reduceMul, Nat.reduceSub, Nat.reduceLeDiff, Nat.reduceLT, reduceCtorEq, if_true, eq_self, forall_const, implies_true]
            try simp
        · have hpl := blockF_pl (s := s2) (i2 J hfJ).2.2.2
          generalize blockF smF s2 = B at i1 hr3 hpl ⊢
          obtain ⟨⟨bad, er, pgs⟩, s3⟩ := B
          generalize hX : (if pgs = [] then ([] : Mem) else [⟨true, pgC pgs⟩]) = X
          have hYY : ∀ o, (pgM bs ++ X ++ [o])[(pgM bs).length + X.length]? = some o := fun o => by
            rw [List.getElem?_append_right (by simp), List.length_append, Nat.sub_self]; rfl
          simp only [hX, List.length_cons, List.set_cons_succ, List.set_cons_zero, List.cons_append, hX]
          simp (maxSteps := 2000000) -implicitDefEqProofs only [o_sl, o_grows, o_kill, o_len, o_cap, o_isl, o_le, o_cells, o_one, oOk_c, oOk_o, oO_cells, oO_own, oV_s, oV_0, oO_nil, oO_iL, iL_nil, iL_snoc, List.length_append, hl, w1, hYY, s_alt, s_alt20, s_alt2t, s_alt2f, ↓s_loopi, ↓v_pq, ↓PRE, POST, CORE, Nat.reduceDiv, Nat.reduceMod, Int.reduceLT, Int.reduceLE, Int.reduceToNat, Int.reduceAdd, ↓reduceIte, Nat.reduceEqDiff, Nat.reduceAdd, Nat.reduceMul, Nat.reduceSub, Nat.reduceLeDiff, Nat.reduceLT, reduceCtorEq, if_true, eq_self, forall_const, implies_true]
          rw [show (pgM bs).length + X.length + 1 + 1 + 1 + 1 + 1 = 4 + bs.length + X.length + 1 by rw [pgM_len]; omega, show (pgM bs).length + 1 + 1 + 1 + 1 = 4 + bs.length by rw [pgM_len]; omega]
          rw [show bkCs 4 bs ++ [.v (.bool bad), .v (.int .i64 er), oV (4 + bs.length) 3 pgs.length] = bkCs 4 (bs ++ [⟨bad, er, pgs⟩]) from (bkCs_snoc 4 bs ⟨bad, er, pgs⟩).symm]
          refine ⟨⟨by unfold maxLen; omega, by omega⟩, ⟨p3, c3, bs ++ [⟨bad, er, pgs⟩], s3⟩, ⟨i1, i2.trans hr3, by simp only [List.length_append, List.length_cons, List.length_nil]; omega, fun a ha => by rcases List.mem_append.1 ha with ha | ha; exact i4 a ha; rw [List.mem_singleton.1 ha]; exact hpl⟩, gI bs.length X.length, NdL_of gI_nd, ?_, ?_, keep0 hJ⟩
          · exact fit15 (b := ⟨bad, er, pgs⟩) hX.symm (ho3 := ⟨_, _, _, rfl⟩) (ge := [.v (.int .i64 g.ch), .v (.int .i64 g.di), .v (.int .i64 g.bl), .v (.int .i64 g.pa)]) (fun _ => .inr ⟨id, LeL_plain _ (plainL_v [_, _, _, _, _]), trivial⟩) (fun _ => .inr ⟨id, LeL_plain _ (plainL_v [_, _]), trivial⟩) (fun _ => LeL_plain _ (plainL_v [_, _, _, _]))
          · simp only [FitE, Le, gI, List.getElem?_cons_zero, List.getElem?_cons_succ]
            simp (maxSteps := 2000000) -implicitDefEqProofs only [Int.natCast_add, Int.natCast_one, s_alt, s_alt20, s_alt2t, s_alt2f, ↓s_loopi, ↓v_pq, ↓PRE, POST, CORE, Nat.reduceDiv, Nat.reduceMod, Int.reduceLT, Int.reduceLE, Int.reduceToNat, Int.reduceAdd, ↓reduceIte, Nat.reduceEqDiff, Nat.reduceAdd, Nat.reduceMul, Nat.reduceSub, Nat.reduceLeDiff, Nat.reduceLT, reduceCtorEq, if_true, eq_self, forall_const, implies_true]
            try simp
      · have d2 : (s2.2 == 0) = false := by simpa using h2
        have i1 : blocksF smF (N - (x + 1)) bs s2 = blocksF smF N [] (startS (g, s1)) := by rw [← i1]; exact (if_neg h2).symm
        simp (maxSteps := 2000000) -implicitDefEqProofs only [j1, d2, w1, s_alt, s_alt20, s_alt2t, s_alt2f, ↓s_loopi, ↓v_pq, ↓PRE, POST, CORE, Nat.reduceDiv, Nat.reduceMod, Int.reduceLT, Int.reduceLE, Int.reduceToNat, Int.reduceAdd, ↓reduceIte, Nat.reduceEqDiff, Nat.reduceAdd, Nat.reduceMul, Nat.reduceSub, Nat.reduceLeDiff, Nat.reduceLT, reduceCtorEq, if_true, eq_self, forall_const, implies_true]
        refine ⟨⟨sp, sc, bs, s2⟩, ⟨i1, i2, by simp only; omega, i4⟩, gS bs.length, NdL_of gS_nd, ?_, ?_, keep0 hJ⟩
        · exact fit15s (ge := [.v (.int .i64 g.ch), .v (.int .i64 g.di), .v (.int .i64 g.bl), .v (.int .i64 g.pa)]) (fun _ => .inr ⟨id, LeL_plain _ (plainL_v [_, _, _, _, _]), trivial⟩) (fun _ => .inr ⟨id, LeL_plain _ (plainL_v [_, _]), trivial⟩) (fun g s h => by simp [LeL, Le, h])
        · simp only [FitE, Le, gS, List.getElem?_cons_zero, List.getElem?_cons_succ]
          simp (maxSteps := 2000000) -implicitDefEqProofs only [Int.natCast_add, Int.natCast_one, s_alt, s_alt20, s_alt2t, s_alt2f, ↓s_loopi, ↓v_pq, ↓PRE, POST, CORE, Nat.reduceDiv, Nat.reduceMod, Int.reduceLT, Int.reduceLE, Int.reduceToNat, Int.reduceAdd, ↓reduceIte, Nat.reduceEqDiff, Nat.reduceAdd, Nat.reduceMul, Nat.reduceSub, Nat.reduceLeDiff, Nat.reduceLT, reduceCtorEq, if_true, eq_self, forall_const, implies_true]
          try simp
    · intro st hI
      obtain ⟨sp, sc, bs, s2⟩ := st
      obtain ⟨i1, i2, i3, i4⟩ := hI
      simp only at i1 i2 i3 i4
      rw [Nat.sub_self] at i1
      have i1 : (bs, s2) = blocksF smF N [] (startS (g, s1)) := i1
      rw [← i1] at hke hk0
      have j1 : decide ((N : Int) < (N : Int)) = false := decide_eq_false (by omega)
      have fin : ∀ (e : Int) (m' : Mem), k (.tup [.agg [.v (.int .i64 0), .v (.int .i64 0), .v (.int .i64 0), .v (.int .i64 0), .v (.slice none 0 0)], .v (.int .i64 e)]) m →
          ∃ (g2 : List Nat) (s2 : SV) (m2 : Mem), g2.Nodup ∧ FitM g2 m' g2 m2 ∧ (∀ o ∈ m2, o.own = true) ∧ Le g2 s2 (.tup [.agg [.v (.int .i64 0), .v (.int .i64 0), .v (.int .i64 0), .v (.int .i64 0), .v (.slice none 0 0)], .v (.int .i64 e)]) ∧ k (s2.up m.length) (m ++ m2.map (SObj.up m.length)) := fun e m' hk =>
        ⟨[], .tup [.agg [.v (.int .i64 0), .v (.int .i64 0), .v (.int .i64 0), .v (.int .i64 0), .v (.slice none 0 0)], .v (.int .i64 e)], [], by simp, trivial, by simp, by simp [Le, LeL], by simpa [SV.up, upL] using hk⟩
      by_cases h2 : s2.2 = 0
      · have d2 : (s2.2 == 0) = true := by simpa using h2
        by_cases h3 : s2.1 = []
        · have d3 : decide ((0 : Int) < (s2.1.length : Int)) = false := by rw [h3]; rfl
          simp (maxSteps := 2000000) -implicitDefEqProofs only [j1, d2, d3, ↓G15, ↓c45, s_alt, s_alt20, s_alt2t, s_alt2f, ↓s_loopi, ↓v_pq, ↓PRE, POST, CORE, Nat.reduceDiv, Nat.reduceMod, Int.reduceLT, Int.reduceLE, Int.reduceToNat, Int.reduceAdd, ↓reduceIte, Nat.reduceEqDiff, Nat.reduceAdd, Nat.reduceMul, Nat.reduceSub, Nat.reduceLeDiff, Nat.reduceLT, reduceCtorEq, if_true, eq_self, forall_const, implies_true]
          refine ⟨_, g, bs, rfl, ⟨oV 3 3 bs.length, bkCs 4 bs, rfl, ?_, blk_own 4 bs fun i a ha => ?_⟩, by omega, fun a ha => by have := i4 a ha; omega, ?_⟩
          · rw [o_sl (by show oOk1 (some (oO (bkCs 4 bs))) _ _; rw [oOk_o]; exact ⟨bkCs_len 4 bs, by omega⟩)]
            rfl
          · rw [show 4 + i = i + 1 + 1 + 1 + 1 by omega]
            simp only [List.getElem?_cons_succ]
            unfold pgM
            rw [List.getElem?_map, ha]
            rfl
          cases hm : mayF g bs with
          | false =>
            have eE : endE g (bs, s2) = 2 := by unfold endE; rw [if_pos ⟨h2, .inr hm⟩]
            rw [eE] at hke
            simp (maxSteps := 2000000) -implicitDefEqProofs only [Bool.not_false, ↓c54, s_alt, s_alt20, s_alt2t, s_alt2f, ↓s_loopi, ↓v_pq, ↓PRE, POST, CORE, Nat.reduceDiv, Nat.reduceMod, Int.reduceLT, Int.reduceLE, Int.reduceToNat, Int.reduceAdd, ↓reduceIte, Nat.reduceEqDiff, Nat.reduceAdd, Nat.reduceMul, Nat.reduceSub, Nat.reduceLeDiff, Nat.reduceLT, reduceCtorEq, if_true, eq_self, forall_const, implies_true]
            refine ⟨1, _, _, _, rfl, rfl, ?_⟩
            rw [if_pos h2]
            have d4 : ((2 : Int) != 0) = true := rfl
            simp (maxSteps := 2000000) -implicitDefEqProofs only [d4, s_alt, s_alt20, s_alt2t, s_alt2f, ↓s_loopi, ↓v_pq, ↓PRE, POST, CORE, Nat.reduceDiv, Nat.reduceMod, Int.reduceLT, Int.reduceLE, Int.reduceToNat, Int.reduceAdd, ↓reduceIte, Nat.reduceEqDiff, Nat.reduceAdd, Nat.reduceMul, Nat.reduceSub, Nat.reduceLeDiff, Nat.reduceLT, reduceCtorEq, if_true, eq_self, forall_const, implies_true]
            exact fin _ _ (hke (by decide))
          | true =>
            have eE : endE g (bs, s2) = 0 := by unfold endE; rw [if_neg (fun h => h.2.elim (fun h => h h3) (fun h => by simp [hm] at h))]; exact h2
            have hk0 := hk0 eE
            have d4 : (s2.2 != 0) = false := by rw [h2]; rfl
            simp (maxSteps := 2000000) -implicitDefEqProofs only [Bool.not_true, d4, s_alt, s_alt20, s_alt2t, s_alt2f, ↓s_loopi, ↓v_pq, ↓PRE, POST, CORE, Nat.reduceDiv, Nat.reduceMod, Int.reduceLT, Int.reduceLE, Int.reduceToNat, Int.reduceAdd, ↓reduceIte, Nat.reduceEqDiff, Nat.reduceAdd, Nat.reduceMul, Nat.reduceSub, Nat.reduceLeDiff, Nat.reduceLT, reduceCtorEq, if_true, eq_self, forall_const, implies_true]
            have hne : bs ≠ [] := by
              intro h
              unfold mayF at hm
              simp only [Bool.and_eq_true, beq_iff_eq] at hm
              have h5 := (chk_in.1 hm.1).2
              have h6 := hm.2.1
              rw [h] at h6
              unfold nB at h6
              rw [if_pos hm.1] at h6
              simp only [List.length_nil] at h6
              omega
            have hbo : oO (bkCs 4 bs) = ⟨true, bkCs 4 bs⟩ := by
              cases bs with
              | nil => exact (hne rfl).elim
              | cons a l => rfl
            refine ⟨o_one, 3 :: List.range' 4 bs.length, .tup [.agg (g.sv ++ [oV 0 3 bs.length]), .v (.int .i64 0)], ⟨true, bkCs 1 bs⟩ :: pgM bs, ?_, ?_, ?_, ?_, ?_⟩
            · exact List.nodup_cons.2 ⟨by simp only [List.mem_range'_1]; omega, List.nodup_range'⟩
            · exact fit_tail bs hbo
            · intro o ho
              rcases List.mem_cons.1 ho with rfl | ho
              · rfl
              · exact pgM_own bs o ho
            · simp [Le, LeL, Ge.sv, o_le]
            · rw [show (SV.tup [.agg (g.sv ++ [oV 0 3 bs.length]), .v (.int .i64 0)]).up m.length = .tup [.agg (g.sv ++ [oV m.length 3 bs.length]), .v (.int .i64 0)] by simp [SV.up, upL, Ge.sv, o_up]]
              rw [List.map_cons, pgM_up, show SObj.up m.length ⟨true, bkCs 1 bs⟩ = ⟨true, bkCs (m.length + 1) bs⟩ by simp only [SObj.up, bkCs_up]]
              refine hk0 _ _ (@pic_own I (m ++ (⟨true, bkCs (m.length + 1) bs⟩ :: pgM bs)) g bs m.length (by rw [List.getElem?_append_right (Nat.le_refl _), Nat.sub_self]; rfl) (fun i a ha => ?_) hne)
              rw [List.getElem?_append_right (by omega), show m.length + 1 + i - m.length = i + 1 by omega, List.getElem?_cons_succ]
              unfold pgM
              rw [List.getElem?_map, ha]
              rfl
        · have d3 : decide ((0 : Int) < (s2.1.length : Int)) = true := by
            have : s2.1.length ≠ 0 := fun h => h3 (List.length_eq_zero_iff.1 h)
            exact decide_eq_true (by omega)
          have eE : endE g (bs, s2) = 2 := by unfold endE; rw [if_pos ⟨h2, .inl h3⟩]
          rw [eE] at hke
          simp (maxSteps := 2000000) -implicitDefEqProofs only [j1, d2, d3, ↓G15, ↓c54, s_alt, s_alt20, s_alt2t, s_alt2f, ↓s_loopi, ↓v_pq, ↓PRE, POST, CORE, Nat.reduceDiv, Nat.reduceMod, Int.reduceLT, Int.reduceLE, Int.reduceToNat, Int.reduceAdd, ↓reduceIte, Nat.reduceEqDiff, Nat.reduceAdd, Nat.reduceMul, Nat.reduceSub, Nat.reduceLeDiff, Nat.reduceLT, reduceCtorEq, if_true, eq_self, forall_const, implies_true]
          refine ⟨1, _, _, _, rfl, rfl, ?_⟩
          rw [if_pos h2]
          have d4 : ((2 : Int) != 0) = true := rfl
          simp (maxSteps := 2000000) -implicitDefEqProofs only [d4, s_alt, s_alt20, s_alt2t, s_alt2f, ↓s_loopi, ↓v_pq, ↓PRE, POST, CORE, Nat.reduceDiv, Nat.reduceMod, Int.reduceLT, Int.reduceLE, Int.reduceToNat, Int.reduceAdd, ↓reduceIte, Nat.reduceEqDiff, Nat.reduceAdd, Nat.reduceMul, Nat.reduceSub, Nat.reduceLeDiff, Nat.reduceLT, reduceCtorEq, if_true, eq_self, forall_const, implies_true]
          exact fin _ _ (hke (by decide))
      · have d2 : (s2.2 == 0) = false := by simpa using h2
        have d4 : (s2.2 != 0) = true := by simpa using h2
        have eE : endE g (bs, s2) = s2.2 := by unfold endE; rw [if_neg (fun h => h2 h.1)]
        rw [eE] at hke
        have hke := hke h2
        simp (maxSteps := 2000000) -implicitDefEqProofs only [j1, d2, d4, s_alt, s_alt20, s_alt2t, s_alt2f, ↓s_loopi, ↓v_pq, ↓PRE, POST, CORE, Nat.reduceDiv, Nat.reduceMod, Int.reduceLT, Int.reduceLE, Int.reduceToNat, Int.reduceAdd, ↓reduceIte, Nat.reduceEqDiff, Nat.reduceAdd, Nat.reduceMul, Nat.reduceSub, Nat.reduceLeDiff, Nat.reduceLT, reduceCtorEq, if_true, eq_self, forall_const, implies_true]
        exact fin _ _ hke
end Go.Proofs.Ytibefgdjijmncaa
end
section
namespace Go.Proofs.Ytibefgdjijmncaa
open Go.RowKit Sz
def smallB (bs : List Bk) : Prop := bs.length ≤ 140737488355328 ∧ ∀ b ∈ bs, b.pages.length ≤ 140737488355328 ∧ ∀ x ∈ b.pages, x.beside.size ≤ 140737488355328 ∧ x.data.size ≤ 140737488355328
theorem slOf_app [Inp] {m m2 : Mem} {z : Nat} {s : SV} {x : Nat × List SV} (h : slOf m z s = some x) : slOf (m ++ m2) z s = some x := by
  unfold slOf at h ⊢
  split at h
  · rename_i k o n sz
    split at h
    · rename_i hz
      rw [if_pos hz]
      split at h
      · rename_i ob hob
        rw [List.getElem?_append_left (List.getElem?_eq_some_iff.1 hob).1, hob]
        exact h
      · cases h
    · cases h
  all_goals exact h
theorem blkS_app [Inp] {m m2 : Mem} : ∀ {cs : List SV} {bs : List Bk}, blkS m cs bs → blkS (m ++ m2) cs bs
  | [], [], _ => trivial
  | x :: y :: z :: t, b :: bs, h => ⟨h.1, h.2.1, slOf_app h.2.2.1, blkS_app h.2.2.2⟩
  | [], _ :: _, h => h.elim
  | [_], bs, h => by cases bs <;> exact h.elim
  | [_, _], bs, h => by cases bs <;> exact h.elim
  | _ :: _ :: _ :: _, [], h => h.elim
/-- A picture stays where more is made. -/
theorem picS_app [Inp] {m m2 : Mem} {s : SV} {g : Ge} {bs : List Bk} (h : picS m s g bs) : picS (m ++ m2) s g bs := by
  obtain ⟨r, cells, h1, h2, h3⟩ := h
  exact ⟨r, cells, h1, slOf_app h2, blkS_app h3⟩
theorem told_len {g : Ge} {bs : List Bk} (h : mayF g bs = true) : (toldF smF g bs).length ≤ 209739 := by
  rw [← outB_end]
  exact outB_len h _
theorem told_pos {g : Ge} {bs : List Bk} : 0 < (toldF smF g bs).length := by
  unfold toldF
  rw [List.length_append, frF_len]
  omega
theorem frF_byt {k : Int} {body : List Int} (h : Byt body) : Byt (frF smF k body) := (hdF_byt h).app (leN_byt _ _)
theorem flat_byt {α : Type} {f : α → List Int} : ∀ {l : List α}, (∀ x ∈ l, Byt (f x)) → Byt (l.flatMap f) := fun {l} h x hx => by
  obtain ⟨a, ha, hx⟩ := List.mem_flatMap.1 hx
  exact h a ha x hx
theorem told_byt {g : Ge} {bs : List Bk} : Byt (toldF smF g bs) := by
  unfold toldF hdB
  refine (frF_byt ?_).app (flat_byt fun b _ => ?_)
  · exact (leN_byt _ _).app ((leN_byt _ _).app ((leN_byt _ _).app ((leN_byt _ _).app fun x hx => by cases hx)))
  · exact (frF_byt (bkB_byt b)).app (flat_byt fun x _ => frF_byt (pgB_byt x))
theorem eqG_self (g : Ge) : eqG g g = true := by simp [eqG]
theorem eqBs_self (bs : List Bk) : eqBs bs bs = true := by
  unfold eqBs
  simp only [beq_self_eq_true, Bool.true_and, List.all_eq_true]
  intro z hz
  obtain ⟨i, hi⟩ := List.getElem?_of_mem hz
  obtain ⟨h1, h2⟩ := List.getElem?_zip_eq_some.1 hi
  rw [h1] at h2
  injection h2 with h2
  rw [← h2]
  exact eqB_self _
theorem dif_self (bs : List Bk) : difL bs bs = [] := by
  have h := same_dif bs bs
  rw [eqBs_self] at h
  exact List.length_eq_zero_iff.1 (by simpa using h.symm)
theorem may_len {g : Ge} {bs : List Bk} (h : mayF g bs = true) : bs.length ≤ 64 ∧ ∀ b ∈ bs, b.pages.length ≤ 16 := ⟨(may_all h).2.1, fun b hb => ((may_all h).2.2 b hb).1⟩
end Go.Proofs.Ytibefgdjijmncaa
end
section
namespace Go.Proofs.Ytibefgdjijmncaa
open Go.RowKit Sz
set_option maxHeartbeats 4000000
set_option maxRecDepth 20000
-- almshouse/image.Bytes (1 parameters)
def x13 : XC := (.seq (.tree (.seq ⟨some 1, none, (.box (.tmp 0))⟩
  (.seq ⟨some 2, none, (.ofA (.mv (.cst (.v (.slice none 0 0)))))⟩
  (.seq ⟨some 3, none, (.ofA (.mv (.cst (.v (.int .i64 0)))))⟩
  .done))))
 (.seq (.seq (.tree (.seq ⟨some 13, none, (.ofA (.load (some 5) (.tmp 1)))⟩
  (.seq ⟨some 14, none, (.call (.cst (.fn 45 [])) [(.tmp 13)])⟩
  (.seq ⟨some 15, none, (.ofA (.un .not (.tmp 14)))⟩
  .done))))
 (.cond (.tmp 15)
 (.seq (.tree (.seq ⟨some 2, none, (.ofA (.mv (.cst (.v (.slice none 0 0)))))⟩
  (.seq ⟨some 3, none, (.ofA (.mv (.cst (.v (.int .i64 2)))))⟩
  .done)))
 .ret)
 .skip))
 (.seq (.tree (.seq ⟨some 16, none, (.build [(.v (.slice none 0 0)), (.v (.int .i64 0))] [])⟩
  (.seq ⟨some 17, none, (.box (.tmp 16))⟩
  (.seq ⟨some 4, none, (.ofA (.mv (.tmp 17)))⟩
  .done))))
 (.seq (.tree (.seq ⟨some 5, none, (.ofA (.mv (.cst (.v (.slice none 0 0)))))⟩
  .done))
 (.seq (.seq (.tree (.seq ⟨some 18, none, (.ofA (.faddr 0 (.tmp 1)))⟩
  (.seq ⟨some 19, none, (.ofA (.faddr 0 (.tmp 18)))⟩
  (.seq ⟨some 20, none, (.ofA (.load none (.tmp 19)))⟩
  (.seq ⟨some 21, none, (.ofA (.faddr 0 (.tmp 1)))⟩
  (.seq ⟨some 22, none, (.ofA (.faddr 1 (.tmp 21)))⟩
  (.seq ⟨some 23, none, (.ofA (.load none (.tmp 22)))⟩
  (.seq ⟨some 24, none, (.ofA (.faddr 0 (.tmp 1)))⟩
  (.seq ⟨some 25, none, (.ofA (.faddr 2 (.tmp 24)))⟩
  (.seq ⟨some 26, none, (.ofA (.load none (.tmp 25)))⟩
  (.seq ⟨some 27, none, (.ofA (.faddr 0 (.tmp 1)))⟩
  (.seq ⟨some 28, none, (.ofA (.faddr 3 (.tmp 27)))⟩
  (.seq ⟨some 29, none, (.ofA (.load none (.tmp 28)))⟩
  (.seq ⟨some 30, none, (.buildSl 1 4 [(.v (.int .i64 0)), (.v (.int .i64 0)), (.v (.int .i64 0)), (.v (.int .i64 0))] [(0, 1, (.tmp 20)), (1, 1, (.tmp 23)), (2, 1, (.tmp 26)), (3, 1, (.tmp 29))])⟩
  (.seq ⟨some 31, none, (.ofA (.len (.tmp 30)))⟩
  (.seq ⟨some 32, none, (.ofA (.mv (.cst (.v (.int .i64 0)))))⟩
  .done))))))))))))))))
 (.block 0 (.loop (.seq (.tree (.seq ⟨some 33, none, (.ofA (.bin .lss (.tmp 32) (.tmp 31)))⟩
  .done))
 (.seq (.cond (.tmp 33)
 .skip
 (.exit 0))
 (.seq (.block 1 (.seq (.tree (.seq ⟨some 34, none, (.ofA (.isl 1 (.tmp 30) (.tmp 32)))⟩
  (.seq ⟨some 35, none, (.ofA (.load none (.tmp 34)))⟩
  (.seq ⟨some 7, none, (.ofA (.mv (.tmp 35)))⟩
  .done))))
 (.tree (.seq ⟨some 36, none, (.ofA (.mv (.tmp 5)))⟩
  (.seq ⟨some 37, none, (.ofA (.mv (.tmp 7)))⟩
  (.seq ⟨some 38, none, (.call (.cst (.fn 46 [])) [(.tmp 36), (.tmp 37), (.cst (.v (.int .i64 1)))])⟩
  (.seq ⟨some 5, none, (.ofA (.mv (.tmp 38)))⟩
  .done)))))))
 (.tree (.seq ⟨some 39, none, (.ofA (.bin .add (.tmp 32) (.cst (.v (.int .i64 1)))))⟩
  (.seq ⟨some 32, none, (.ofA (.mv (.tmp 39)))⟩
  .done)))))))))
 (.seq (.tree (.seq ⟨some 40, none, (.ofA (.mv (.tmp 4)))⟩
  (.seq ⟨some 41, none, (.ofA (.mv (.tmp 5)))⟩
  (.seq ⟨some 42, none, (.call (.cst (.fn 47 [])) [(.tmp 40), (.cst (.v (.int .i64 71))), (.tmp 41)])⟩
  .done))))
 (.seq (.seq (.tree (.seq ⟨some 43, none, (.ofA (.faddr 4 (.tmp 1)))⟩
  (.seq ⟨some 44, none, (.ofA (.load none (.tmp 43)))⟩
  (.seq ⟨some 45, none, (.ofA (.len (.tmp 44)))⟩
  (.seq ⟨some 46, none, (.ofA (.mv (.cst (.v (.int .i64 0)))))⟩
  .done)))))
 (.block 2 (.loop (.seq (.tree (.seq ⟨some 47, none, (.ofA (.bin .lss (.tmp 46) (.tmp 45)))⟩
  .done))
 (.seq (.cond (.tmp 47)
 .skip
 (.exit 2))
 (.seq (.block 3 (.seq (.tree (.seq ⟨some 48, none, (.ofA (.isl 3 (.tmp 44) (.tmp 46)))⟩
  (.seq ⟨some 49, none, (.ofA (.load (some 3) (.tmp 48)))⟩
  (.seq ⟨some 9, none, (.alloc [(.v (.bool false)), (.v (.int .i64 0)), (.v (.slice none 0 0))])⟩
  (.seq ⟨none, none, (.store 3 (.tmp 9) (.tmp 49))⟩
  .done)))))
 (.seq (.tree (.take ⟨some 50, none, (.ofA (.mv (.tmp 4)))⟩
  (.take ⟨some 51, none, (.ofA (.faddr 0 (.tmp 9)))⟩
  (.take ⟨some 52, none, (.ofA (.load none (.tmp 51)))⟩
  (.take ⟨some 55, none, (.ofA (.faddr 2 (.tmp 9)))⟩
  (.take ⟨some 56, none, (.ofA (.load none (.tmp 55)))⟩
  (.take ⟨some 57, none, (.ofA (.len (.tmp 56)))⟩
  (.take ⟨some 59, none, (.ofA (.faddr 1 (.tmp 9)))⟩
  (.take ⟨some 60, none, (.ofA (.load none (.tmp 59)))⟩
  (.alt [true] [(⟨some 53, none, (.call (.cst (.fn 48 [])) [(.tmp 52)])⟩,
 (.alt [true] [(⟨some 54, none, (.call (.cst (.fn 46 [])) [(.cst (.v (.slice none 0 0))), (.tmp 53), (.cst (.v (.int .i64 1)))])⟩,
 (.alt [true] [(⟨some 58, none, (.call (.cst (.fn 46 [])) [(.tmp 54), (.tmp 57), (.cst (.v (.int .i64 1)))])⟩,
 (.alt [true] [(⟨some 61, none, (.call (.cst (.fn 46 [])) [(.tmp 58), (.tmp 60), (.cst (.v (.int .i64 4)))])⟩,
 (.alt [false] [(⟨some 62, none, (.call (.cst (.fn 47 [])) [(.tmp 50), (.cst (.v (.int .i64 66))), (.tmp 61)])⟩,
 .done)]))]))]))]))]))))))))))
 (.seq (.tree (.seq ⟨some 63, none, (.ofA (.faddr 2 (.tmp 9)))⟩
  (.seq ⟨some 64, none, (.ofA (.load none (.tmp 63)))⟩
  (.seq ⟨some 65, none, (.ofA (.len (.tmp 64)))⟩
  (.seq ⟨some 66, none, (.ofA (.mv (.cst (.v (.int .i64 0)))))⟩
  .done)))))
 (.block 4 (.loop (.seq (.tree (.seq ⟨some 67, none, (.ofA (.bin .lss (.tmp 66) (.tmp 65)))⟩
  .done))
 (.seq (.cond (.tmp 67)
 .skip
 (.exit 4))
 (.seq (.block 5 (.seq (.tree (.seq ⟨some 68, none, (.ofA (.isl 3 (.tmp 64) (.tmp 66)))⟩
  (.seq ⟨some 69, none, (.ofA (.load (some 3) (.tmp 68)))⟩
  (.seq ⟨some 11, none, (.alloc [(.v (.bool false)), (.v (.string ⟨#[]⟩)), (.v (.string ⟨#[]⟩))])⟩
  (.seq ⟨none, none, (.store 3 (.tmp 11) (.tmp 69))⟩
  .done)))))
 (.seq (.tree (.seq ⟨some 70, none, (.ofA (.faddr 0 (.tmp 11)))⟩
  (.seq ⟨some 71, none, (.ofA (.load none (.tmp 70)))⟩
  (.seq ⟨some 72, none, (.call (.cst (.fn 48 [])) [(.tmp 71)])⟩
  (.seq ⟨some 73, none, (.call (.cst (.fn 46 [])) [(.cst (.v (.slice none 0 0))), (.tmp 72), (.cst (.v (.int .i64 1)))])⟩
  (.seq ⟨some 12, none, (.ofA (.mv (.tmp 73)))⟩
  .done))))))
 (.seq (.seq (.tree (.seq ⟨some 74, none, (.ofA (.faddr 0 (.tmp 11)))⟩
  (.seq ⟨some 75, none, (.ofA (.load none (.tmp 74)))⟩
  (.seq ⟨some 76, none, (.ofA (.un .not (.tmp 75)))⟩
  .done))))
 (.cond (.tmp 76)
 (.tree (.take ⟨some 77, none, (.ofA (.mv (.tmp 12)))⟩
  (.take ⟨some 78, none, (.ofA (.faddr 1 (.tmp 11)))⟩
  (.take ⟨some 79, none, (.ofA (.load none (.tmp 78)))⟩
  (.take ⟨some 81, none, (.ofA (.faddr 2 (.tmp 11)))⟩
  (.take ⟨some 82, none, (.ofA (.load none (.tmp 81)))⟩
  (.act true [(⟨some 80, none, (.call (.cst (.fn 49 [])) [(.tmp 77), (.tmp 79)])⟩,
 (.act true [(⟨some 83, none, (.call (.cst (.fn 49 [])) [(.tmp 80), (.tmp 82)])⟩,
 (.take ⟨some 12, none, (.ofA (.mv (.tmp 83)))⟩
  .done))]))])))))))
 .skip))
 (.tree (.seq ⟨some 84, none, (.ofA (.mv (.tmp 4)))⟩
  (.seq ⟨some 85, none, (.ofA (.mv (.tmp 12)))⟩
  (.seq ⟨some 86, none, (.call (.cst (.fn 47 [])) [(.tmp 84), (.cst (.v (.int .i64 80))), (.tmp 85)])⟩
  .done))))))))
 (.tree (.seq ⟨some 87, none, (.ofA (.bin .add (.tmp 66) (.cst (.v (.int .i64 1)))))⟩
  (.seq ⟨some 66, none, (.ofA (.mv (.tmp 87)))⟩
  .done))))))))))))
 (.tree (.seq ⟨some 88, none, (.ofA (.bin .add (.tmp 46) (.cst (.v (.int .i64 1)))))⟩
  (.seq ⟨some 46, none, (.ofA (.mv (.tmp 88)))⟩
  .done)))))))))
 (.seq (.seq (.tree (.seq ⟨some 89, none, (.ofA (.mv (.tmp 4)))⟩
  (.seq ⟨some 90, none, (.ofA (.nilc (.tmp 89)))⟩
  (.seq ⟨some 91, none, (.ofA (.faddr 1 (.tmp 90)))⟩
  (.seq ⟨some 92, none, (.ofA (.load none (.tmp 91)))⟩
  (.seq ⟨some 93, none, (.ofA (.bin .neq (.tmp 92) (.cst (.v (.int .i64 0)))))⟩
  .done))))))
 (.cond (.tmp 93)
 (.seq (.tree (.take ⟨some 94, none, (.ofA (.mv (.tmp 4)))⟩
  (.take ⟨some 95, none, (.ofA (.nilc (.tmp 94)))⟩
  (.take ⟨some 96, none, (.ofA (.faddr 1 (.tmp 95)))⟩
  (.take ⟨some 97, none, (.ofA (.load none (.tmp 96)))⟩
  (.take ⟨some 2, none, (.ofA (.mv (.cst (.v (.slice none 0 0)))))⟩
  (.take ⟨some 3, none, (.ofA (.mv (.tmp 97)))⟩
  .done)))))))
 .ret)
 .skip))
 (.seq (.tree (.seq ⟨some 98, none, (.ofA (.mv (.tmp 4)))⟩
  (.seq ⟨some 99, none, (.ofA (.nilc (.tmp 98)))⟩
  (.seq ⟨some 100, none, (.ofA (.faddr 0 (.tmp 99)))⟩
  (.seq ⟨some 101, none, (.ofA (.load none (.tmp 100)))⟩
  (.seq ⟨some 2, none, (.ofA (.mv (.tmp 101)))⟩
  (.seq ⟨some 3, none, (.ofA (.mv (.cst (.v (.int .i64 0)))))⟩
  .done)))))))
 .ret)))))))))
def r13 : List XR := [.tmp 2, .tmp 3]
theorem fn13 : FnX Try.prog 13 [47] 102 x13 r13 := ⟨_, Try.func13, by kernel_rfl, by kernel_rfl, by kernel_rfl, by kernel_rfl⟩
def c13 [Inp] : Trans := fun args m k => ∃ s g bs, args = [s] ∧ picS m s g bs ∧ bs.length ≤ 140737488355328 ∧ (∀ b ∈ bs, b.pages.length ≤ 140737488355328) ∧
  (if mayF g bs = true then k (.tup [.row m.length 0 (toldF smF g bs).length 1, .v (.int .i64 0)]) (m ++ [⟨true, bL (toldF smF g bs)⟩]) else k (.tup [.v (.slice none 0 0), .v (.int .i64 2)]) m)
def G13 [Inp] : List CEntry := [⟨45, true, c45⟩, ⟨46, true, c46⟩, ⟨47, false, c47⟩, ⟨48, true, c48⟩, ⟨49, true, c49⟩]
theorem g13 [Inp] : GOk Try.prog G13 := GOk.cons c45_ok (GOk.cons c46_ok (GOk.cons c47_ok (GOk.cons c48_ok (GOk.cons c49_ok (g0 _)))))
theorem len_ne {L : List Int} (h : 0 < L.length) : ¬ L = [] := by
  intro e; rw [e] at h; simp at h
theorem c13_ok [I : Inp] : Contract Try.prog 13 true c13 := by
  refine .readFG fn13 (G := fun J => @G13 J) (fun J => @g13 J) _ fun args m k h => ?_
  obtain ⟨s, g, bs, rfl, h1, hn, hpn, hk⟩ := h
  refine ⟨by simp, fun J hJ K hK us hus => ?_⟩
  obtain ⟨u, t1, rfl, hk1, rfl⟩ := hus
  obtain ⟨p, c, xs, e1, hxs, hin, hx0⟩ := pic_kn hK h1 hk1
  rw [List.map_cons, e1, List.map_nil]
  have P1 : ∀ m', picS m' (.agg [.v (.int .i64 g.ch), .v (.int .i64 g.di), .v (.int .i64 g.bl), .v (.int .i64 g.pa), .v (.slice p xs.length c)]) g bs := fun m' => by rw [← hxs]; exact pic_plain m' hin hx0
  have hlx : bs.length = xs.length := by rw [← hxs, List.length_map]
  have hitem : ∀ (i : Nat) (x : Bi), xs[i]? = some x → inpL (plusA p (i * 3)) 3 = some x.cs := fun i x hx => inp_item Bi.len hin rfl hx
  unfold Ge.sv
  simp (maxSteps := 2000000) -implicitDefEqProofs only [↓x13, ↓r13, ↓G13, ↓c45, s_alt, s_alt20, s_alt2t, s_alt2f, ↓s_loopi, ↓v_pq, ↓PRE, POST, CORE, Nat.reduceDiv, Nat.reduceMod, Int.reduceLT, Int.reduceLE, Int.reduceToNat, Int.reduceAdd, ↓reduceIte, Nat.reduceEqDiff, Nat.reduceAdd, Nat.reduceMul, Nat.reduceSub, Nat.reduceLeDiff, Nat.reduceLT, reduceCtorEq, if_true, eq_self, forall_const, implies_true]
  refine ⟨_, g, bs, rfl, P1 _, hn, hpn, ?_⟩
  cases hm : mayF g bs with
  | false =>
    rw [hm] at hk
    simp only [Bool.false_eq_true, if_false] at hk
    simp (maxSteps := 2000000) -implicitDefEqProofs only [s_alt, s_alt20, s_alt2t, s_alt2f, ↓s_loopi, ↓v_pq, ↓PRE, POST, CORE, Nat.reduceDiv, Nat.reduceMod, Int.reduceLT, Int.reduceLE, Int.reduceToNat, Int.reduceAdd, ↓reduceIte, Nat.reduceEqDiff, Nat.reduceAdd, Nat.reduceMul, Nat.reduceSub, Nat.reduceLeDiff, Nat.reduceLT, reduceCtorEq, if_true, eq_self, forall_const, implies_true]
    refine ⟨[], .tup [.v (.slice none 0 0), .v (.int .i64 2)], [], by simp, trivial, by simp, by simp only [Le, LeL]; simp, ?_⟩
    simpa [SV.up, upL] using hk
  | true =>
  rw [hm, if_pos rfl] at hk
  obtain ⟨hg, hl64, hbs⟩ := may_all hm
  have hby := chk_by hg
  have hhd := hd_put hby
  obtain ⟨⟨y1, y2⟩, ⟨y3, y4⟩, ⟨y5, y6⟩, ⟨y7, y8⟩⟩ := hby
  simp (maxSteps := 2000000) -implicitDefEqProofs only [s_alt, s_alt20, s_alt2t, s_alt2f, ↓s_loopi, ↓v_pq, ↓PRE, POST, CORE, Nat.reduceDiv, Nat.reduceMod, Int.reduceLT, Int.reduceLE, Int.reduceToNat, Int.reduceAdd, ↓reduceIte, Nat.reduceEqDiff, Nat.reduceAdd, Nat.reduceMul, Nat.reduceSub, Nat.reduceLeDiff, Nat.reduceLT, reduceCtorEq, if_true, eq_self, forall_const, implies_true]
  -- the head
  refine TXi_of (TX_unroll (@g13 J) 5 ?_)
  simp (maxSteps := 2000000) -implicitDefEqProofs only [Sz.unr, ↓G13, ↓c46, s_alt, s_alt20, s_alt2t, s_alt2f, ↓s_loopi, ↓v_pq, ↓PRE, POST, CORE, Nat.reduceDiv, Nat.reduceMod, Int.reduceLT, Int.reduceLE, Int.reduceToNat, Int.reduceAdd, ↓reduceIte, Nat.reduceEqDiff, Nat.reduceAdd, Nat.reduceMul, Nat.reduceSub, Nat.reduceLeDiff, Nat.reduceLT, reduceCtorEq, if_true, eq_self, forall_const, implies_true]
  refine ⟨[], ⟨rfl, fun _ => rfl⟩, by simp, ?_⟩
  have b1 := put1 (bs := []) y1 y2
  have q1 : (putF [] g.ch 1).length = 1 := by rw [b1]; simp [leN_len]
  have q2 : (putF (putF [] g.ch 1) g.di 1).length = 2 := by rw [put1 y3 y4, List.length_append, q1]; simp [leN_len]
  have q3 : (putF (putF (putF [] g.ch 1) g.di 1) g.bl 1).length = 3 := by rw [put1 y5 y6, List.length_append, q2]; simp [leN_len]
  have q4 : (hdB g).length = 4 := by unfold hdB; simp [leN_len]
  have l1 : IntKind.i64.wrap 1 = 1 := rfl
  have l2 : IntKind.i64.wrap 2 = 2 := rfl
  have l3 : IntKind.i64.wrap 3 = 3 := rfl
  have l4 : IntKind.i64.wrap 4 = 4 := rfl
  generalize putF [] g.ch 1 = H1 at hhd q1 q2 q3 ⊢
  have r1 := len_ne (L := H1) (by omega)
  simp (maxSteps := 2000000) -implicitDefEqProofs only [rowS, rowM, r1, ↓G13, ↓c46, Sz.unr, l1, l2, l3, l4, s_alt, s_alt20, s_alt2t, s_alt2f, ↓s_loopi, ↓v_pq, ↓PRE, POST, CORE, Nat.reduceDiv, Nat.reduceMod, Int.reduceLT, Int.reduceLE, Int.reduceToNat, Int.reduceAdd, ↓reduceIte, Nat.reduceEqDiff, Nat.reduceAdd, Nat.reduceMul, Nat.reduceSub, Nat.reduceLeDiff, Nat.reduceLT, reduceCtorEq, if_true, eq_self, forall_const, implies_true]
  refine ⟨H1, ⟨rdB_row rfl rfl, fun h => (r1 h).elim⟩, by omega, ?_⟩
  generalize putF H1 g.di 1 = H2 at hhd q2 q3 ⊢
  have r2 := len_ne (L := H2) (by omega)
  simp (maxSteps := 2000000) -implicitDefEqProofs only [r2, ↓G13, ↓c46, l1, l2, l3, l4, s_alt, s_alt20, s_alt2t, s_alt2f, ↓s_loopi, ↓v_pq, ↓PRE, POST, CORE, Nat.reduceDiv, Nat.reduceMod, Int.reduceLT, Int.reduceLE, Int.reduceToNat, Int.reduceAdd, ↓reduceIte, Nat.reduceEqDiff, Nat.reduceAdd, Nat.reduceMul, Nat.reduceSub, Nat.reduceLeDiff, Nat.reduceLT, reduceCtorEq, if_true, eq_self, forall_const, implies_true]
  refine ⟨H2, ⟨rdB_row rfl rfl, fun h => (r2 h).elim⟩, by omega, ?_⟩
  generalize putF H2 g.bl 1 = H3 at hhd q3 ⊢
  have r3 := len_ne (L := H3) (by omega)
  simp (maxSteps := 2000000) -implicitDefEqProofs only [r3, ↓G13, ↓c46, l1, l2, l3, l4, s_alt, s_alt20, s_alt2t, s_alt2f, ↓s_loopi, ↓v_pq, ↓PRE, POST, CORE, Nat.reduceDiv, Nat.reduceMod, Int.reduceLT, Int.reduceLE, Int.reduceToNat, Int.reduceAdd, ↓reduceIte, Nat.reduceEqDiff, Nat.reduceAdd, Nat.reduceMul, Nat.reduceSub, Nat.reduceLeDiff, Nat.reduceLT, reduceCtorEq, if_true, eq_self, forall_const, implies_true]
  refine ⟨H3, ⟨rdB_row rfl rfl, fun h => (r3 h).elim⟩, by omega, ?_⟩
  rw [hhd]
  have r4 := len_ne (L := hdB g) (by omega)
  simp (maxSteps := 2000000) -implicitDefEqProofs only [r4, ↓G13, ↓c47, l1, l2, l3, l4, s_alt, s_alt20, s_alt2t, s_alt2f, ↓s_loopi, ↓v_pq, ↓PRE, POST, CORE, Nat.reduceDiv, Nat.reduceMod, Int.reduceLT, Int.reduceLE, Int.reduceToNat, Int.reduceAdd, ↓reduceIte, Nat.reduceEqDiff, Nat.reduceAdd, Nat.reduceMul, Nat.reduceSub, Nat.reduceLeDiff, Nat.reduceLT, reduceCtorEq, if_true, eq_self, forall_const, implies_true]
  have e0 : outB g bs 0 = frF smF 71 (hdB g) := by unfold outB; simp
  refine ⟨1, 71, _, hdB g, _, [], rfl, rfl, rdB_row rfl rfl, by omega, by omega, .inl ⟨rfl, rfl⟩, by simp, ?_⟩
  rw [← e0]
  simp (maxSteps := 2000000) -implicitDefEqProofs only [kill, List.nil_append, List.length_nil, Nat.zero_add, List.length_cons, s_alt, s_alt20, s_alt2t, s_alt2f, ↓s_loopi, ↓v_pq, ↓PRE, POST, CORE, Nat.reduceDiv, Nat.reduceMod, Int.reduceLT, Int.reduceLE, Int.reduceToNat, Int.reduceAdd, ↓reduceIte, Nat.reduceEqDiff, Nat.reduceAdd, Nat.reduceMul, Nat.reduceSub, Nat.reduceLeDiff, Nat.reduceLT, reduceCtorEq, if_true, eq_self, forall_const, implies_true]
  refine TXi_of (TX_count (@g13 J) xs.length (fun x => [(1, .ptr 0 0), (4, .ptr 1 0), (44, .v (.slice p xs.length c)), (45, .v (.int .i64 (xs.length : Int))), (46, .v (.int .i64 (x : Int)))]) (fun x => [⟨true, [.v (.int .i64 g.ch), .v (.int .i64 g.di), .v (.int .i64 g.bl), .v (.int .i64 g.pa), .v (.slice p xs.length c)]⟩, ⟨true, [.row 2 0 (outB g bs x).length 1, .v (.int .i64 0)]⟩, ⟨true, bL (outB g bs x)⟩]) (fun x => True) trivial (by refine ⟨[0, 1, 8], by simp [NdL, NdA, oO_cells, oO_own, iL_nil], ?_, ?_, keep0 hJ⟩ <;> simp only [FitM, FitE, ObLe, LeL, Le, List.cons_append, List.nil_append] <;> (try (simp (maxSteps := 2000000) -implicitDefEqProofs only [bL_le, s_alt, s_alt20, s_alt2t, s_alt2f, ↓s_loopi, ↓v_pq, ↓PRE, POST, CORE, Nat.reduceDiv, Nat.reduceMod, Int.reduceLT, Int.reduceLE, Int.reduceToNat, Int.reduceAdd, ↓reduceIte, Nat.reduceEqDiff, Nat.reduceAdd, Nat.reduceMul, Nat.reduceSub, Nat.reduceLeDiff, Nat.reduceLT, reduceCtorEq, if_true, eq_self, forall_const, implies_true])) <;> (try simp only [Sz.Le, Sz.LeL, List.getElem?_cons_zero, List.getElem?_cons_succ]) <;> (try simp)) ?_ ?_)
  · intro x hx _
    obtain ⟨a, ha⟩ : ∃ a, xs[x]? = some a := ⟨_, List.getElem?_eq_getElem hx⟩
    have hb0 : bs[x]? = some a.b := by rw [← hxs, List.getElem?_map, ha]; rfl
    have hbm := List.mem_of_getElem? hb0
    obtain ⟨z1, z2, z3, z4⟩ := hbs a.b hbm
    have f : inpL (plusA p (x * 3)) 3 = some [.bool a.b.bad, .int .i64 a.b.er, .slice a.a a.b.pages.length a.c] := hitem x a ha
    have hina : inpL a.a (a.b.pages.length * 3) = some (rowV Pg.cs a.b.pages) := hx0 a (List.mem_of_getElem? ha)
    have hitem2 : ∀ (i : Nat) (y : Pg), a.b.pages[i]? = some y → inpL (plusA a.a (i * 3)) 3 = some y.cs := fun i y hy => inp_item Pg.len hina rfl hy
    have hp : p.isSome = true := inpL_isSome hin (by omega)
    have i0 : (0 : Int) ≤ (x : Int) := by omega
    have i1 : (x : Int) < (xs.length : Int) := by omega
    have w1 : IntKind.i64.wrap ((x : Int) + 1) = (x : Int) + 1 := Sz.w_64 (by omega) (by omega)
    have hol := outB_len hm x
    have hbk := bk_put (b := a.b) (by omega) z3 (by omega)
    have hsucc := outB_succ (g := g) hb0
    have hpl := fun y => outP_len hm (x := x) hbm y
    have ep0 : outP g bs x a.b 0 = outB g bs x ++ frF smF 66 (bkB a.b) := by unfold outP; simp
    have eps := fun y (q : Pg) (h : a.b.pages[y]? = some q) => outP_succ (g := g) (bs := bs) (x := x) (b := a.b) h
    rw [hsucc]
    generalize outB g bs x = O at hol ep0 ⊢
    simp (maxSteps := 2000000) -implicitDefEqProofs only [f, hp, i0, i1, ↓G13, ↓c48, s_alt, s_alt20, s_alt2t, s_alt2f, ↓s_loopi, ↓v_pq, ↓PRE, POST, CORE, Nat.reduceDiv, Nat.reduceMod, Int.reduceLT, Int.reduceLE, Int.reduceToNat, Int.reduceAdd, ↓reduceIte, Nat.reduceEqDiff, Nat.reduceAdd, Nat.reduceMul, Nat.reduceSub, Nat.reduceLeDiff, Nat.reduceLT, reduceCtorEq, if_true, eq_self, forall_const, implies_true]
    refine ⟨a.b.bad, rfl, ?_⟩
    simp (maxSteps := 2000000) -implicitDefEqProofs only [↓G13, ↓c46, s_alt, s_alt20, s_alt2t, s_alt2f, ↓s_loopi, ↓v_pq, ↓PRE, POST, CORE, Nat.reduceDiv, Nat.reduceMod, Int.reduceLT, Int.reduceLE, Int.reduceToNat, Int.reduceAdd, ↓reduceIte, Nat.reduceEqDiff, Nat.reduceAdd, Nat.reduceMul, Nat.reduceSub, Nat.reduceLeDiff, Nat.reduceLT, reduceCtorEq, if_true, eq_self, forall_const, implies_true]
    refine ⟨[], ⟨rfl, fun _ => rfl⟩, by simp, ?_⟩
    have fl0 : (0 : Int) ≤ (if a.b.bad = true then 1 else 0) := by split <;> omega
    have fl1 : (if a.b.bad = true then (1 : Int) else 0) ≤ 255 := by split <;> omega
    have q1 : (putF [] (if a.b.bad = true then 1 else 0) 1).length = 1 := by rw [put1 fl0 fl1]; simp [leN_len]
    have q2 : (putF (putF [] (if a.b.bad = true then 1 else 0) 1) (a.b.pages.length : Int) 1).length = 2 := by rw [put1 (by omega) (by omega), List.length_append, q1]; simp [leN_len]
    have q3 := bkB_len a.b
    generalize putF [] (if a.b.bad = true then 1 else 0) 1 = A1 at hbk q1 q2 ⊢
    have r1 := len_ne (L := A1) (by omega)
    simp (maxSteps := 2000000) -implicitDefEqProofs only [rowS, rowM, r1, ↓G13, ↓c46, s_alt, s_alt20, s_alt2t, s_alt2f, ↓s_loopi, ↓v_pq, ↓PRE, POST, CORE, Nat.reduceDiv, Nat.reduceMod, Int.reduceLT, Int.reduceLE, Int.reduceToNat, Int.reduceAdd, ↓reduceIte, Nat.reduceEqDiff, Nat.reduceAdd, Nat.reduceMul, Nat.reduceSub, Nat.reduceLeDiff, Nat.reduceLT, reduceCtorEq, if_true, eq_self, forall_const, implies_true]
    refine ⟨A1, ⟨rdB_row rfl rfl, fun h => (r1 h).elim⟩, by omega, ?_⟩
    generalize putF A1 (a.b.pages.length : Int) 1 = A2 at hbk q2 ⊢
    have r2 := len_ne (L := A2) (by omega)
    simp (maxSteps := 2000000) -implicitDefEqProofs only [r2, ↓G13, ↓c46, s_alt, s_alt20, s_alt2t, s_alt2f, ↓s_loopi, ↓v_pq, ↓PRE, POST, CORE, Nat.reduceDiv, Nat.reduceMod, Int.reduceLT, Int.reduceLE, Int.reduceToNat, Int.reduceAdd, ↓reduceIte, Nat.reduceEqDiff, Nat.reduceAdd, Nat.reduceMul, Nat.reduceSub, Nat.reduceLeDiff, Nat.reduceLT, reduceCtorEq, if_true, eq_self, forall_const, implies_true]
    refine ⟨A2, ⟨rdB_row rfl rfl, fun h => (r2 h).elim⟩, by omega, ?_⟩
    rw [hbk]
    have r3 := len_ne (L := bkB a.b) (by omega)
    simp (maxSteps := 2000000) -implicitDefEqProofs only [r3, ↓G13, ↓c47, s_alt, s_alt20, s_alt2t, s_alt2f, ↓s_loopi, ↓v_pq, ↓PRE, POST, CORE, Nat.reduceDiv, Nat.reduceMod, Int.reduceLT, Int.reduceLE, Int.reduceToNat, Int.reduceAdd, ↓reduceIte, Nat.reduceEqDiff, Nat.reduceAdd, Nat.reduceMul, Nat.reduceSub, Nat.reduceLeDiff, Nat.reduceLT, reduceCtorEq, if_true, eq_self, forall_const, implies_true]
    refine ⟨1, 66, _, bkB a.b, _, O, rfl, rfl, rdB_row rfl rfl, by omega, by omega, .inr ⟨2, rfl, rfl, by decide⟩, by omega, ?_⟩
    rw [← List.length_append, ← ep0]
    simp (maxSteps := 2000000) -implicitDefEqProofs only [kill, List.length_cons, List.length_nil, s_alt, s_alt20, s_alt2t, s_alt2f, ↓s_loopi, ↓v_pq, ↓PRE, POST, CORE, Nat.reduceDiv, Nat.reduceMod, Int.reduceLT, Int.reduceLE, Int.reduceToNat, Int.reduceAdd, ↓reduceIte, Nat.reduceEqDiff, Nat.reduceAdd, Nat.reduceMul, Nat.reduceSub, Nat.reduceLeDiff, Nat.reduceLT, reduceCtorEq, if_true, eq_self, forall_const, implies_true]
    refine TXi_of (TX_count (@g13 J) a.b.pages.length (fun y => [(1, .ptr 0 0), (4, .ptr 1 0), (44, .v (.slice p xs.length c)), (45, .v (.int .i64 (xs.length : Int))), (46, .v (.int .i64 (x : Int))), (64, .v (.slice a.a a.b.pages.length a.c)), (65, .v (.int .i64 (a.b.pages.length : Int))), (66, .v (.int .i64 (y : Int)))]) (fun y => [⟨true, [.v (.int .i64 g.ch), .v (.int .i64 g.di), .v (.int .i64 g.bl), .v (.int .i64 g.pa), .v (.slice p xs.length c)]⟩, ⟨true, [.row 2 0 (outP g bs x a.b y).length 1, .v (.int .i64 0)]⟩, ⟨true, bL (outP g bs x a.b y)⟩]) (fun y => True) trivial (by refine ⟨[0, 1, 8], by simp [NdL, NdA, oO_cells, oO_own, iL_nil], ?_, ?_, keep0 hJ⟩ <;> simp only [FitM, FitE, ObLe, LeL, Le, List.cons_append, List.nil_append] <;> (try (simp (maxSteps := 2000000) -implicitDefEqProofs only [bL_le, s_alt, s_alt20, s_alt2t, s_alt2f, ↓s_loopi, ↓v_pq, ↓PRE, POST, CORE, Nat.reduceDiv, Nat.reduceMod, Int.reduceLT, Int.reduceLE, Int.reduceToNat, Int.reduceAdd, ↓reduceIte, Nat.reduceEqDiff, Nat.reduceAdd, Nat.reduceMul, Nat.reduceSub, Nat.reduceLeDiff, Nat.reduceLT, reduceCtorEq, if_true, eq_self, forall_const, implies_true])) <;> (try simp only [Sz.Le, Sz.LeL, List.getElem?_cons_zero, List.getElem?_cons_succ]) <;> (try simp)) ?_ ?_)
    · intro y hy _
      obtain ⟨q, hq⟩ : ∃ q, a.b.pages[y]? = some q := ⟨_, List.getElem?_eq_getElem hy⟩
      have hmq := List.all_eq_true.1 z2 q (List.mem_of_getElem? hq)
      have f2 : inpL (plusA a.a (y * 3)) 3 = some [.bool q.torn, .string q.beside, .string q.data] := hitem2 y q hq
      have hp2 : a.a.isSome = true := inpL_isSome hina (by omega)
      have j0 : (0 : Int) ≤ (y : Int) := by omega
      have j1 : (y : Int) < (a.b.pages.length : Int) := by omega
      have w2 : IntKind.i64.wrap ((y : Int) + 1) = (y : Int) + 1 := Sz.w_64 (by omega) (by omega)
      have hol2 := hpl y
      have hpgl := pgB_len hmq
      rw [eps y q hq]
      generalize outP g bs x a.b y = O2 at hol2 ⊢
      simp (maxSteps := 2000000) -implicitDefEqProofs only [f2, hp2, j0, j1, ↓G13, ↓c48, s_alt, s_alt20, s_alt2t, s_alt2f, ↓s_loopi, ↓v_pq, ↓PRE, POST, CORE, Nat.reduceDiv, Nat.reduceMod, Int.reduceLT, Int.reduceLE, Int.reduceToNat, Int.reduceAdd, ↓reduceIte, Nat.reduceEqDiff, Nat.reduceAdd, Nat.reduceMul, Nat.reduceSub, Nat.reduceLeDiff, Nat.reduceLT, reduceCtorEq, if_true, eq_self, forall_const, implies_true]
      refine ⟨q.torn, rfl, ?_⟩
      simp (maxSteps := 2000000) -implicitDefEqProofs only [↓G13, ↓c46, s_alt, s_alt20, s_alt2t, s_alt2f, ↓s_loopi, ↓v_pq, ↓PRE, POST, CORE, Nat.reduceDiv, Nat.reduceMod, Int.reduceLT, Int.reduceLE, Int.reduceToNat, Int.reduceAdd, ↓reduceIte, Nat.reduceEqDiff, Nat.reduceAdd, Nat.reduceMul, Nat.reduceSub, Nat.reduceLeDiff, Nat.reduceLT, reduceCtorEq, if_true, eq_self, forall_const, implies_true]
      refine ⟨[], ⟨rfl, fun _ => rfl⟩, by simp, ?_⟩
      have gl0 : (0 : Int) ≤ (if q.torn = true then 1 else 0) := by split <;> omega
      have gl1 : (if q.torn = true then (1 : Int) else 0) ≤ 255 := by split <;> omega
      have s1 : (putF [] (if q.torn = true then 1 else 0) 1).length = 1 := by rw [put1 gl0 gl1]; simp [leN_len]
      by_cases ht : q.torn = true
      · have e := pg_put1 ht
        rw [e] at s1 ⊢
        have t1 := len_ne (L := pgB q) (by omega)
        simp (maxSteps := 2000000) -implicitDefEqProofs only [rowS, rowM, t1, ht, Bool.not_true, Bool.false_eq_true, ↓G13, ↓c47, s_alt, s_alt20, s_alt2t, s_alt2f, ↓s_loopi, ↓v_pq, ↓PRE, POST, CORE, Nat.reduceDiv, Nat.reduceMod, Int.reduceLT, Int.reduceLE, Int.reduceToNat, Int.reduceAdd, ↓reduceIte, Nat.reduceEqDiff, Nat.reduceAdd, Nat.reduceMul, Nat.reduceSub, Nat.reduceLeDiff, Nat.reduceLT, reduceCtorEq, if_true, eq_self, forall_const, implies_true]
        refine ⟨1, 80, _, pgB q, _, O2, rfl, rfl, rdB_row rfl rfl, by omega, by omega, .inr ⟨2, rfl, rfl, by decide⟩, by omega, ?_⟩
        rw [← List.length_append]
        simp (maxSteps := 2000000) -implicitDefEqProofs only [kill, List.length_cons, List.length_nil, w2, s_alt, s_alt20, s_alt2t, s_alt2f, ↓s_loopi, ↓v_pq, ↓PRE, POST, CORE, Nat.reduceDiv, Nat.reduceMod, Int.reduceLT, Int.reduceLE, Int.reduceToNat, Int.reduceAdd, ↓reduceIte, Nat.reduceEqDiff, Nat.reduceAdd, Nat.reduceMul, Nat.reduceSub, Nat.reduceLeDiff, Nat.reduceLT, reduceCtorEq, if_true, eq_self, forall_const, implies_true]
        exact (by refine ⟨[0, 1, 6], by simp [NdL, NdA, oO_cells, oO_own, iL_nil], ?_, ?_, keep0 hJ⟩ <;> simp only [FitM, FitE, ObLe, LeL, Le, List.cons_append, List.nil_append] <;> (try (simp (maxSteps := 2000000) -implicitDefEqProofs only [bL_le, s_alt, s_alt20, s_alt2t, s_alt2f, ↓s_loopi, ↓v_pq, ↓PRE, POST, CORE, Nat.reduceDiv, Nat.reduceMod, Int.reduceLT, Int.reduceLE, Int.reduceToNat, Int.reduceAdd, ↓reduceIte, Nat.reduceEqDiff, Nat.reduceAdd, Nat.reduceMul, Nat.reduceSub, Nat.reduceLeDiff, Nat.reduceLT, reduceCtorEq, if_true, eq_self, forall_const, implies_true])) <;> (try simp only [Sz.Le, Sz.LeL, List.getElem?_cons_zero, List.getElem?_cons_succ]) <;> (try simp))
      · have e := pg_put0 ht hmq
        have ht' : q.torn = false := by simpa using ht
        have hsz : q.beside.size ≤ 32 ∧ q.data.size ≤ 160 := by
          unfold mayPg at hmq
          rw [if_neg ht] at hmq
          simpa using hmq
        have s2 : (textF (putF [] (if q.torn = true then 1 else 0) 1) q.beside).length = 3 + q.beside.size := by rw [text_put (by omega), List.length_append, List.length_append, leN_len, strI_len, s1]; omega
        generalize putF [] (if q.torn = true then 1 else 0) 1 = B1 at e s1 s2 ⊢
        have t1 := len_ne (L := B1) (by omega)
        simp (maxSteps := 2000000) -implicitDefEqProofs only [rowS, rowM, t1, ht', Bool.not_false, ↓G13, ↓c49, s_alt, s_alt20, s_alt2t, s_alt2f, ↓s_loopi, ↓v_pq, ↓PRE, POST, CORE, Nat.reduceDiv, Nat.reduceMod, Int.reduceLT, Int.reduceLE, Int.reduceToNat, Int.reduceAdd, ↓reduceIte, Nat.reduceEqDiff, Nat.reduceAdd, Nat.reduceMul, Nat.reduceSub, Nat.reduceLeDiff, Nat.reduceLT, reduceCtorEq, if_true, eq_self, forall_const, implies_true]
        refine ⟨B1, ⟨rdB_row rfl rfl, fun h => (t1 h).elim⟩, by omega, ?_⟩
        generalize textF B1 q.beside = B2 at e s2 ⊢
        have t2 := len_ne (L := B2) (by omega)
        simp (maxSteps := 2000000) -implicitDefEqProofs only [rowS, rowM, t2, ↓G13, ↓c49, s_alt, s_alt20, s_alt2t, s_alt2f, ↓s_loopi, ↓v_pq, ↓PRE, POST, CORE, Nat.reduceDiv, Nat.reduceMod, Int.reduceLT, Int.reduceLE, Int.reduceToNat, Int.reduceAdd, ↓reduceIte, Nat.reduceEqDiff, Nat.reduceAdd, Nat.reduceMul, Nat.reduceSub, Nat.reduceLeDiff, Nat.reduceLT, reduceCtorEq, if_true, eq_self, forall_const, implies_true]
        refine ⟨B2, ⟨rdB_row rfl rfl, fun h => (t2 h).elim⟩, by omega, ?_⟩
        rw [e]
        have t3 : ¬ pgB q = [] := by unfold pgB; rw [if_neg ht]; simp
        simp (maxSteps := 2000000) -implicitDefEqProofs only [rowS, rowM, t3, ↓G13, ↓c47, s_alt, s_alt20, s_alt2t, s_alt2f, ↓s_loopi, ↓v_pq, ↓PRE, POST, CORE, Nat.reduceDiv, Nat.reduceMod, Int.reduceLT, Int.reduceLE, Int.reduceToNat, Int.reduceAdd, ↓reduceIte, Nat.reduceEqDiff, Nat.reduceAdd, Nat.reduceMul, Nat.reduceSub, Nat.reduceLeDiff, Nat.reduceLT, reduceCtorEq, if_true, eq_self, forall_const, implies_true]
        refine ⟨1, 80, _, pgB q, _, O2, rfl, rfl, rdB_row rfl rfl, by omega, by omega, .inr ⟨2, rfl, rfl, by decide⟩, by omega, ?_⟩
        rw [← List.length_append]
        simp (maxSteps := 2000000) -implicitDefEqProofs only [kill, List.length_cons, List.length_nil, w2, s_alt, s_alt20, s_alt2t, s_alt2f, ↓s_loopi, ↓v_pq, ↓PRE, POST, CORE, Nat.reduceDiv, Nat.reduceMod, Int.reduceLT, Int.reduceLE, Int.reduceToNat, Int.reduceAdd, ↓reduceIte, Nat.reduceEqDiff, Nat.reduceAdd, Nat.reduceMul, Nat.reduceSub, Nat.reduceLeDiff, Nat.reduceLT, reduceCtorEq, if_true, eq_self, forall_const, implies_true]
        exact (by refine ⟨[0, 1, 8], by simp [NdL, NdA, oO_cells, oO_own, iL_nil], ?_, ?_, keep0 hJ⟩ <;> simp only [FitM, FitE, ObLe, LeL, Le, List.cons_append, List.nil_append] <;> (try (simp (maxSteps := 2000000) -implicitDefEqProofs only [bL_le, s_alt, s_alt20, s_alt2t, s_alt2f, ↓s_loopi, ↓v_pq, ↓PRE, POST, CORE, Nat.reduceDiv, Nat.reduceMod, Int.reduceLT, Int.reduceLE, Int.reduceToNat, Int.reduceAdd, ↓reduceIte, Nat.reduceEqDiff, Nat.reduceAdd, Nat.reduceMul, Nat.reduceSub, Nat.reduceLeDiff, Nat.reduceLT, reduceCtorEq, if_true, eq_self, forall_const, implies_true])) <;> (try simp only [Sz.Le, Sz.LeL, List.getElem?_cons_zero, List.getElem?_cons_succ]) <;> (try simp))
    · intro _
      have j1 : ¬ (a.b.pages.length : Int) < (a.b.pages.length : Int) := by omega
      simp (maxSteps := 2000000) -implicitDefEqProofs only [j1, w1, s_alt, s_alt20, s_alt2t, s_alt2f, ↓s_loopi, ↓v_pq, ↓PRE, POST, CORE, Nat.reduceDiv, Nat.reduceMod, Int.reduceLT, Int.reduceLE, Int.reduceToNat, Int.reduceAdd, ↓reduceIte, Nat.reduceEqDiff, Nat.reduceAdd, Nat.reduceMul, Nat.reduceSub, Nat.reduceLeDiff, Nat.reduceLT, reduceCtorEq, if_true, eq_self, forall_const, implies_true]
      exact (by refine ⟨[0, 1, 2], by simp [NdL, NdA, oO_cells, oO_own, iL_nil], ?_, ?_, keep0 hJ⟩ <;> simp only [FitM, FitE, ObLe, LeL, Le, List.cons_append, List.nil_append] <;> (try (simp (maxSteps := 2000000) -implicitDefEqProofs only [bL_le, s_alt, s_alt20, s_alt2t, s_alt2f, ↓s_loopi, ↓v_pq, ↓PRE, POST, CORE, Nat.reduceDiv, Nat.reduceMod, Int.reduceLT, Int.reduceLE, Int.reduceToNat, Int.reduceAdd, ↓reduceIte, Nat.reduceEqDiff, Nat.reduceAdd, Nat.reduceMul, Nat.reduceSub, Nat.reduceLeDiff, Nat.reduceLT, reduceCtorEq, if_true, eq_self, forall_const, implies_true])) <;> (try simp only [Sz.Le, Sz.LeL, List.getElem?_cons_zero, List.getElem?_cons_succ]) <;> (try simp))
  · intro _
    have i1 : ¬ (bs.length : Int) < (bs.length : Int) := by omega
    rw [← hlx, outB_end]
    simp (maxSteps := 2000000) -implicitDefEqProofs only [i1, bne_self_eq_false, Bool.false_eq_true, s_alt, s_alt20, s_alt2t, s_alt2f, ↓s_loopi, ↓v_pq, ↓PRE, POST, CORE, Nat.reduceDiv, Nat.reduceMod, Int.reduceLT, Int.reduceLE, Int.reduceToNat, Int.reduceAdd, ↓reduceIte, Nat.reduceEqDiff, Nat.reduceAdd, Nat.reduceMul, Nat.reduceSub, Nat.reduceLeDiff, Nat.reduceLT, reduceCtorEq, if_true, eq_self, forall_const, implies_true]
    generalize toldF smF g bs = T at hk ⊢
    exact ⟨[2], .tup [.row 0 0 T.length 1, .v (.int .i64 0)], [⟨true, bL T⟩], by simp, by simp [FitM, ObLe, bL_le], by simp, by simp [Le, LeL], by simpa [SV.up, upL, SObj.up, bL_up] using hk⟩
end Go.Proofs.Ytibefgdjijmncaa
end
section
namespace Go.Proofs.Ytibefgdjijmncaa.Sz
open Go.RowKit
def cellN (lo : Nat) (mm : MM) (j o : Nat) (k : IntKind) : Option Int := match mm.at_ lo j with
  | some ob => (match ob.cells[o]? with | some (.v (.int k' x)) => bif keqB k' k then some x else none | _ => none)
  | none => none
def setN (lo : Nat) (mm : MM) (j o : Nat) (s : SV) : Option MM := match mm.at_ lo j with
  | some ob => bif ob.own && Nat.blt o ob.cells.length then mm.put lo j ⟨true, ob.cells.set o s⟩ else none
  | none => none
def nLoad (k : IntKind) : Nat_ := fun args lo mm => match args with
  | [.ptr j o] => (match cellN lo mm j o k with | some x => some [(.v (.int k x), mm)] | none => none)
  | _ => none
def nStore : Nat_ := fun args lo mm => match args with
  | [.ptr j o, .v (.int k y)] => (match setN lo mm j o (.v (.int k y)) with | some m' => some [(.tup [], m')] | none => none)
  | _ => none
theorem cellN_ok {lo : Nat} {mm : MM} {j o : Nat} {k : IntKind} {x : Int} (h : cellN lo mm j o k = some x) : cellI (mm.mem lo) j o k = some x := by
  unfold cellN at h
  unfold cellI
  rw [mem_at]
  split at h
  · rename_i ob hob
    simp only [hob]
    split at h
    · rename_i k' x' hc
      obtain ⟨hk, h2⟩ := bif_some h
      obtain rfl := keqB_ok hk
      subst h2
      simp [hc]
    · cases h
  · cases h
theorem setN_ok {lo : Nat} {mm m' : MM} {j o : Nat} {s : SV} (h : setN lo mm j o s = some m') : setI (mm.mem lo) j o s = some (m'.mem lo) ∧ Keep lo mm m' := by
  unfold setN at h
  unfold setI
  rw [mem_at]
  split at h
  · rename_i ob hob
    simp only [hob]
    obtain ⟨hc, h⟩ := bif_some' h
    rw [Bool.and_eq_true, blt_iff] at hc
    obtain ⟨e1, e2, e3⟩ := put_ok h
    rw [e1]
    refine ⟨by simp [hc.1, blt_iff.2 hc.2], by rw [e2]; exact Nat.le_refl _, e3⟩
  · cases h
theorem ExtC.mono [Inp] {P : Program} {f : FuncId} {q : Bool} {tr tr' : Trans} (h : ExtC P f q tr) (ht : ∀ args m k, tr' args m k → tr args m k) : ExtC P f q tr' :=
  ⟨fun args m k base w0 W r vs h1 => h.runs args m k base w0 W r vs (ht _ _ _ h1)⟩
theorem load_nat [Inp] {P : Program} {f : FuncId} {k : IntKind} (h : ExtC P f true (trOf (gLoad k))) : Callable P f true (natTr (nLoad k)) := .inr (h.mono fun args m c ht => by
  obtain ⟨lo, mm, L, hlo, rfl, hL, hc⟩ := ht
  unfold nLoad at hL
  split at hL
  case h_2 => cases hL
  rename_i j o
  split at hL
  case h_2 => cases hL
  rename_i x hx
  injection hL with hL; subst hL
  unfold trOf gLoad
  simp only [cellN_ok hx]
  intro p hp
  simp only [List.mem_singleton] at hp
  subst hp
  exact hc _ (List.mem_singleton.2 rfl) (Keep.refl _ _))
theorem store_nat [Inp] {P : Program} {f : FuncId} (h : ExtC P f false (trOf gStore)) : Callable P f false (natTr nStore) := .inr (h.mono fun args m c ht => by
  obtain ⟨lo, mm, L, hlo, rfl, hL, hc⟩ := ht
  unfold nStore at hL
  split at hL
  case h_2 => cases hL
  rename_i j o k y
  split at hL
  case h_2 => cases hL
  rename_i m' hm
  injection hL with hL; subst hL
  obtain ⟨h1, h2⟩ := setN_ok hm
  unfold trOf gStore
  simp only [h1]
  intro p hp
  simp only [List.mem_singleton] at hp
  subst hp
  exact hc _ (List.mem_singleton.2 rfl) h2)
end Go.Proofs.Ytibefgdjijmncaa.Sz
end
