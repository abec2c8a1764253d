/- Walks and plain facts for the law ImageBytes, part MIBF. No condition. -/
import Derived.Test.YtibefgdjijmncaaMIBE
set_option linter.unusedVariables false
set_option linter.unusedSimpArgs false
section
namespace Go.Proofs.Ytibefgdjijmncaa
open Go.RowKit Sz
set_option maxHeartbeats 4000000
set_option maxRecDepth 20000
def eqG (g h : Ge) : Bool := (g.ch == h.ch) && ((g.di == h.di) && ((g.bl == h.bl) && (g.pa == h.pa)))
def big : Nat := 9223372036854775807
def c17 [Inp] : Trans := fun args m k => ∃ s1 s2 g1 g2 bs1 bs2, args = [s1, s2] ∧ picS m s1 g1 bs1 ∧ picS m s2 g2 bs2 ∧ bs1.length ≤ 9223372036854775807 ∧ (∀ b ∈ bs1, b.pages.length ≤ 9223372036854775807) ∧ k (.v (.bool (eqG g1 g2 && eqBs bs1 bs2))) m
theorem g61 [Inp] : GOk Try.prog [⟨61, true, c61⟩] := GOk.cons c61_ok (g0 _)
theorem c17_ok [I : Inp] : Contract Try.prog 17 true c17 := by
  refine .readG fn17 (G := fun J => [⟨61, true, @c61 J⟩]) (fun J => @g61 J) _ fun args m k h => ?_
  obtain ⟨s1, s2, g1, g2, bs1, bs2, rfl, h1, h2, hn, hpn, hk⟩ := h
  refine ⟨by simp, fun J hJ K hK us hus => ?_⟩
  obtain ⟨u, t1, rfl, hk1, u2, t2, rfl, hk2, rfl⟩ := hus
  obtain ⟨p, c, xs, e1, rfl, hin, hx⟩ := pic_kn hK h1 hk1
  obtain ⟨p', c', ys, e2, rfl, hin', hy⟩ := pic_kn hK h2 hk2
  rw [List.map_cons, List.map_cons, e1, e2, List.map_nil]
  have hp1 : ∀ x ∈ xs, x.b.pages.length ≤ 9223372036854775807 := fun x hx => hpn x.b (List.mem_map.2 ⟨x, hx, rfl⟩)
  rw [List.length_map] at hn
  have hg : eqG g1 g2 = (g1.ch == g2.ch && (g1.di == g2.di && (g1.bl == g2.bl && g1.pa == g2.pa))) := rfl
  unfold Ge.sv
  simp (maxSteps := 2000000) -implicitDefEqProofs only [↓x17, ↓r17, ↓c61, s_alt, s_alt20, s_alt2t, s_alt2f, ↓s_loopi, ↓v_pq, ↓PRE, POST, CORE, Nat.reduceDiv, Nat.reduceMod, Int.reduceLT, Int.reduceLE, Int.reduceToNat, Int.reduceAdd, ↓reduceIte, Nat.reduceEqDiff, Nat.reduceAdd, Nat.reduceMul, Nat.reduceSub, Nat.reduceLeDiff, Nat.reduceLT, reduceCtorEq, if_true, eq_self, forall_const, implies_true]
  rw [← hg]
  cases he : eqG g1 g2 with
  | false =>
    rw [he, Bool.false_and] at hk
    simp (maxSteps := 2000000) -implicitDefEqProofs only [s_alt, s_alt20, s_alt2t, s_alt2f, ↓s_loopi, ↓v_pq, ↓PRE, POST, CORE, Nat.reduceDiv, Nat.reduceMod, Int.reduceLT, Int.reduceLE, Int.reduceToNat, Int.reduceAdd, ↓reduceIte, Nat.reduceEqDiff, Nat.reduceAdd, Nat.reduceMul, Nat.reduceSub, Nat.reduceLeDiff, Nat.reduceLT, reduceCtorEq, if_true, eq_self, forall_const, implies_true]
    exact hk
  | true =>
    rw [he, Bool.true_and] at hk
    simp (maxSteps := 2000000) -implicitDefEqProofs only [↓c61, s_alt, s_alt20, s_alt2t, s_alt2f, ↓s_loopi, ↓v_pq, ↓PRE, POST, CORE, Nat.reduceDiv, Nat.reduceMod, Int.reduceLT, Int.reduceLE, Int.reduceToNat, Int.reduceAdd, ↓reduceIte, Nat.reduceEqDiff, Nat.reduceAdd, Nat.reduceMul, Nat.reduceSub, Nat.reduceLeDiff, Nat.reduceLT, reduceCtorEq, if_true, eq_self, forall_const, implies_true]
    exact ⟨xs, ys, hin, rfl, hin', rfl, hx, hy, hn, hp1, hk⟩
/-- A row of numbers: nil, if there is none. -/
def intS (j : Nat) (L : List Int) : SV := if L = [] then .v (.slice none 0 0) else .row j 0 L.length 1
def intM (L : List Int) : Mem := if L = [] then [] else [⟨true, iL L⟩]
theorem fin_int {k : SV → Mem → Prop} {m : Mem} (L : List Int) (m' : Mem) (s : SV) (j : Nat) (h1 : L = [] → s = .v (.slice none 0 0)) (h2 : L ≠ [] → s = .row j 0 L.length 1 ∧ m'[j]? = some ⟨true, iL L⟩) (h3 : k (intS m.length L) (m ++ intM L)) :
    ∃ (g2 : List Nat) (s2 : SV) (m2 : Mem), g2.Nodup ∧ FitM g2 m' g2 m2 ∧ (∀ o ∈ m2, o.own = true) ∧ Le g2 s2 s ∧ k (s2.up m.length) (m ++ m2.map (SObj.up m.length)) := by
  by_cases hL : L = []
  · subst hL
    rw [h1 rfl]
    refine ⟨[], .v (.slice none 0 0), [], by simp, trivial, by simp, by simp only [Le], ?_⟩
    simpa [SV.up, intS, intM] using h3
  · obtain ⟨rfl, hm⟩ := h2 hL
    have hle : ∀ g, LeL g (iL L) (iL L) := fun g => by rw [iL_le]; trivial
    have hup : ∀ d, upL d (iL L) = iL L := fun d => by rw [iL_eq]; exact upL_v d _
    refine ⟨[j], .row 0 0 L.length 1, [⟨true, iL L⟩], by simp, by simp [FitM, ObLe, hle, hm], by simp, by simp only [Le]; rfl, ?_⟩
    simpa [SV.up, SObj.up, hup, intS, intM, hL] using h3
theorem extO {g : List Nat} {b : Bool} {cs ds : List SV} : ExtLe g b (@Ext.v (oO cs).x) (@Ext.v (oO ds).x) = True := extLe_no
theorem extO2 {g : List Nat} {b : Bool} {cs : List SV} : ExtLe g b (@Ext.v (oO cs).x) (@Ext.v noExt) = True := extLe_no
def c18 [Inp] : Trans := fun args m k => ∃ s1 s2 g1 g2 bs1 bs2, args = [s1, s2] ∧ picS m s1 g1 bs1 ∧ picS m s2 g2 bs2 ∧ bs1.length ≤ 1000000 ∧ bs2.length ≤ 1000000 ∧ (∀ b ∈ bs1, b.pages.length ≤ 9223372036854775807) ∧ k (intS m.length (difL bs1 bs2)) (m ++ intM (difL bs1 bs2))
theorem c18_ok [I : Inp] : Contract Try.prog 18 true c18 := by
  refine .readFG fn18 (G := fun J => [⟨62, true, @c62 J⟩]) (fun J => @g62 J) _ fun args m k h => ?_
  obtain ⟨s1, s2, g1, g2, bs1, bs2, rfl, h1, h2, hn, hn2, hpn, hk⟩ := h
  refine ⟨by simp, fun J hJ K hK us hus => ?_⟩
  obtain ⟨u, t1, rfl, hk1, u2, t2, rfl, hk2, rfl⟩ := hus
  obtain ⟨p, c, xs, e1, rfl, hin, hx0⟩ := pic_kn hK h1 hk1
  obtain ⟨p', c', ys, e2, rfl, hin', hy0⟩ := pic_kn hK h2 hk2
  rw [List.map_cons, List.map_cons, e1, e2, List.map_nil]
  have hp1 : ∀ x ∈ xs, x.b.pages.length ≤ 9223372036854775807 := fun x hx => hpn x.b (List.mem_map.2 ⟨x, hx, rfl⟩)
  rw [List.length_map] at hn hn2
  have hitem : ∀ (i : Nat) (x : Bi), xs[i]? = some x → inpL (plusA p (i * 3)) 3 = some x.cs := fun i x hx => inp_item Bi.len hin rfl hx
  have hitem' : ∀ (i : Nat) (x : Bi), ys[i]? = some x → inpL (plusA p' (i * 3)) 3 = some x.cs := fun i x hx => inp_item Bi.len hin' rfl hx
  obtain ⟨N, hN⟩ : ∃ N, N = max xs.length ys.length := ⟨_, rfl⟩
  have hdl : difL (xs.map Bi.b) (ys.map Bi.b) = difN (xs.map Bi.b) (ys.map Bi.b) N := by unfold difL; rw [List.length_map, List.length_map, hN]
  rw [hdl] at hk
  obtain ⟨A, hA⟩ : ∃ A, A = xs.map Bi.b := ⟨_, rfl⟩
  obtain ⟨B, hB⟩ : ∃ B, B = ys.map Bi.b := ⟨_, rfl⟩
  rw [← hA, ← hB] at hk
  have hmx : (if (xs.length : Int) < (ys.length : Int) then ((ys.length : Nat) : Int) else ((xs.length : Nat) : Int)) = (N : Int) := by split <;> omega
  unfold Ge.sv
  have loop : ∀ (e : Env) (m' : Mem), Fit e m' [(2, .ptr 0 0), (3, .ptr 1 0), (5, oV 2 1 (difN A B 0).length), (13, .v (.int .i64 (N : Int))), (14, .v (.int .i64 (0 : Int)))] [⟨true, g1.sv ++ [.v (.slice p xs.length c)]⟩, ⟨true, g2.sv ++ [.v (.slice p' ys.length c')]⟩, oO (iL (difN A B 0))] → True := fun _ _ _ => trivial
  by_cases hlt : (xs.length : Int) < (ys.length : Int)
  all_goals
    have hNi := hmx
    first | rw [if_pos hlt] at hNi | rw [if_neg hlt] at hNi
    simp (maxSteps := 2000000) -implicitDefEqProofs only [↓x18, ↓r18, hlt, s_alt, s_alt20, s_alt2t, s_alt2f, ↓s_loopi, ↓v_pq, ↓PRE, POST, CORE, Nat.reduceDiv, Nat.reduceMod, Int.reduceLT, Int.reduceLE, Int.reduceToNat, Int.reduceAdd, ↓reduceIte, Nat.reduceEqDiff, Nat.reduceAdd, Nat.reduceMul, Nat.reduceSub, Nat.reduceLeDiff, Nat.reduceLT, reduceCtorEq, if_true, eq_self, forall_const, implies_true]
    rw [hNi]
    refine TXi_of (TX_count (@g62 J) N (fun x => [(2, .ptr 0 0), (3, .ptr 1 0), (5, oV 2 1 (difN A B x).length), (13, .v (.int .i64 (N : Int))), (14, .v (.int .i64 (x : Int)))]) (fun x => [⟨true, [.v (.int .i64 g1.ch), .v (.int .i64 g1.di), .v (.int .i64 g1.bl), .v (.int .i64 g1.pa), .v (.slice p xs.length c)]⟩, ⟨true, [.v (.int .i64 g2.ch), .v (.int .i64 g2.di), .v (.int .i64 g2.bl), .v (.int .i64 g2.pa), .v (.slice p' ys.length c')]⟩, oO (iL (difN A B x))]) (fun x => True) trivial ?_ ?_ ?_)
    · have e0 : difN A B 0 = [] := rfl
      rw [e0]
      exact (by refine ⟨[0, 1, 0], by simp [NdL, NdA, oO_cells, oO_own, iL_nil], ?_, ?_, keep0 hJ⟩ <;> simp only [FitM, FitE, ObLe, LeL, Le, List.cons_append, List.nil_append] <;> (try (simp (maxSteps := 2000000) -implicitDefEqProofs only [extO, extO2, extLe_no, or_true, o_sl, o_grows, o_kill, o_len, o_cap, o_isl, o_le, o_cells, o_one, oOk_c, oOk_o, oO_cells, oO_own, oV_s, oV_0, oO_nil, oO_iL, iL_nil, iL_snoc, List.length_append, iL_fold, iL_over, iL_all, iL_get, iL_len, iL_take, iL_drop, iL_one, iL_plain, iL_le, List.length_set, List.length_nil, s_alt, s_alt20, s_alt2t, s_alt2f, ↓s_loopi, ↓v_pq, ↓PRE, POST, CORE, Nat.reduceDiv, Nat.reduceMod, Int.reduceLT, Int.reduceLE, Int.reduceToNat, Int.reduceAdd, ↓reduceIte, Nat.reduceEqDiff, Nat.reduceAdd, Nat.reduceMul, Nat.reduceSub, Nat.reduceLeDiff, Nat.reduceLT, reduceCtorEq, if_true, eq_self, forall_const, implies_true])) <;> (try simp only [Sz.Le, Sz.LeL, List.getElem?_cons_zero, List.getElem?_cons_succ]) <;> (try simp))
    · intro x hx _
      have i0 : (0 : Int) ≤ (x : Int) := by omega
      have i1 : (x : Int) < (N : Int) := by omega
      have w1 : IntKind.i64.wrap ((x : Int) + 1) = (x : Int) + 1 := Sz.w_64 (by omega) (by omega)
      have hd := difN_succ A B x
      have hlen := difN_len A B x
      have hxN : x < 1000000 := by omega
      have out : difF A B x = true → difN A B (x + 1) = difN A B x ++ [(x : Int)] := fun h => by rw [hd, if_pos h]
      by_cases ha : x < xs.length
      · by_cases hb : x < ys.length
        · obtain ⟨a, ha'⟩ : ∃ a, xs[x]? = some a := ⟨_, List.getElem?_eq_getElem ha⟩
          obtain ⟨b, hb'⟩ : ∃ b, ys[x]? = some b := ⟨_, List.getElem?_eq_getElem hb⟩
          have f : inpL (plusA p (x * 3)) 3 = some [.bool a.b.bad, .int .i64 a.b.er, .slice a.a a.b.pages.length a.c] := hitem x a ha'
          have f' : inpL (plusA p' (x * 3)) 3 = some [.bool b.b.bad, .int .i64 b.b.er, .slice b.a b.b.pages.length b.c] := hitem' x b hb'
          have hp : p.isSome = true := inpL_isSome hin (by omega)
          have hp' : p'.isSome = true := inpL_isSome hin' (by omega)
          have j1 : ¬ (xs.length : Int) ≤ (x : Int) := by omega
          have j2 : ¬ (ys.length : Int) ≤ (x : Int) := by omega
          have j3 : (x : Int) < (xs.length : Int) := by omega
          have j4 : (x : Int) < (ys.length : Int) := by omega
          have hF : difF A B x = !eqB a.b b.b := by rw [hA, hB]; simp [difF, List.getElem?_map, ha', hb']
          rw [hF] at hd out
          generalize difN A B x = L at hd hlen out ⊢
          simp (maxSteps := 2000000) -implicitDefEqProofs only [ge_iff_le, i0, i1, j1, j2, j3, j4, f, f', hp, hp', w1, ↓c62, o_sl, o_grows, o_kill, o_len, o_cap, o_isl, o_le, o_cells, o_one, oOk_c, oOk_o, oO_cells, oO_own, oV_s, oV_0, oO_nil, oO_iL, iL_nil, iL_snoc, List.length_append, iL_fold, iL_over, iL_all, iL_get, iL_len, iL_take, iL_drop, iL_one, iL_plain, iL_le, List.length_set, s_alt, s_alt20, s_alt2t, s_alt2f, ↓s_loopi, ↓v_pq, ↓PRE, POST, CORE, Nat.reduceDiv, Nat.reduceMod, Int.reduceLT, Int.reduceLE, Int.reduceToNat, Int.reduceAdd, ↓reduceIte, Nat.reduceEqDiff, Nat.reduceAdd, Nat.reduceMul, Nat.reduceSub, Nat.reduceLeDiff, Nat.reduceLT, reduceCtorEq, if_true, eq_self, forall_const, implies_true]
          refine ⟨a, b, rfl, hx0 a (List.mem_of_getElem? ha'), hy0 b (List.mem_of_getElem? hb'), hp1 a (List.mem_of_getElem? ha'), ?_⟩
          cases he : eqB a.b b.b with
          | true =>
            rw [he] at hd
            simp only [Bool.not_true, Bool.false_eq_true, if_false, List.append_nil] at hd
            simp (maxSteps := 2000000) -implicitDefEqProofs only [w1, o_sl, o_grows, o_kill, o_len, o_cap, o_isl, o_le, o_cells, o_one, oOk_c, oOk_o, oO_cells, oO_own, oV_s, oV_0, oO_nil, oO_iL, iL_nil, iL_snoc, List.length_append, iL_fold, iL_over, iL_all, iL_get, iL_len, iL_take, iL_drop, iL_one, iL_plain, iL_le, List.length_set, s_alt, s_alt20, s_alt2t, s_alt2f, ↓s_loopi, ↓v_pq, ↓PRE, POST, CORE, Nat.reduceDiv, Nat.reduceMod, Int.reduceLT, Int.reduceLE, Int.reduceToNat, Int.reduceAdd, ↓reduceIte, Nat.reduceEqDiff, Nat.reduceAdd, Nat.reduceMul, Nat.reduceSub, Nat.reduceLeDiff, Nat.reduceLT, reduceCtorEq, if_true, eq_self, forall_const, implies_true]
            rw [hd]
            exact (by refine ⟨[0, 1, 2], by simp [NdL, NdA, oO_cells, oO_own, iL_nil], ?_, ?_, keep0 hJ⟩ <;> simp only [FitM, FitE, ObLe, LeL, Le, List.cons_append, List.nil_append] <;> (try (simp (maxSteps := 2000000) -implicitDefEqProofs only [extO, extO2, extLe_no, or_true, o_sl, o_grows, o_kill, o_len, o_cap, o_isl, o_le, o_cells, o_one, oOk_c, oOk_o, oO_cells, oO_own, oV_s, oV_0, oO_nil, oO_iL, iL_nil, iL_snoc, List.length_append, iL_fold, iL_over, iL_all, iL_get, iL_len, iL_take, iL_drop, iL_one, iL_plain, iL_le, List.length_set, s_alt, s_alt20, s_alt2t, s_alt2f, ↓s_loopi, ↓v_pq, ↓PRE, POST, CORE, Nat.reduceDiv, Nat.reduceMod, Int.reduceLT, Int.reduceLE, Int.reduceToNat, Int.reduceAdd, ↓reduceIte, Nat.reduceEqDiff, Nat.reduceAdd, Nat.reduceMul, Nat.reduceSub, Nat.reduceLeDiff, Nat.reduceLT, reduceCtorEq, if_true, eq_self, forall_const, implies_true])) <;> (try simp only [Sz.Le, Sz.LeL, List.getElem?_cons_zero, List.getElem?_cons_succ]) <;> (try simp))
          | false =>
            rw [out (by rw [he]; rfl)]
            simp (maxSteps := 2000000) -implicitDefEqProofs only [w1, o_sl, o_grows, o_kill, o_len, o_cap, o_isl, o_le, o_cells, o_one, oOk_c, oOk_o, oO_cells, oO_own, oV_s, oV_0, oO_nil, oO_iL, iL_nil, iL_snoc, List.length_append, iL_fold, iL_over, iL_all, iL_get, iL_len, iL_take, iL_drop, iL_one, iL_plain, iL_le, List.length_set, s_alt, s_alt20, s_alt2t, s_alt2f, ↓s_loopi, ↓v_pq, ↓PRE, POST, CORE, Nat.reduceDiv, Nat.reduceMod, Int.reduceLT, Int.reduceLE, Int.reduceToNat, Int.reduceAdd, ↓reduceIte, Nat.reduceEqDiff, Nat.reduceAdd, Nat.reduceMul, Nat.reduceSub, Nat.reduceLeDiff, Nat.reduceLT, reduceCtorEq, if_true, eq_self, forall_const, implies_true]
            exact ⟨⟨by unfold maxLen; omega, by omega⟩, (by refine ⟨[0, 1, 4], by simp [NdL, NdA, oO_cells, oO_own, iL_nil], ?_, ?_, keep0 hJ⟩ <;> simp only [FitM, FitE, ObLe, LeL, Le, List.cons_append, List.nil_append] <;> (try (simp (maxSteps := 2000000) -implicitDefEqProofs only [extO, extO2, extLe_no, or_true, o_sl, o_grows, o_kill, o_len, o_cap, o_isl, o_le, o_cells, o_one, oOk_c, oOk_o, oO_cells, oO_own, oV_s, oV_0, oO_nil, oO_iL, iL_nil, iL_snoc, List.length_append, iL_fold, iL_over, iL_all, iL_get, iL_len, iL_take, iL_drop, iL_one, iL_plain, iL_le, List.length_set, List.length_cons, List.length_nil, s_alt, s_alt20, s_alt2t, s_alt2f, ↓s_loopi, ↓v_pq, ↓PRE, POST, CORE, Nat.reduceDiv, Nat.reduceMod, Int.reduceLT, Int.reduceLE, Int.reduceToNat, Int.reduceAdd, ↓reduceIte, Nat.reduceEqDiff, Nat.reduceAdd, Nat.reduceMul, Nat.reduceSub, Nat.reduceLeDiff, Nat.reduceLT, reduceCtorEq, if_true, eq_self, forall_const, implies_true])) <;> (try simp only [Sz.Le, Sz.LeL, List.getElem?_cons_zero, List.getElem?_cons_succ]) <;> (try simp))⟩
        · have j1 : ¬ (xs.length : Int) ≤ (x : Int) := by omega
          have j2 : (ys.length : Int) ≤ (x : Int) := by omega
          have hF : difF A B x = true := by
            have e : B[x]? = none := List.getElem?_eq_none (by rw [hB, List.length_map]; omega)
            unfold difF
            rw [e]
            cases A[x]? <;> rfl
          rw [out hF]
          generalize difN A B x = L at hd hlen out ⊢
          simp (maxSteps := 2000000) -implicitDefEqProofs only [ge_iff_le, i0, i1, j1, j2, w1, o_sl, o_grows, o_kill, o_len, o_cap, o_isl, o_le, o_cells, o_one, oOk_c, oOk_o, oO_cells, oO_own, oV_s, oV_0, oO_nil, oO_iL, iL_nil, iL_snoc, List.length_append, iL_fold, iL_over, iL_all, iL_get, iL_len, iL_take, iL_drop, iL_one, iL_plain, iL_le, List.length_set, s_alt, s_alt20, s_alt2t, s_alt2f, ↓s_loopi, ↓v_pq, ↓PRE, POST, CORE, Nat.reduceDiv, Nat.reduceMod, Int.reduceLT, Int.reduceLE, Int.reduceToNat, Int.reduceAdd, ↓reduceIte, Nat.reduceEqDiff, Nat.reduceAdd, Nat.reduceMul, Nat.reduceSub, Nat.reduceLeDiff, Nat.reduceLT, reduceCtorEq, if_true, eq_self, forall_const, implies_true]
          exact ⟨⟨by unfold maxLen; omega, by omega⟩, (by refine ⟨[0, 1, 4], by simp [NdL, NdA, oO_cells, oO_own, iL_nil], ?_, ?_, keep0 hJ⟩ <;> simp only [FitM, FitE, ObLe, LeL, Le, List.cons_append, List.nil_append] <;> (try (simp (maxSteps := 2000000) -implicitDefEqProofs only [extO, extO2, extLe_no, or_true, o_sl, o_grows, o_kill, o_len, o_cap, o_isl, o_le, o_cells, o_one, oOk_c, oOk_o, oO_cells, oO_own, oV_s, oV_0, oO_nil, oO_iL, iL_nil, iL_snoc, List.length_append, iL_fold, iL_over, iL_all, iL_get, iL_len, iL_take, iL_drop, iL_one, iL_plain, iL_le, List.length_set, List.length_cons, List.length_nil, s_alt, s_alt20, s_alt2t, s_alt2f, ↓s_loopi, ↓v_pq, ↓PRE, POST, CORE, Nat.reduceDiv, Nat.reduceMod, Int.reduceLT, Int.reduceLE, Int.reduceToNat, Int.reduceAdd, ↓reduceIte, Nat.reduceEqDiff, Nat.reduceAdd, Nat.reduceMul, Nat.reduceSub, Nat.reduceLeDiff, Nat.reduceLT, reduceCtorEq, if_true, eq_self, forall_const, implies_true])) <;> (try simp only [Sz.Le, Sz.LeL, List.getElem?_cons_zero, List.getElem?_cons_succ]) <;> (try simp))⟩
      · have j1 : (xs.length : Int) ≤ (x : Int) := by omega
        have hF : difF A B x = true := by
          have e : A[x]? = none := List.getElem?_eq_none (by rw [hA, List.length_map]; omega)
          unfold difF
          rw [e]
        rw [out hF]
        generalize difN A B x = L at hd hlen out ⊢
        simp (maxSteps := 2000000) -implicitDefEqProofs only [ge_iff_le, i0, i1, j1, w1, o_sl, o_grows, o_kill, o_len, o_cap, o_isl, o_le, o_cells, o_one, oOk_c, oOk_o, oO_cells, oO_own, oV_s, oV_0, oO_nil, oO_iL, iL_nil, iL_snoc, List.length_append, iL_fold, iL_over, iL_all, iL_get, iL_len, iL_take, iL_drop, iL_one, iL_plain, iL_le, List.length_set, s_alt, s_alt20, s_alt2t, s_alt2f, ↓s_loopi, ↓v_pq, ↓PRE, POST, CORE, Nat.reduceDiv, Nat.reduceMod, Int.reduceLT, Int.reduceLE, Int.reduceToNat, Int.reduceAdd, ↓reduceIte, Nat.reduceEqDiff, Nat.reduceAdd, Nat.reduceMul, Nat.reduceSub, Nat.reduceLeDiff, Nat.reduceLT, reduceCtorEq, if_true, eq_self, forall_const, implies_true]
        exact ⟨⟨by unfold maxLen; omega, by omega⟩, (by refine ⟨[0, 1, 4], by simp [NdL, NdA, oO_cells, oO_own, iL_nil], ?_, ?_, keep0 hJ⟩ <;> simp only [FitM, FitE, ObLe, LeL, Le, List.cons_append, List.nil_append] <;> (try (simp (maxSteps := 2000000) -implicitDefEqProofs only [extO, extO2, extLe_no, or_true, o_sl, o_grows, o_kill, o_len, o_cap, o_isl, o_le, o_cells, o_one, oOk_c, oOk_o, oO_cells, oO_own, oV_s, oV_0, oO_nil, oO_iL, iL_nil, iL_snoc, List.length_append, iL_fold, iL_over, iL_all, iL_get, iL_len, iL_take, iL_drop, iL_one, iL_plain, iL_le, List.length_set, List.length_cons, List.length_nil, s_alt, s_alt20, s_alt2t, s_alt2f, ↓s_loopi, ↓v_pq, ↓PRE, POST, CORE, Nat.reduceDiv, Nat.reduceMod, Int.reduceLT, Int.reduceLE, Int.reduceToNat, Int.reduceAdd, ↓reduceIte, Nat.reduceEqDiff, Nat.reduceAdd, Nat.reduceMul, Nat.reduceSub, Nat.reduceLeDiff, Nat.reduceLT, reduceCtorEq, if_true, eq_self, forall_const, implies_true])) <;> (try simp only [Sz.Le, Sz.LeL, List.getElem?_cons_zero, List.getElem?_cons_succ]) <;> (try simp))⟩
    · intro _
      have i1 : ¬ (N : Int) < (N : Int) := by omega
      simp (maxSteps := 2000000) -implicitDefEqProofs only [i1, s_alt, s_alt20, s_alt2t, s_alt2f, ↓s_loopi, ↓v_pq, ↓PRE, POST, CORE, Nat.reduceDiv, Nat.reduceMod, Int.reduceLT, Int.reduceLE, Int.reduceToNat, Int.reduceAdd, ↓reduceIte, Nat.reduceEqDiff, Nat.reduceAdd, Nat.reduceMul, Nat.reduceSub, Nat.reduceLeDiff, Nat.reduceLT, reduceCtorEq, if_true, eq_self, forall_const, implies_true]
      generalize difN A B N = L at hk ⊢
      refine fin_int L _ _ 2 (fun h => ?_) (fun h => ?_) hk
      · subst h; rfl
      · have hl : L.length ≠ 0 := fun h0 => h (List.length_eq_zero_iff.1 h0)
        refine ⟨by unfold oV; rw [if_neg hl], ?_⟩
        have : (oO (iL L)) = ⟨true, iL L⟩ := by
          unfold oO
          have : (iL L).isEmpty = false := by
            cases L with
            | nil => exact (h rfl).elim
            | cons x L => rfl
          rw [this]; rfl
        simp [this]
end Go.Proofs.Ytibefgdjijmncaa
end
section
namespace Go.Proofs.Ytibefgdjijmncaa
open Go.RowKit Sz
set_option maxHeartbeats 4000000
set_option maxRecDepth 20000
-- almshouse/almshouselaw43.few (1 parameters)
def x12 : XC := (.seq (.tree (.seq ⟨some 1, none, (.box (.tmp 0))⟩
  (.seq ⟨some 2, none, (.ofA (.mv (.cst (.v (.bool false)))))⟩
  .done)))
 (.seq (.tree (.seq ⟨some 3, none, (.ofA (.mv (.cst (.v (.int .i64 0)))))⟩
  .done))
 (.seq (.seq (.tree (.seq ⟨some 8, none, (.ofA (.faddr 4 (.tmp 1)))⟩
  (.seq ⟨some 9, none, (.ofA (.load none (.tmp 8)))⟩
  (.seq ⟨some 10, none, (.ofA (.len (.tmp 9)))⟩
  (.seq ⟨some 11, none, (.ofA (.mv (.cst (.v (.int .i64 0)))))⟩
  .done)))))
 (.block 0 (.loop (.seq (.tree (.seq ⟨some 12, none, (.ofA (.bin .lss (.tmp 11) (.tmp 10)))⟩
  .done))
 (.seq (.cond (.tmp 12)
 .skip
 (.exit 0))
 (.seq (.block 1 (.seq (.tree (.seq ⟨some 13, none, (.ofA (.isl 3 (.tmp 9) (.tmp 11)))⟩
  (.seq ⟨some 14, none, (.ofA (.load (some 3) (.tmp 13)))⟩
  (.seq ⟨some 5, none, (.alloc [(.v (.bool false)), (.v (.int .i64 0)), (.v (.slice none 0 0))])⟩
  (.seq ⟨none, none, (.store 3 (.tmp 5) (.tmp 14))⟩
  .done)))))
 (.seq (.seq (.tree (.seq ⟨some 15, none, (.ofA (.faddr 2 (.tmp 5)))⟩
  (.seq ⟨some 16, none, (.ofA (.load none (.tmp 15)))⟩
  (.seq ⟨some 17, none, (.ofA (.len (.tmp 16)))⟩
  (.seq ⟨some 18, none, (.ofA (.mv (.cst (.v (.int .i64 0)))))⟩
  .done)))))
 (.block 2 (.loop (.seq (.tree (.seq ⟨some 19, none, (.ofA (.bin .lss (.tmp 18) (.tmp 17)))⟩
  .done))
 (.seq (.cond (.tmp 19)
 .skip
 (.exit 2))
 (.seq (.block 3 (.seq (.tree (.seq ⟨some 20, none, (.ofA (.isl 3 (.tmp 16) (.tmp 18)))⟩
  (.seq ⟨some 21, none, (.ofA (.load (some 3) (.tmp 20)))⟩
  (.seq ⟨some 7, none, (.alloc [(.v (.bool false)), (.v (.string ⟨#[]⟩)), (.v (.string ⟨#[]⟩))])⟩
  (.seq ⟨none, none, (.store 3 (.tmp 7) (.tmp 21))⟩
  .done)))))
 (.tree (.seq ⟨some 22, none, (.ofA (.mv (.tmp 3)))⟩
  (.seq ⟨some 23, none, (.ofA (.faddr 1 (.tmp 7)))⟩
  (.seq ⟨some 24, none, (.ofA (.load none (.tmp 23)))⟩
  (.seq ⟨some 25, none, (.ofA (.lens (.tmp 24)))⟩
  (.seq ⟨some 26, none, (.ofA (.faddr 2 (.tmp 7)))⟩
  (.seq ⟨some 27, none, (.ofA (.load none (.tmp 26)))⟩
  (.seq ⟨some 28, none, (.ofA (.lens (.tmp 27)))⟩
  (.seq ⟨some 29, none, (.ofA (.bin .add (.tmp 25) (.tmp 28)))⟩
  (.seq ⟨some 30, none, (.ofA (.mx false (.tmp 29) [(.cst (.v (.int .i64 10000)))]))⟩
  (.seq ⟨some 31, none, (.ofA (.bin .add (.cst (.v (.int .i64 10))) (.tmp 30)))⟩
  (.seq ⟨some 32, none, (.ofA (.bin .add (.tmp 22) (.tmp 31)))⟩
  (.seq ⟨some 3, none, (.ofA (.mv (.tmp 32)))⟩
  .done)))))))))))))))
 (.tree (.seq ⟨some 33, none, (.ofA (.bin .add (.tmp 18) (.cst (.v (.int .i64 1)))))⟩
  (.seq ⟨some 18, none, (.ofA (.mv (.tmp 33)))⟩
  .done)))))))))
 (.seq (.tree (.seq ⟨some 34, none, (.ofA (.mv (.tmp 3)))⟩
  (.seq ⟨some 35, none, (.ofA (.bin .add (.tmp 34) (.cst (.v (.int .i64 10)))))⟩
  (.seq ⟨some 3, none, (.ofA (.mv (.tmp 35)))⟩
  .done))))
 (.seq (.tree (.seq ⟨some 36, none, (.ofA (.mv (.tmp 3)))⟩
  (.seq ⟨some 37, none, (.ofA (.bin .gtr (.tmp 36) (.cst (.v (.int .i64 6000)))))⟩
  .done)))
 (.cond (.tmp 37)
 (.seq (.tree (.seq ⟨some 2, none, (.ofA (.mv (.cst (.v (.bool false)))))⟩
  .done))
 .ret)
 .skip))))))
 (.tree (.seq ⟨some 38, none, (.ofA (.bin .add (.tmp 11) (.cst (.v (.int .i64 1)))))⟩
  (.seq ⟨some 11, none, (.ofA (.mv (.tmp 38)))⟩
  .done)))))))))
 (.seq (.tree (.seq ⟨some 2, none, (.ofA (.mv (.cst (.v (.bool true)))))⟩
  .done))
 .ret))))
def r12 : List XR := [.tmp 2]
theorem fn12 : FnX Try.prog 12 [] 39 x12 r12 := ⟨_, Try.func12, by kernel_rfl, by kernel_rfl, by kernel_rfl, by kernel_rfl⟩
def c12 [Inp] : Trans := fun args m k => ∃ s g bs, args = [s] ∧ picS m s g bs ∧ bs.length ≤ 140737488355328 ∧ (∀ b ∈ bs, b.pages.length ≤ 140737488355328 ∧ ∀ x ∈ b.pages, x.beside.size ≤ 140737488355328 ∧ x.data.size ≤ 140737488355328) ∧ ∀ r : Bool, (r = true → bs.length ≤ 600) → k (.v (.bool r)) m
theorem c12_ok [I : Inp] : Contract Try.prog 12 true c12 := by
  refine .readG fn12 (G := fun J => []) (fun J => @g0 J _) _ fun args m k h => ?_
  obtain ⟨s, g, bs, rfl, h1, hn, hpn, hk⟩ := h
  refine ⟨by simp, fun J hJ K hK us hus => ?_⟩
  obtain ⟨u, t1, rfl, hk1, rfl⟩ := hus
  obtain ⟨p, c, xs, e1, rfl, hin, hx0⟩ := pic_kn hK h1 hk1
  rw [List.map_cons, e1, List.map_nil]
  rw [List.length_map] at hn hk
  have hitem : ∀ (i : Nat) (x : Bi), xs[i]? = some x → inpL (plusA p (i * 3)) 3 = some x.cs := fun i x hx => inp_item Bi.len hin rfl hx
  unfold Ge.sv
  simp (maxSteps := 2000000) -implicitDefEqProofs only [↓x12, ↓r12, s_alt, s_alt20, s_alt2t, s_alt2f, ↓s_loopi, ↓v_pq, ↓PRE, POST, CORE, Nat.reduceDiv, Nat.reduceMod, Int.reduceLT, Int.reduceLE, Int.reduceToNat, Int.reduceAdd, ↓reduceIte, Nat.reduceEqDiff, Nat.reduceAdd, Nat.reduceMul, Nat.reduceSub, Nat.reduceLeDiff, Nat.reduceLT, reduceCtorEq, if_true, eq_self, forall_const, implies_true]
  refine TXi_of (TX_countS (g0 _) xs.length (σ := Int) (fun x s => [(1, .ptr 0 0), (3, .v (.int .i64 s)), (9, .v (.slice p xs.length c)), (10, .v (.int .i64 (xs.length : Int))), (11, .v (.int .i64 (x : Int)))]) (fun x s => [⟨true, [.v (.int .i64 g.ch), .v (.int .i64 g.di), .v (.int .i64 g.bl), .v (.int .i64 g.pa), .v (.slice p xs.length c)]⟩]) (fun x s => 10 * (x : Int) ≤ s ∧ s ≤ 6000) 0 (by omega) (by refine ⟨[0], by simp [NdL, NdA, oO_cells, oO_own, iL_nil], ?_, ?_, keep0 hJ⟩ <;> simp only [FitM, FitE, ObLe, LeL, Le, List.cons_append, List.nil_append] <;> (try (simp (maxSteps := 2000000) -implicitDefEqProofs only [s_alt, s_alt20, s_alt2t, s_alt2f, ↓s_loopi, ↓v_pq, ↓PRE, POST, CORE, Nat.reduceDiv, Nat.reduceMod, Int.reduceLT, Int.reduceLE, Int.reduceToNat, Int.reduceAdd, ↓reduceIte, Nat.reduceEqDiff, Nat.reduceAdd, Nat.reduceMul, Nat.reduceSub, Nat.reduceLeDiff, Nat.reduceLT, reduceCtorEq, if_true, eq_self, forall_const, implies_true])) <;> (try simp only [Sz.Le, Sz.LeL, List.getElem?_cons_zero, List.getElem?_cons_succ]) <;> (try simp)) ?_ ?_)
  · intro x s hx hI
    obtain ⟨a, ha⟩ : ∃ a, xs[x]? = some a := ⟨_, List.getElem?_eq_getElem hx⟩
    have hpa := hpn a.b (List.mem_map.2 ⟨a, List.mem_of_getElem? ha, rfl⟩)
    have f : inpL (plusA p (x * 3)) 3 = some [.bool a.b.bad, .int .i64 a.b.er, .slice a.a a.b.pages.length a.c] := hitem x a ha
    have hina : inpL a.a (a.b.pages.length * 3) = some (rowV Pg.cs a.b.pages) := hx0 a (List.mem_of_getElem? ha)
    have hitem2 : ∀ (i : Nat) (y : Pg), a.b.pages[i]? = some y → inpL (plusA a.a (i * 3)) 3 = some y.cs := fun i y hy => inp_item Pg.len hina rfl hy
    have hp : p.isSome = true := inpL_isSome hin (by omega)
    have i0 : (0 : Int) ≤ (x : Int) := by omega
    have i1 : (x : Int) < (xs.length : Int) := by omega
    have w1 : IntKind.i64.wrap ((x : Int) + 1) = (x : Int) + 1 := Sz.w_64 (by omega) (by omega)
    simp (maxSteps := 2000000) -implicitDefEqProofs only [f, hp, i0, i1, w1, s_alt, s_alt20, s_alt2t, s_alt2f, ↓s_loopi, ↓v_pq, ↓PRE, POST, CORE, Nat.reduceDiv, Nat.reduceMod, Int.reduceLT, Int.reduceLE, Int.reduceToNat, Int.reduceAdd, ↓reduceIte, Nat.reduceEqDiff, Nat.reduceAdd, Nat.reduceMul, Nat.reduceSub, Nat.reduceLeDiff, Nat.reduceLT, reduceCtorEq, if_true, eq_self, forall_const, implies_true]
    refine TXi_of (TX_countS (g0 _) a.b.pages.length (σ := Int) (fun y s' => [(1, .ptr 0 0), (3, .v (.int .i64 s')), (9, .v (.slice p xs.length c)), (10, .v (.int .i64 (xs.length : Int))), (11, .v (.int .i64 (x : Int))), (16, .v (.slice a.a a.b.pages.length a.c)), (17, .v (.int .i64 (a.b.pages.length : Int))), (18, .v (.int .i64 (y : Int)))]) (fun y s' => [⟨true, [.v (.int .i64 g.ch), .v (.int .i64 g.di), .v (.int .i64 g.bl), .v (.int .i64 g.pa), .v (.slice p xs.length c)]⟩]) (fun y s' => s ≤ s' ∧ s' ≤ s + 10010 * (y : Int)) s (by omega) (by refine ⟨[0], by simp [NdL, NdA, oO_cells, oO_own, iL_nil], ?_, ?_, keep0 hJ⟩ <;> simp only [FitM, FitE, ObLe, LeL, Le, List.cons_append, List.nil_append] <;> (try (simp (maxSteps := 2000000) -implicitDefEqProofs only [s_alt, s_alt20, s_alt2t, s_alt2f, ↓s_loopi, ↓v_pq, ↓PRE, POST, CORE, Nat.reduceDiv, Nat.reduceMod, Int.reduceLT, Int.reduceLE, Int.reduceToNat, Int.reduceAdd, ↓reduceIte, Nat.reduceEqDiff, Nat.reduceAdd, Nat.reduceMul, Nat.reduceSub, Nat.reduceLeDiff, Nat.reduceLT, reduceCtorEq, if_true, eq_self, forall_const, implies_true])) <;> (try simp only [Sz.Le, Sz.LeL, List.getElem?_cons_zero, List.getElem?_cons_succ]) <;> (try simp)) ?_ ?_)
    · intro y s' hy hI2
      obtain ⟨b, hb⟩ : ∃ b, a.b.pages[y]? = some b := ⟨_, List.getElem?_eq_getElem hy⟩
      have hbs := hpa.2 b (List.mem_of_getElem? hb)
      have f2 : inpL (plusA a.a (y * 3)) 3 = some [.bool b.torn, .string b.beside, .string b.data] := hitem2 y b hb
      have hp2 : a.a.isSome = true := inpL_isSome hina (by omega)
      have j0 : (0 : Int) ≤ (y : Int) := by omega
      have j1 : (y : Int) < (a.b.pages.length : Int) := by omega
      have w2 : IntKind.i64.wrap ((y : Int) + 1) = (y : Int) + 1 := Sz.w_64 (by omega) (by omega)
      have w3 : IntKind.i64.wrap ((b.beside.size : Int) + (b.data.size : Int)) = (b.beside.size : Int) + (b.data.size : Int) := Sz.w_64 (by omega) (by omega)
      by_cases h10 : (10000 : Int) < (b.beside.size : Int) + (b.data.size : Int)
      · have w4 : IntKind.i64.wrap 10010 = 10010 := rfl
        have w5 : IntKind.i64.wrap (s' + 10010) = s' + 10010 := Sz.w_64 (by omega) (by omega)
        simp (maxSteps := 2000000) -implicitDefEqProofs only [f2, hp2, j0, j1, w2, w3, h10, w4, w5, s_alt, s_alt20, s_alt2t, s_alt2f, ↓s_loopi, ↓v_pq, ↓PRE, POST, CORE, Nat.reduceDiv, Nat.reduceMod, Int.reduceLT, Int.reduceLE, Int.reduceToNat, Int.reduceAdd, ↓reduceIte, Nat.reduceEqDiff, Nat.reduceAdd, Nat.reduceMul, Nat.reduceSub, Nat.reduceLeDiff, Nat.reduceLT, reduceCtorEq, if_true, eq_self, forall_const, implies_true]
        exact ⟨s' + 10010, ⟨by omega, by omega⟩, (by refine ⟨[0], by simp [NdL, NdA, oO_cells, oO_own, iL_nil], ?_, ?_, keep0 hJ⟩ <;> simp only [FitM, FitE, ObLe, LeL, Le, List.cons_append, List.nil_append] <;> (try (simp (maxSteps := 2000000) -implicitDefEqProofs only [s_alt, s_alt20, s_alt2t, s_alt2f, ↓s_loopi, ↓v_pq, ↓PRE, POST, CORE, Nat.reduceDiv, Nat.reduceMod, Int.reduceLT, Int.reduceLE, Int.reduceToNat, Int.reduceAdd, ↓reduceIte, Nat.reduceEqDiff, Nat.reduceAdd, Nat.reduceMul, Nat.reduceSub, Nat.reduceLeDiff, Nat.reduceLT, reduceCtorEq, if_true, eq_self, forall_const, implies_true])) <;> (try simp only [Sz.Le, Sz.LeL, List.getElem?_cons_zero, List.getElem?_cons_succ]) <;> (try simp))⟩
      · have w4 : IntKind.i64.wrap ((10 : Int) + ((b.beside.size : Int) + (b.data.size : Int))) = 10 + ((b.beside.size : Int) + (b.data.size : Int)) := Sz.w_64 (by omega) (by omega)
        have w5 : IntKind.i64.wrap (s' + (10 + ((b.beside.size : Int) + (b.data.size : Int)))) = s' + (10 + ((b.beside.size : Int) + (b.data.size : Int))) := Sz.w_64 (by omega) (by omega)
        simp (maxSteps := 2000000) -implicitDefEqProofs only [f2, hp2, j0, j1, w2, w3, h10, w4, w5, s_alt, s_alt20, s_alt2t, s_alt2f, ↓s_loopi, ↓v_pq, ↓PRE, POST, CORE, Nat.reduceDiv, Nat.reduceMod, Int.reduceLT, Int.reduceLE, Int.reduceToNat, Int.reduceAdd, ↓reduceIte, Nat.reduceEqDiff, Nat.reduceAdd, Nat.reduceMul, Nat.reduceSub, Nat.reduceLeDiff, Nat.reduceLT, reduceCtorEq, if_true, eq_self, forall_const, implies_true]
        exact ⟨s' + (10 + ((b.beside.size : Int) + (b.data.size : Int))), ⟨by omega, by omega⟩, (by refine ⟨[0], by simp [NdL, NdA, oO_cells, oO_own, iL_nil], ?_, ?_, keep0 hJ⟩ <;> simp only [FitM, FitE, ObLe, LeL, Le, List.cons_append, List.nil_append] <;> (try (simp (maxSteps := 2000000) -implicitDefEqProofs only [s_alt, s_alt20, s_alt2t, s_alt2f, ↓s_loopi, ↓v_pq, ↓PRE, POST, CORE, Nat.reduceDiv, Nat.reduceMod, Int.reduceLT, Int.reduceLE, Int.reduceToNat, Int.reduceAdd, ↓reduceIte, Nat.reduceEqDiff, Nat.reduceAdd, Nat.reduceMul, Nat.reduceSub, Nat.reduceLeDiff, Nat.reduceLT, reduceCtorEq, if_true, eq_self, forall_const, implies_true])) <;> (try simp only [Sz.Le, Sz.LeL, List.getElem?_cons_zero, List.getElem?_cons_succ]) <;> (try simp))⟩
    · intro s' hI2
      have j1 : ¬ (a.b.pages.length : Int) < (a.b.pages.length : Int) := by omega
      have w2 : IntKind.i64.wrap (s' + 10) = s' + 10 := Sz.w_64 (by omega) (by omega)
      by_cases h6 : (6000 : Int) < s' + 10
      · simp (maxSteps := 2000000) -implicitDefEqProofs only [j1, w1, w2, h6, gt_iff_lt, s_alt, s_alt20, s_alt2t, s_alt2f, ↓s_loopi, ↓v_pq, ↓PRE, POST, CORE, Nat.reduceDiv, Nat.reduceMod, Int.reduceLT, Int.reduceLE, Int.reduceToNat, Int.reduceAdd, ↓reduceIte, Nat.reduceEqDiff, Nat.reduceAdd, Nat.reduceMul, Nat.reduceSub, Nat.reduceLeDiff, Nat.reduceLT, reduceCtorEq, if_true, eq_self, forall_const, implies_true]
        exact hk false (by simp)
      · simp (maxSteps := 2000000) -implicitDefEqProofs only [j1, w1, w2, h6, gt_iff_lt, s_alt, s_alt20, s_alt2t, s_alt2f, ↓s_loopi, ↓v_pq, ↓PRE, POST, CORE, Nat.reduceDiv, Nat.reduceMod, Int.reduceLT, Int.reduceLE, Int.reduceToNat, Int.reduceAdd, ↓reduceIte, Nat.reduceEqDiff, Nat.reduceAdd, Nat.reduceMul, Nat.reduceSub, Nat.reduceLeDiff, Nat.reduceLT, reduceCtorEq, if_true, eq_self, forall_const, implies_true]
        exact ⟨s' + 10, ⟨by omega, by omega⟩, (by refine ⟨[0], by simp [NdL, NdA, oO_cells, oO_own, iL_nil], ?_, ?_, keep0 hJ⟩ <;> simp only [FitM, FitE, ObLe, LeL, Le, List.cons_append, List.nil_append] <;> (try (simp (maxSteps := 2000000) -implicitDefEqProofs only [s_alt, s_alt20, s_alt2t, s_alt2f, ↓s_loopi, ↓v_pq, ↓PRE, POST, CORE, Nat.reduceDiv, Nat.reduceMod, Int.reduceLT, Int.reduceLE, Int.reduceToNat, Int.reduceAdd, ↓reduceIte, Nat.reduceEqDiff, Nat.reduceAdd, Nat.reduceMul, Nat.reduceSub, Nat.reduceLeDiff, Nat.reduceLT, reduceCtorEq, if_true, eq_self, forall_const, implies_true])) <;> (try simp only [Sz.Le, Sz.LeL, List.getElem?_cons_zero, List.getElem?_cons_succ]) <;> (try simp))⟩
  · intro s hI
    have i1 : ¬ (xs.length : Int) < (xs.length : Int) := by omega
    simp (maxSteps := 2000000) -implicitDefEqProofs only [i1, s_alt, s_alt20, s_alt2t, s_alt2f, ↓s_loopi, ↓v_pq, ↓PRE, POST, CORE, Nat.reduceDiv, Nat.reduceMod, Int.reduceLT, Int.reduceLE, Int.reduceToNat, Int.reduceAdd, ↓reduceIte, Nat.reduceEqDiff, Nat.reduceAdd, Nat.reduceMul, Nat.reduceSub, Nat.reduceLeDiff, Nat.reduceLT, reduceCtorEq, if_true, eq_self, forall_const, implies_true]
    exact hk true (fun _ => by omega)
end Go.Proofs.Ytibefgdjijmncaa
end
section
namespace Go.Proofs.Ytibefgdjijmncaa
open Go.RowKit Sz
set_option maxHeartbeats 4000000
set_option maxRecDepth 20000
-- almshouse/geom.Check (1 parameters)
def x53 : XC := (.seq (.tree (.seq ⟨some 1, none, (.box (.tmp 0))⟩
  (.seq ⟨some 2, none, (.ofA (.mv (.cst (.v (.int .i64 0)))))⟩
  .done)))
 (.seq (.tree (.seq ⟨some 6, none, (.ofA (.faddr 0 (.tmp 1)))⟩
  (.seq ⟨some 7, none, (.ofA (.load none (.tmp 6)))⟩
  (.seq ⟨some 8, none, (.ofA (.faddr 1 (.tmp 1)))⟩
  (.seq ⟨some 9, none, (.ofA (.load none (.tmp 8)))⟩
  (.seq ⟨some 10, none, (.ofA (.faddr 2 (.tmp 1)))⟩
  (.seq ⟨some 11, none, (.ofA (.load none (.tmp 10)))⟩
  (.seq ⟨some 12, none, (.ofA (.mx false (.tmp 7) [(.tmp 9), (.tmp 11)]))⟩
  (.seq ⟨some 3, none, (.ofA (.mv (.tmp 12)))⟩
  .done)))))))))
 (.seq (.tree (.seq ⟨some 13, none, (.ofA (.faddr 0 (.tmp 1)))⟩
  (.seq ⟨some 14, none, (.ofA (.load none (.tmp 13)))⟩
  (.seq ⟨some 15, none, (.ofA (.faddr 1 (.tmp 1)))⟩
  (.seq ⟨some 16, none, (.ofA (.load none (.tmp 15)))⟩
  (.seq ⟨some 17, none, (.ofA (.faddr 2 (.tmp 1)))⟩
  (.seq ⟨some 18, none, (.ofA (.load none (.tmp 17)))⟩
  (.seq ⟨some 19, none, (.ofA (.mx true (.tmp 14) [(.tmp 16), (.tmp 18)]))⟩
  (.seq ⟨some 4, none, (.ofA (.mv (.tmp 19)))⟩
  .done)))))))))
 (.seq (.block 0 (.seq (.tree (.seq ⟨some 21, none, (.ofA (.mv (.tmp 3)))⟩
  (.seq ⟨some 22, none, (.ofA (.bin .lss (.tmp 21) (.cst (.v (.int .i64 1)))))⟩
  (.seq ⟨some 23, none, (.ofA (.mv (.tmp 22)))⟩
  (.seq ⟨some 24, some (23, false), (.ofA (.faddr 3 (.tmp 1)))⟩
  (.seq ⟨some 25, some (23, false), (.ofA (.load none (.tmp 24)))⟩
  (.seq ⟨some 26, some (23, false), (.ofA (.bin .lss (.tmp 25) (.cst (.v (.int .i64 2)))))⟩
  (.seq ⟨some 27, none, (.ofA (.pick (.tmp 23) (.cst (.v (.bool true))) (.tmp 26)))⟩
  (.seq ⟨some 20, none, (.ofA (.mv (.tmp 27)))⟩
  .done)))))))))
 (.cond (.tmp 20)
 (.seq (.tree (.seq ⟨some 2, none, (.ofA (.mv (.cst (.v (.int .i64 1)))))⟩
  .done))
 .ret)
 (.seq (.tree (.seq ⟨some 29, none, (.ofA (.mv (.tmp 4)))⟩
  (.seq ⟨some 30, none, (.ofA (.bin .gtr (.tmp 29) (.cst (.v (.int .i64 64)))))⟩
  (.seq ⟨some 31, none, (.ofA (.mv (.tmp 30)))⟩
  (.seq ⟨some 32, some (31, false), (.ofA (.faddr 3 (.tmp 1)))⟩
  (.seq ⟨some 33, some (31, false), (.ofA (.load none (.tmp 32)))⟩
  (.seq ⟨some 34, some (31, false), (.ofA (.bin .gtr (.tmp 33) (.cst (.v (.int .i64 16)))))⟩
  (.seq ⟨some 35, none, (.ofA (.pick (.tmp 31) (.cst (.v (.bool true))) (.tmp 34)))⟩
  (.seq ⟨some 28, none, (.ofA (.mv (.tmp 35)))⟩
  .done)))))))))
 (.cond (.tmp 28)
 (.seq (.tree (.seq ⟨some 2, none, (.ofA (.mv (.cst (.v (.int .i64 4)))))⟩
  .done))
 .ret)
 .skip)))))
 (.seq (.seq (.tree (.seq ⟨some 36, none, (.ofA (.faddr 0 (.tmp 1)))⟩
  (.seq ⟨some 37, none, (.ofA (.load none (.tmp 36)))⟩
  (.seq ⟨some 38, none, (.ofA (.faddr 1 (.tmp 1)))⟩
  (.seq ⟨some 39, none, (.ofA (.load none (.tmp 38)))⟩
  (.seq ⟨some 40, none, (.ofA (.bin .mul (.tmp 37) (.tmp 39)))⟩
  (.seq ⟨some 41, none, (.ofA (.faddr 2 (.tmp 1)))⟩
  (.seq ⟨some 42, none, (.ofA (.load none (.tmp 41)))⟩
  (.seq ⟨some 43, none, (.ofA (.bin .mul (.tmp 40) (.tmp 42)))⟩
  (.seq ⟨some 5, none, (.ofA (.mv (.tmp 43)))⟩
  .done))))))))))
 (.block 1 (.seq (.tree (.seq ⟨some 45, none, (.ofA (.mv (.tmp 5)))⟩
  (.seq ⟨some 46, none, (.ofA (.bin .leq (.tmp 45) (.cst (.v (.int .i64 2)))))⟩
  (.seq ⟨some 44, none, (.ofA (.mv (.tmp 46)))⟩
  .done))))
 (.cond (.tmp 44)
 (.seq (.tree (.seq ⟨some 2, none, (.ofA (.mv (.cst (.v (.int .i64 1)))))⟩
  .done))
 .ret)
 (.seq (.tree (.seq ⟨some 48, none, (.ofA (.mv (.tmp 5)))⟩
  (.seq ⟨some 49, none, (.ofA (.bin .gtr (.tmp 48) (.cst (.v (.int .i64 64)))))⟩
  (.seq ⟨some 47, none, (.ofA (.mv (.tmp 49)))⟩
  .done))))
 (.cond (.tmp 47)
 (.seq (.tree (.seq ⟨some 2, none, (.ofA (.mv (.cst (.v (.int .i64 4)))))⟩
  .done))
 .ret)
 .skip))))))
 (.seq (.tree (.seq ⟨some 2, none, (.ofA (.mv (.cst (.v (.int .i64 0)))))⟩
  .done))
 .ret))))))
def r53 : List XR := [.tmp 2]
theorem fn53 : FnX Try.prog 53 [] 50 x53 r53 := ⟨_, Try.func53, by kernel_rfl, by kernel_rfl, by kernel_rfl, by kernel_rfl⟩
-- almshouse/geom.Blocks (1 parameters)
def x55 : XC := (.seq (.tree (.seq ⟨some 1, none, (.box (.tmp 0))⟩
  (.seq ⟨some 2, none, (.ofA (.mv (.cst (.v (.int .i64 0)))))⟩
  .done)))
 (.seq (.seq (.tree (.seq ⟨some 3, none, (.ofA (.load (some 4) (.tmp 1)))⟩
  (.seq ⟨some 4, none, (.call (.cst (.fn 53 [])) [(.tmp 3)])⟩
  (.seq ⟨some 5, none, (.ofA (.bin .neq (.tmp 4) (.cst (.v (.int .i64 0)))))⟩
  .done))))
 (.cond (.tmp 5)
 (.seq (.tree (.seq ⟨some 2, none, (.ofA (.mv (.cst (.v (.int .i64 0)))))⟩
  .done))
 .ret)
 .skip))
 (.seq (.tree (.seq ⟨some 6, none, (.ofA (.faddr 0 (.tmp 1)))⟩
  (.seq ⟨some 7, none, (.ofA (.load none (.tmp 6)))⟩
  (.seq ⟨some 8, none, (.ofA (.faddr 1 (.tmp 1)))⟩
  (.seq ⟨some 9, none, (.ofA (.load none (.tmp 8)))⟩
  (.seq ⟨some 10, none, (.ofA (.bin .mul (.tmp 7) (.tmp 9)))⟩
  (.seq ⟨some 11, none, (.ofA (.faddr 2 (.tmp 1)))⟩
  (.seq ⟨some 12, none, (.ofA (.load none (.tmp 11)))⟩
  (.seq ⟨some 13, none, (.ofA (.bin .mul (.tmp 10) (.tmp 12)))⟩
  (.seq ⟨some 2, none, (.ofA (.mv (.tmp 13)))⟩
  .done))))))))))
 .ret)))
def r55 : List XR := [.tmp 2]
theorem fn55 : FnX Try.prog 55 [] 14 x55 r55 := ⟨_, Try.func55, by kernel_rfl, by kernel_rfl, by kernel_rfl, by kernel_rfl⟩
-- (almshouse/image.Page).may (1 parameters)
def x88 : XC := (.seq (.tree (.seq ⟨some 1, none, (.box (.tmp 0))⟩
  (.seq ⟨some 2, none, (.ofA (.mv (.cst (.v (.bool false)))))⟩
  .done)))
 (.seq (.seq (.tree (.seq ⟨some 3, none, (.ofA (.faddr 0 (.tmp 1)))⟩
  (.seq ⟨some 4, none, (.ofA (.load none (.tmp 3)))⟩
  .done)))
 (.cond (.tmp 4)
 (.seq (.tree (.seq ⟨some 5, none, (.ofA (.load (some 3) (.tmp 1)))⟩
  (.seq ⟨some 6, none, (.build [(.v (.bool false)), (.v (.string ⟨#[]⟩)), (.v (.string ⟨#[]⟩))] [(0, 1, (.cst (.v (.bool true))))])⟩
  (.seq ⟨some 7, none, (.ofA (.eqs false [.bool, .str, .str] (.tmp 5) (.tmp 6)))⟩
  (.seq ⟨some 2, none, (.ofA (.mv (.tmp 7)))⟩
  .done)))))
 .ret)
 .skip))
 (.seq (.tree (.seq ⟨some 8, none, (.ofA (.faddr 1 (.tmp 1)))⟩
  (.seq ⟨some 9, none, (.ofA (.load none (.tmp 8)))⟩
  (.seq ⟨some 10, none, (.ofA (.lens (.tmp 9)))⟩
  (.seq ⟨some 11, none, (.ofA (.bin .leq (.tmp 10) (.cst (.v (.int .i64 32)))))⟩
  (.seq ⟨some 12, none, (.ofA (.mv (.tmp 11)))⟩
  (.seq ⟨some 13, some (12, true), (.ofA (.faddr 2 (.tmp 1)))⟩
  (.seq ⟨some 14, some (12, true), (.ofA (.load none (.tmp 13)))⟩
  (.seq ⟨some 15, some (12, true), (.ofA (.lens (.tmp 14)))⟩
  (.seq ⟨some 16, some (12, true), (.ofA (.bin .leq (.tmp 15) (.cst (.v (.int .i64 160)))))⟩
  (.seq ⟨some 17, none, (.ofA (.pick (.tmp 12) (.tmp 16) (.cst (.v (.bool false)))))⟩
  (.seq ⟨some 2, none, (.ofA (.mv (.tmp 17)))⟩
  .done))))))))))))
 .ret)))
def r88 : List XR := [.tmp 2]
theorem fn88 : FnX Try.prog 88 [] 18 x88 r88 := ⟨_, Try.func88, by kernel_rfl, by kernel_rfl, by kernel_rfl, by kernel_rfl⟩
-- (almshouse/image.Picture).may$1 (1 parameters)
def x87 : XC := (.seq (.tree (.seq ⟨some 1, none, (.box (.tmp 0))⟩
  (.seq ⟨some 2, none, (.ofA (.mv (.cst (.v (.bool false)))))⟩
  .done)))
 (.seq (.tree (.seq ⟨some 3, none, (.ofA (.load (some 3) (.tmp 1)))⟩
  (.seq ⟨some 4, none, (.call (.cst (.fn 88 [])) [(.tmp 3)])⟩
  (.seq ⟨some 5, none, (.ofA (.un .not (.tmp 4)))⟩
  (.seq ⟨some 2, none, (.ofA (.mv (.tmp 5)))⟩
  .done)))))
 .ret))
def r87 : List XR := [.tmp 2]
theorem fn87 : FnX Try.prog 87 [] 6 x87 r87 := ⟨_, Try.func87, by kernel_rfl, by kernel_rfl, by kernel_rfl, by kernel_rfl⟩
-- slices.IndexFunc[[]almshouse/image.Page,almshouse/image.Page] (2 parameters)
def x122 : XC := (.seq (.tree (.seq ⟨some 4, none, (.ofA (.mv (.cst (.v (.int .i64 0)))))⟩
  .done))
 (.seq (.seq (.tree (.seq ⟨some 6, none, (.ofA (.mv (.tmp 0)))⟩
  (.seq ⟨some 7, none, (.ofA (.len (.tmp 6)))⟩
  (.seq ⟨some 8, none, (.ofA (.mv (.cst (.v (.int .i64 0)))))⟩
  .done))))
 (.block 0 (.loop (.seq (.tree (.seq ⟨some 9, none, (.ofA (.bin .lss (.tmp 8) (.tmp 7)))⟩
  .done))
 (.seq (.cond (.tmp 9)
 .skip
 (.exit 0))
 (.seq (.block 1 (.seq (.tree (.seq ⟨some 10, none, (.ofA (.mv (.tmp 8)))⟩
  (.seq ⟨some 5, none, (.ofA (.mv (.tmp 10)))⟩
  .done)))
 (.seq (.tree (.seq ⟨some 11, none, (.ofA (.mv (.tmp 1)))⟩
  (.seq ⟨some 12, none, (.ofA (.mv (.tmp 0)))⟩
  (.seq ⟨some 13, none, (.ofA (.mv (.tmp 5)))⟩
  (.seq ⟨some 14, none, (.ofA (.isl 3 (.tmp 12) (.tmp 13)))⟩
  (.seq ⟨some 15, none, (.ofA (.load (some 3) (.tmp 14)))⟩
  (.seq ⟨some 16, none, (.call (.tmp 11) [(.tmp 15)])⟩
  .done)))))))
 (.cond (.tmp 16)
 (.seq (.tree (.seq ⟨some 17, none, (.ofA (.mv (.tmp 5)))⟩
  (.seq ⟨some 4, none, (.ofA (.mv (.tmp 17)))⟩
  .done)))
 .ret)
 .skip))))
 (.tree (.seq ⟨some 18, none, (.ofA (.bin .add (.tmp 8) (.cst (.v (.int .i64 1)))))⟩
  (.seq ⟨some 8, none, (.ofA (.mv (.tmp 18)))⟩
  .done)))))))))
 (.seq (.tree (.seq ⟨some 4, none, (.ofA (.mv (.cst (.v (.int .i64 (-1))))))⟩
  .done))
 .ret)))
def r122 : List XR := [.tmp 4]
theorem fn122 : FnX Try.prog 122 [] 19 x122 r122 := ⟨_, Try.func122, by kernel_rfl, by kernel_rfl, by kernel_rfl, by kernel_rfl⟩
-- slices.ContainsFunc[[]almshouse/image.Page,almshouse/image.Page] (2 parameters)
def x86 : XC := (.seq (.tree (.seq ⟨some 4, none, (.ofA (.mv (.cst (.v (.bool false)))))⟩
  .done))
 (.seq (.tree (.seq ⟨some 5, none, (.ofA (.mv (.tmp 0)))⟩
  (.seq ⟨some 6, none, (.ofA (.mv (.tmp 1)))⟩
  (.seq ⟨some 7, none, (.call (.cst (.fn 122 [])) [(.tmp 5), (.tmp 6)])⟩
  (.seq ⟨some 8, none, (.ofA (.bin .geq (.tmp 7) (.cst (.v (.int .i64 0)))))⟩
  (.seq ⟨some 4, none, (.ofA (.mv (.tmp 8)))⟩
  .done))))))
 .ret))
def r86 : List XR := [.tmp 4]
theorem fn86 : FnX Try.prog 86 [] 9 x86 r86 := ⟨_, Try.func86, by kernel_rfl, by kernel_rfl, by kernel_rfl, by kernel_rfl⟩
-- (almshouse/image.Picture).may (1 parameters)
def x45 : XC := (.seq (.tree (.seq ⟨some 1, none, (.box (.tmp 0))⟩
  (.seq ⟨some 2, none, (.ofA (.mv (.cst (.v (.bool false)))))⟩
  .done)))
 (.seq (.seq (.tree (.take ⟨some 5, none, (.ofA (.faddr 0 (.tmp 1)))⟩
  (.take ⟨some 6, none, (.ofA (.load (some 4) (.tmp 5)))⟩
  (.act true [(⟨some 7, none, (.call (.cst (.fn 53 [])) [(.tmp 6)])⟩,
 (.take ⟨some 8, none, (.ofA (.bin .neq (.tmp 7) (.cst (.v (.int .i64 0)))))⟩
  (.take ⟨some 9, none, (.ofA (.mv (.tmp 8)))⟩
  (.take ⟨some 10, some (9, false), (.ofA (.faddr 4 (.tmp 1)))⟩
  (.take ⟨some 11, some (9, false), (.ofA (.load none (.tmp 10)))⟩
  (.take ⟨some 12, some (9, false), (.ofA (.len (.tmp 11)))⟩
  (.take ⟨some 13, some (9, false), (.ofA (.faddr 0 (.tmp 1)))⟩
  (.take ⟨some 14, some (9, false), (.ofA (.load (some 4) (.tmp 13)))⟩
  (.act true [(⟨some 15, some (9, false), (.call (.cst (.fn 55 [])) [(.tmp 14)])⟩,
 (.take ⟨some 16, some (9, false), (.ofA (.bin .neq (.tmp 12) (.tmp 15)))⟩
  (.take ⟨some 17, none, (.ofA (.pick (.tmp 9) (.cst (.v (.bool true))) (.tmp 16)))⟩
  .done)))])))))))))]))))
 (.cond (.tmp 17)
 (.seq (.tree (.seq ⟨some 2, none, (.ofA (.mv (.cst (.v (.bool false)))))⟩
  .done))
 .ret)
 .skip))
 (.seq (.seq (.tree (.seq ⟨some 18, none, (.ofA (.faddr 4 (.tmp 1)))⟩
  (.seq ⟨some 19, none, (.ofA (.load none (.tmp 18)))⟩
  (.seq ⟨some 20, none, (.ofA (.len (.tmp 19)))⟩
  (.seq ⟨some 21, none, (.ofA (.mv (.cst (.v (.int .i64 0)))))⟩
  .done)))))
 (.block 0 (.loop (.seq (.tree (.seq ⟨some 22, none, (.ofA (.bin .lss (.tmp 21) (.tmp 20)))⟩
  .done))
 (.seq (.cond (.tmp 22)
 .skip
 (.exit 0))
 (.seq (.block 1 (.seq (.tree (.seq ⟨some 23, none, (.ofA (.mv (.tmp 21)))⟩
  (.seq ⟨some 24, none, (.ofA (.isl 3 (.tmp 19) (.tmp 21)))⟩
  (.seq ⟨some 25, none, (.ofA (.load (some 3) (.tmp 24)))⟩
  (.seq ⟨some 4, none, (.alloc [(.v (.bool false)), (.v (.int .i64 0)), (.v (.slice none 0 0))])⟩
  (.seq ⟨some 3, none, (.ofA (.mv (.tmp 23)))⟩
  (.seq ⟨none, none, (.store 3 (.tmp 4) (.tmp 25))⟩
  .done)))))))
 (.seq (.block 2 (.seq (.seq (.tree (.seq ⟨some 27, none, (.ofA (.faddr 0 (.tmp 4)))⟩
  (.seq ⟨some 28, none, (.ofA (.load none (.tmp 27)))⟩
  (.seq ⟨some 29, none, (.ofA (.mv (.tmp 28)))⟩
  (.seq ⟨some 30, some (29, true), (.ofA (.mv (.tmp 3)))⟩
  (.seq ⟨some 31, some (29, true), (.ofA (.bin .lss (.tmp 30) (.cst (.v (.int .i64 2)))))⟩
  (.seq ⟨some 32, none, (.ofA (.pick (.tmp 29) (.tmp 31) (.cst (.v (.bool false)))))⟩
  (.seq ⟨some 26, none, (.ofA (.mv (.tmp 32)))⟩
  .done))))))))
 (.cond (.tmp 26)
 .skip
 (.seq (.tree (.seq ⟨some 33, none, (.ofA (.faddr 1 (.tmp 4)))⟩
  (.seq ⟨some 34, none, (.ofA (.load none (.tmp 33)))⟩
  (.seq ⟨some 35, none, (.ofA (.bin .lss (.tmp 34) (.cst (.v (.int .i64 0)))))⟩
  (.seq ⟨some 26, none, (.ofA (.mv (.tmp 35)))⟩
  .done)))))
 (.cond (.tmp 26)
 .skip
 (.seq (.tree (.seq ⟨some 36, none, (.ofA (.faddr 1 (.tmp 4)))⟩
  (.seq ⟨some 37, none, (.ofA (.load none (.tmp 36)))⟩
  (.seq ⟨some 38, none, (.ofA (.bin .gtr (.tmp 37) (.cst (.v (.int .i64 2147483647)))))⟩
  (.seq ⟨some 26, none, (.ofA (.mv (.tmp 38)))⟩
  .done)))))
 (.cond (.tmp 26)
 .skip
 (.tree (.seq ⟨some 39, none, (.ofA (.faddr 2 (.tmp 4)))⟩
  (.seq ⟨some 40, none, (.ofA (.load none (.tmp 39)))⟩
  (.seq ⟨some 41, none, (.ofA (.len (.tmp 40)))⟩
  (.seq ⟨some 42, none, (.ofA (.faddr 0 (.tmp 1)))⟩
  (.seq ⟨some 43, none, (.ofA (.faddr 3 (.tmp 42)))⟩
  (.seq ⟨some 44, none, (.ofA (.load none (.tmp 43)))⟩
  (.seq ⟨some 45, none, (.ofA (.bin .gtr (.tmp 41) (.tmp 44)))⟩
  (.seq ⟨some 26, none, (.ofA (.mv (.tmp 45)))⟩
  .done)))))))))))))))
 (.cond (.tmp 26)
 (.seq (.tree (.seq ⟨some 2, none, (.ofA (.mv (.cst (.v (.bool false)))))⟩
  .done))
 .ret)
 .skip)))
 (.seq (.tree (.seq ⟨some 46, none, (.ofA (.faddr 2 (.tmp 4)))⟩
  (.seq ⟨some 47, none, (.ofA (.load none (.tmp 46)))⟩
  (.seq ⟨some 48, none, (.call (.cst (.fn 86 [])) [(.tmp 47), (.cst (.fn 87 []))])⟩
  .done))))
 (.cond (.tmp 48)
 (.seq (.tree (.seq ⟨some 2, none, (.ofA (.mv (.cst (.v (.bool false)))))⟩
  .done))
 .ret)
 .skip)))))
 (.tree (.seq ⟨some 49, none, (.ofA (.bin .add (.tmp 21) (.cst (.v (.int .i64 1)))))⟩
  (.seq ⟨some 21, none, (.ofA (.mv (.tmp 49)))⟩
  .done)))))))))
 (.seq (.tree (.seq ⟨some 2, none, (.ofA (.mv (.cst (.v (.bool true)))))⟩
  .done))
 .ret))))
def r45 : List XR := [.tmp 2]
theorem fn45 : FnX Try.prog 45 [] 50 x45 r45 := ⟨_, Try.func45, by kernel_rfl, by kernel_rfl, by kernel_rfl, by kernel_rfl⟩
theorem toList_loop (bs : ByteArray) : ∀ (n i : Nat) (r : List UInt8), bs.size - i = n → i ≤ bs.size → ByteArray.toList.loop bs i r = r.reverse ++ bs.data.toList.drop i
  | 0, i, r, h, hi => by
    unfold ByteArray.toList.loop
    rw [if_neg (by omega), List.drop_of_length_le (by have : bs.data.toList.length = bs.size := Array.length_toList; omega), List.append_nil]
  | n + 1, i, r, h, hi => by
    unfold ByteArray.toList.loop
    have hlt : i < bs.size := by omega
    rw [if_pos hlt, toList_loop bs n (i + 1) _ (by omega) (by omega)]
    have hl : i < bs.data.toList.length := by have : bs.data.toList.length = bs.size := Array.length_toList; omega
    have e : bs.data.toList.drop i = bs.get! i :: bs.data.toList.drop (i + 1) := by
      rw [List.drop_eq_getElem_cons hl]
      congr 1
      have : bs.get! i = bs.data[i]! := rfl
      rw [this]
      simp at hl
      rw [getElem!_pos bs.data i hl]
      simp
    rw [e]
    simp
theorem toList_data (bs : ByteArray) : bs.toList = bs.data.toList := by
  unfold ByteArray.toList
  rw [toList_loop bs _ 0 [] rfl (Nat.zero_le _)]
  simp
theorem toList_inj {a b : ByteArray} : (a.toList == b.toList) = decide (a = b) := by
  rw [toList_data, toList_data, Bool.eq_iff_iff, beq_iff_eq, decide_eq_true_eq]
  constructor
  · intro h
    exact ByteArray.ext (Array.ext' (by simpa using h))
  · rintro rfl; rfl
theorem toList_nil {b : ByteArray} : (b.toList == (⟨#[]⟩ : ByteArray).toList) = (b.size == 0) := by
  rw [toList_inj, Bool.eq_iff_iff, decide_eq_true_eq, beq_iff_eq]
  constructor
  · rintro rfl; rfl
  · intro h; exact ByteArray.size_eq_zero_iff.1 h
theorem ge_of (g : Ge) : SV.of (.agg [.int .i64 g.ch, .int .i64 g.di, .int .i64 g.bl, .int .i64 g.pa].toArray) = .agg [.v (.int .i64 g.ch), .v (.int .i64 g.di), .v (.int .i64 g.bl), .v (.int .i64 g.pa)] := by rw [of_agg]; rfl
def Ge.vs (g : Ge) : List Value := [.int .i64 g.ch, .int .i64 g.di, .int .i64 g.bl, .int .i64 g.pa]
def c53 [Inp] : Trans := fun args m k => ∃ g : Ge, args = [.agg g.sv] ∧ ∀ e : Int, (e = 0 ↔ chkG g = true) → k (.v (.int .i64 e)) m
def inG (g : Ge) : Prop := (1 ≤ g.ch ∧ g.ch ≤ 64) ∧ (1 ≤ g.di ∧ g.di ≤ 64) ∧ (1 ≤ g.bl ∧ g.bl ≤ 64) ∧ (2 ≤ g.pa ∧ g.pa ≤ 16)
theorem chk_in {g : Ge} : chkG g = true ↔ inG g ∧ 3 ≤ g.ch * g.di * g.bl ∧ g.ch * g.di * g.bl ≤ 64 := by
  unfold chkG inG
  simp only [Bool.and_eq_true, decide_eq_true_eq, and_assoc]
theorem in_mul {g : Ge} (h : inG g) : (1 ≤ g.ch * g.di ∧ g.ch * g.di ≤ 4096) ∧ 1 ≤ g.ch * g.di * g.bl ∧ g.ch * g.di * g.bl ≤ 262144 := by
  obtain ⟨⟨a1, a2⟩, ⟨b1, b2⟩, ⟨c1, c2⟩, _⟩ := h
  have p1 : 1 ≤ g.ch * g.di := Int.le_trans (by decide : (1 : Int) ≤ 1 * 1) (Int.mul_le_mul a1 b1 (by omega) (by omega))
  have p2 : g.ch * g.di ≤ 64 * 64 := Int.mul_le_mul a2 b2 (by omega) (by omega)
  have p3 : 1 ≤ g.ch * g.di * g.bl := Int.le_trans (by decide : (1 : Int) ≤ 1 * 1) (Int.mul_le_mul p1 c1 (by omega) (by omega))
  have p4 : g.ch * g.di * g.bl ≤ 64 * 64 * 64 := Int.mul_le_mul p2 c2 (by omega) (by omega)
  omega
theorem c53_ok [I : Inp] : Contract Try.prog 53 true c53 := by
  refine .read fn53 (G := fun _ => []) (fun J => @g0 J _) _ fun args m k h => ?_
  obtain ⟨g, rfl, hk⟩ := h
  refine ⟨by simp, fun J hJ us hus => ?_⟩
  obtain ⟨u, t1, rfl, hk1, rfl⟩ := hus
  obtain rfl := hk1.2.1 g.vs rfl
  rw [List.map_cons, List.map_nil, show SV.of (.agg g.vs.toArray) = _ from ge_of g]
  by_cases hg : inG g
  · obtain ⟨⟨m1, m2⟩, m3, m4⟩ := in_mul hg
    have w1 : IntKind.i64.wrap (g.ch * g.di) = g.ch * g.di := Sz.w_64 (by omega) (by omega)
    have w2 : IntKind.i64.wrap (g.ch * g.di * g.bl) = g.ch * g.di * g.bl := Sz.w_64 (by omega) (by omega)
    have hc := @chk_in g
    unfold inG at hg
    simp (maxSteps := 2000000) -implicitDefEqProofs only [↓x53, ↓r53, w1, w2, gt_iff_lt, s_alt, s_alt20, s_alt2t, s_alt2f, ↓s_loopi, ↓v_pq, ↓PRE, POST, CORE, Nat.reduceDiv, Nat.reduceMod, Int.reduceLT, Int.reduceLE, Int.reduceToNat, Int.reduceAdd, ↓reduceIte, Nat.reduceEqDiff, Nat.reduceAdd, Nat.reduceMul, Nat.reduceSub, Nat.reduceLeDiff, Nat.reduceLT, reduceCtorEq, if_true, eq_self, forall_const, implies_true]
    generalize g.ch * g.di * g.bl = M at w2 m3 m4 hc ⊢
    simp only [decide_eq_true_eq, decide_eq_false_iff_not, Decidable.not_not]
    repeat' split
    all_goals first | (refine hk _ ?_; rw [hc]; unfold inG; omega) | (exfalso; omega)
  · have hc : chkG g = false := by
      cases h : chkG g with
      | false => rfl
      | true => exact (hg (chk_in.1 h).1).elim
    unfold inG at hg
    simp (maxSteps := 2000000) -implicitDefEqProofs only [↓x53, ↓r53, gt_iff_lt, s_alt, s_alt20, s_alt2t, s_alt2f, ↓s_loopi, ↓v_pq, ↓PRE, POST, CORE, Nat.reduceDiv, Nat.reduceMod, Int.reduceLT, Int.reduceLE, Int.reduceToNat, Int.reduceAdd, ↓reduceIte, Nat.reduceEqDiff, Nat.reduceAdd, Nat.reduceMul, Nat.reduceSub, Nat.reduceLeDiff, Nat.reduceLT, reduceCtorEq, if_true, eq_self, forall_const, implies_true]
    simp only [decide_eq_true_eq, decide_eq_false_iff_not, Decidable.not_not]
    repeat' split
    all_goals first | (refine hk _ ?_; rw [hc]; simp; done) | (exfalso; omega)
def c55 [Inp] : Trans := fun args m k => ∃ g : Ge, args = [.agg g.sv] ∧ k (.v (.int .i64 (nB g))) m
theorem g53 [Inp] : GOk Try.prog [⟨53, true, c53⟩] := GOk.cons c53_ok (g0 _)
theorem c55_ok [I : Inp] : Contract Try.prog 55 true c55 := by
  refine .read fn55 (G := fun J => [⟨53, true, @c53 J⟩]) (fun J => @g53 J) _ fun args m k h => ?_
  obtain ⟨g, rfl, hk⟩ := h
  refine ⟨by simp, fun J hJ us hus => ?_⟩
  obtain ⟨u, t1, rfl, hk1, rfl⟩ := hus
  obtain rfl := hk1.2.1 g.vs rfl
  rw [List.map_cons, List.map_nil, show SV.of (.agg g.vs.toArray) = _ from ge_of g]
  simp (maxSteps := 2000000) -implicitDefEqProofs only [↓x55, ↓r55, ↓c53, s_alt, s_alt20, s_alt2t, s_alt2f, ↓s_loopi, ↓v_pq, ↓PRE, POST, CORE, Nat.reduceDiv, Nat.reduceMod, Int.reduceLT, Int.reduceLE, Int.reduceToNat, Int.reduceAdd, ↓reduceIte, Nat.reduceEqDiff, Nat.reduceAdd, Nat.reduceMul, Nat.reduceSub, Nat.reduceLeDiff, Nat.reduceLT, reduceCtorEq, if_true, eq_self, forall_const, implies_true]
  refine ⟨g, rfl, fun e he => ?_⟩
  unfold nB at hk
  by_cases h0 : e = 0
  · subst h0
    have hg := he.1 rfl
    rw [if_pos hg] at hk
    obtain ⟨⟨m1, m2⟩, m3, m4⟩ := in_mul (chk_in.1 hg).1
    have w1 : IntKind.i64.wrap (g.ch * g.di) = g.ch * g.di := Sz.w_64 (by omega) (by omega)
    have w2 : IntKind.i64.wrap (g.ch * g.di * g.bl) = g.ch * g.di * g.bl := Sz.w_64 (by omega) (by omega)
    simp (maxSteps := 2000000) -implicitDefEqProofs only [bne_self_eq_false, Bool.false_eq_true, w1, w2, s_alt, s_alt20, s_alt2t, s_alt2f, ↓s_loopi, ↓v_pq, ↓PRE, POST, CORE, Nat.reduceDiv, Nat.reduceMod, Int.reduceLT, Int.reduceLE, Int.reduceToNat, Int.reduceAdd, ↓reduceIte, Nat.reduceEqDiff, Nat.reduceAdd, Nat.reduceMul, Nat.reduceSub, Nat.reduceLeDiff, Nat.reduceLT, reduceCtorEq, if_true, eq_self, forall_const, implies_true]
    exact hk
  · have hg : ¬ chkG g = true := fun h => h0 (he.2 h)
    rw [if_neg hg] at hk
    have hb : (e != 0) = true := by simpa using h0
    simp (maxSteps := 2000000) -implicitDefEqProofs only [hb, s_alt, s_alt20, s_alt2t, s_alt2f, ↓s_loopi, ↓v_pq, ↓PRE, POST, CORE, Nat.reduceDiv, Nat.reduceMod, Int.reduceLT, Int.reduceLE, Int.reduceToNat, Int.reduceAdd, ↓reduceIte, Nat.reduceEqDiff, Nat.reduceAdd, Nat.reduceMul, Nat.reduceSub, Nat.reduceLeDiff, Nat.reduceLT, reduceCtorEq, if_true, eq_self, forall_const, implies_true]
    exact hk
def c88 [Inp] : Trans := fun args m k => ∃ x : Pg, args = [.agg (x.cs.map .v)] ∧ k (.v (.bool (mayPg x))) m
theorem pg_of (x : Pg) : SV.of (.agg x.cs.toArray) = .agg [.v (.bool x.torn), .v (.string x.beside), .v (.string x.data)] := by rw [of_agg]; rfl
theorem c88_ok [I : Inp] : Contract Try.prog 88 true c88 := by
  refine .read fn88 (G := fun _ => []) (fun J => @g0 J _) _ fun args m k h => ?_
  obtain ⟨x, rfl, hk⟩ := h
  refine ⟨by simp, fun J hJ us hus => ?_⟩
  obtain ⟨u, t1, rfl, hk1, rfl⟩ := hus
  obtain rfl := hk1.2.1 _ rfl
  rw [List.map_cons, List.map_nil, pg_of]
  unfold mayPg at hk
  cases ht : x.torn with
  | true =>
    rw [if_pos ht] at hk
    simp (maxSteps := 2000000) -implicitDefEqProofs only [↓x88, ↓r88, ht, toList_nil, beq_self_eq_true, Bool.true_and, Bool.and_true, s_alt, s_alt20, s_alt2t, s_alt2f, ↓s_loopi, ↓v_pq, ↓PRE, POST, CORE, Nat.reduceDiv, Nat.reduceMod, Int.reduceLT, Int.reduceLE, Int.reduceToNat, Int.reduceAdd, ↓reduceIte, Nat.reduceEqDiff, Nat.reduceAdd, Nat.reduceMul, Nat.reduceSub, Nat.reduceLeDiff, Nat.reduceLT, reduceCtorEq, if_true, eq_self, forall_const, implies_true]
    exact hk
  | false =>
    rw [if_neg (by rw [ht]; simp)] at hk
    by_cases h1 : x.beside.size ≤ 32
    · have h1' : (x.beside.size : Int) ≤ 32 := by omega
      have e1 : decide (x.beside.size ≤ 32) = true := by simpa using h1
      rw [e1, Bool.true_and] at hk
      have e2 : decide ((x.data.size : Int) ≤ 160) = decide (x.data.size ≤ 160) := by
        rw [Bool.eq_iff_iff, decide_eq_true_eq, decide_eq_true_eq]; omega
      simp (maxSteps := 2000000) -implicitDefEqProofs only [↓x88, ↓r88, ht, h1', Bool.false_eq_true, s_alt, s_alt20, s_alt2t, s_alt2f, ↓s_loopi, ↓v_pq, ↓PRE, POST, CORE, Nat.reduceDiv, Nat.reduceMod, Int.reduceLT, Int.reduceLE, Int.reduceToNat, Int.reduceAdd, ↓reduceIte, Nat.reduceEqDiff, Nat.reduceAdd, Nat.reduceMul, Nat.reduceSub, Nat.reduceLeDiff, Nat.reduceLT, reduceCtorEq, if_true, eq_self, forall_const, implies_true]
      rw [e2]
      exact hk
    · have h1' : ¬ (x.beside.size : Int) ≤ 32 := by omega
      have e1 : decide (x.beside.size ≤ 32) = false := by simpa using h1
      rw [e1, Bool.false_and] at hk
      simp (maxSteps := 2000000) -implicitDefEqProofs only [↓x88, ↓r88, ht, h1', Bool.false_eq_true, s_alt, s_alt20, s_alt2t, s_alt2f, ↓s_loopi, ↓v_pq, ↓PRE, POST, CORE, Nat.reduceDiv, Nat.reduceMod, Int.reduceLT, Int.reduceLE, Int.reduceToNat, Int.reduceAdd, ↓reduceIte, Nat.reduceEqDiff, Nat.reduceAdd, Nat.reduceMul, Nat.reduceSub, Nat.reduceLeDiff, Nat.reduceLT, reduceCtorEq, if_true, eq_self, forall_const, implies_true]
      exact hk
def c87 [Inp] : Trans := fun args m k => ∃ x : Pg, args = [.agg (x.cs.map .v)] ∧ k (.v (.bool (!mayPg x))) m
theorem g88 [Inp] : GOk Try.prog [⟨88, true, c88⟩] := GOk.cons c88_ok (g0 _)
theorem c87_ok [I : Inp] : Contract Try.prog 87 true c87 := by
  refine .read fn87 (G := fun J => [⟨88, true, @c88 J⟩]) (fun J => @g88 J) _ fun args m k h => ?_
  obtain ⟨x, rfl, hk⟩ := h
  refine ⟨by simp, fun J hJ us hus => ?_⟩
  obtain ⟨u, t1, rfl, hk1, rfl⟩ := hus
  obtain rfl := hk1.2.1 _ rfl
  rw [List.map_cons, List.map_nil, pg_of]
  simp (maxSteps := 2000000) -implicitDefEqProofs only [↓x87, ↓r87, ↓c88, s_alt, s_alt20, s_alt2t, s_alt2f, ↓s_loopi, ↓v_pq, ↓PRE, POST, CORE, Nat.reduceDiv, Nat.reduceMod, Int.reduceLT, Int.reduceLE, Int.reduceToNat, Int.reduceAdd, ↓reduceIte, Nat.reduceEqDiff, Nat.reduceAdd, Nat.reduceMul, Nat.reduceSub, Nat.reduceLeDiff, Nat.reduceLT, reduceCtorEq, if_true, eq_self, forall_const, implies_true]
  exact ⟨x, rfl, hk⟩
def c122 [Inp] : Trans := fun args m k => match args with
  | [.v (.slice p n c), .fn 87 []] => ∃ ps : List Pg, inpL p (n * 3) = some (rowV Pg.cs ps) ∧ ps.length = n ∧ n ≤ 9223372036854775807 ∧ ∀ r : Int, (0 ≤ r ↔ ps.all mayPg = false) → k (.v (.int .i64 r)) m
  | _ => False
theorem g87 [Inp] : GOk Try.prog [⟨87, true, c87⟩] := GOk.cons c87_ok (g0 _)
theorem c122_ok [I : Inp] : Contract Try.prog 122 true c122 := by
  refine .readGf fn122 (G := fun J => [⟨87, true, @c87 J⟩]) (fun J => @g87 J) _ fun args m k h => ?_
  unfold c122 at h
  split at h
  case h_2 => exact h.elim
  rename_i p n c
  obtain ⟨ls, hin0, rfl, hn, hk⟩ := h
  refine ⟨by simp, fun J hJ K hK us hus => ?_⟩
  obtain ⟨u, t1, rfl, hk1, u2, t2, rfl, hk2, rfl⟩ := hus
  have hin := hK.inp _ _ _ hin0
  obtain rfl := hK.v _ _ hk1
  show @evX J _ _ _ _ _ (slots (argSlots 0 [.v (.slice p ls.length c), .fn 87 []])) [] _
  have hitem : ∀ (i : Nat) (x : Pg), ls[i]? = some x → inpL (plusA p (i * 3)) 3 = some x.cs := fun i x hx => inp_item Pg.len hin rfl hx
  simp (maxSteps := 2000000) -implicitDefEqProofs only [↓x122, ↓r122, s_alt, s_alt20, s_alt2t, s_alt2f, ↓s_loopi, ↓v_pq, ↓PRE, POST, CORE, Nat.reduceDiv, Nat.reduceMod, Int.reduceLT, Int.reduceLE, Int.reduceToNat, Int.reduceAdd, ↓reduceIte, Nat.reduceEqDiff, Nat.reduceAdd, Nat.reduceMul, Nat.reduceSub, Nat.reduceLeDiff, Nat.reduceLT, reduceCtorEq, if_true, eq_self, forall_const, implies_true]
  refine TXi_of (TX_count (@g87 J) ls.length (fun x => [(0, .v (.slice p ls.length c)), (1, .fn 87 []), (6, .v (.slice p ls.length c)), (7, .v (.int .i64 ls.length)), (8, .v (.int .i64 (x : Int)))]) (fun _ => []) (fun x => (ls.take x).all mayPg = true) rfl (by refine ⟨[], by simp [NdL, NdA, oO_cells, oO_own, iL_nil], ?_, ?_, keep0 hJ⟩ <;> simp only [FitM, FitE, ObLe, LeL, Le, List.cons_append, List.nil_append] <;> (try (simp (maxSteps := 2000000) -implicitDefEqProofs only [LeL, s_alt, s_alt20, s_alt2t, s_alt2f, ↓s_loopi, ↓v_pq, ↓PRE, POST, CORE, Nat.reduceDiv, Nat.reduceMod, Int.reduceLT, Int.reduceLE, Int.reduceToNat, Int.reduceAdd, ↓reduceIte, Nat.reduceEqDiff, Nat.reduceAdd, Nat.reduceMul, Nat.reduceSub, Nat.reduceLeDiff, Nat.reduceLT, reduceCtorEq, if_true, eq_self, forall_const, implies_true])) <;> (try simp only [Sz.Le, Sz.LeL, List.getElem?_cons_zero, List.getElem?_cons_succ]) <;> (try simp)) ?_ ?_)
  · intro x hx hI
    obtain ⟨d, hd⟩ : ∃ d, ls[x]? = some d := ⟨_, List.getElem?_eq_getElem hx⟩
    have f : inpL (plusA p (x * 3)) 3 = some [.bool d.torn, .string d.beside, .string d.data] := hitem x d hd
    have hp : p.isSome = true := inpL_isSome hin (by omega)
    have i0 : (0 : Int) ≤ (x : Int) := by omega
    have i1 : (x : Int) < (ls.length : Int) := by omega
    have w1 : IntKind.i64.wrap ((x : Int) + 1) = (x : Int) + 1 := Sz.w_64 (by omega) (by omega)
    simp (maxSteps := 2000000) -implicitDefEqProofs only [f, hp, i0, i1, w1, ↓c87, s_alt, s_alt20, s_alt2t, s_alt2f, ↓s_loopi, ↓v_pq, ↓PRE, POST, CORE, Nat.reduceDiv, Nat.reduceMod, Int.reduceLT, Int.reduceLE, Int.reduceToNat, Int.reduceAdd, ↓reduceIte, Nat.reduceEqDiff, Nat.reduceAdd, Nat.reduceMul, Nat.reduceSub, Nat.reduceLeDiff, Nat.reduceLT, reduceCtorEq, if_true, eq_self, forall_const, implies_true]
    refine ⟨d, rfl, ?_⟩
    cases ho : mayPg d with
    | true =>
      simp (maxSteps := 2000000) -implicitDefEqProofs only [w1, s_alt, s_alt20, s_alt2t, s_alt2f, ↓s_loopi, ↓v_pq, ↓PRE, POST, CORE, Nat.reduceDiv, Nat.reduceMod, Int.reduceLT, Int.reduceLE, Int.reduceToNat, Int.reduceAdd, ↓reduceIte, Nat.reduceEqDiff, Nat.reduceAdd, Nat.reduceMul, Nat.reduceSub, Nat.reduceLeDiff, Nat.reduceLT, reduceCtorEq, if_true, eq_self, forall_const, implies_true]
      exact ⟨by rw [all_snoc _ hd, hI, ho]; rfl, (by refine ⟨[], by simp [NdL, NdA, oO_cells, oO_own, iL_nil], ?_, ?_, keep0 hJ⟩ <;> simp only [FitM, FitE, ObLe, LeL, Le, List.cons_append, List.nil_append] <;> (try (simp (maxSteps := 2000000) -implicitDefEqProofs only [LeL, s_alt, s_alt20, s_alt2t, s_alt2f, ↓s_loopi, ↓v_pq, ↓PRE, POST, CORE, Nat.reduceDiv, Nat.reduceMod, Int.reduceLT, Int.reduceLE, Int.reduceToNat, Int.reduceAdd, ↓reduceIte, Nat.reduceEqDiff, Nat.reduceAdd, Nat.reduceMul, Nat.reduceSub, Nat.reduceLeDiff, Nat.reduceLT, reduceCtorEq, if_true, eq_self, forall_const, implies_true])) <;> (try simp only [Sz.Le, Sz.LeL, List.getElem?_cons_zero, List.getElem?_cons_succ]) <;> (try simp))⟩
    | false =>
      simp (maxSteps := 2000000) -implicitDefEqProofs only [s_alt, s_alt20, s_alt2t, s_alt2f, ↓s_loopi, ↓v_pq, ↓PRE, POST, CORE, Nat.reduceDiv, Nat.reduceMod, Int.reduceLT, Int.reduceLE, Int.reduceToNat, Int.reduceAdd, ↓reduceIte, Nat.reduceEqDiff, Nat.reduceAdd, Nat.reduceMul, Nat.reduceSub, Nat.reduceLeDiff, Nat.reduceLT, reduceCtorEq, if_true, eq_self, forall_const, implies_true]
      have : ls.all mayPg = false := all_bad hd ho
      exact hk _ (by rw [this]; simp)
  · intro hI
    have i1 : ¬ (ls.length : Int) < (ls.length : Int) := by omega
    rw [List.take_length] at hI
    simp (maxSteps := 2000000) -implicitDefEqProofs only [i1, s_alt, s_alt20, s_alt2t, s_alt2f, ↓s_loopi, ↓v_pq, ↓PRE, POST, CORE, Nat.reduceDiv, Nat.reduceMod, Int.reduceLT, Int.reduceLE, Int.reduceToNat, Int.reduceAdd, ↓reduceIte, Nat.reduceEqDiff, Nat.reduceAdd, Nat.reduceMul, Nat.reduceSub, Nat.reduceLeDiff, Nat.reduceLT, reduceCtorEq, if_true, eq_self, forall_const, implies_true]
    exact hk _ (by rw [hI]; simp)
def c86 [Inp] : Trans := fun args m k => match args with
  | [.v (.slice p n c), .fn 87 []] => ∃ ps : List Pg, inpL p (n * 3) = some (rowV Pg.cs ps) ∧ ps.length = n ∧ n ≤ 9223372036854775807 ∧ k (.v (.bool (!ps.all mayPg))) m
  | _ => False
theorem g122 [Inp] : GOk Try.prog [⟨122, true, c122⟩] := GOk.cons c122_ok (g0 _)
theorem c86_ok [I : Inp] : Contract Try.prog 86 true c86 := by
  refine .readGf fn86 (G := fun J => [⟨122, true, @c122 J⟩]) (fun J => @g122 J) _ fun args m k h => ?_
  unfold c86 at h
  split at h
  case h_2 => exact h.elim
  rename_i p n c
  obtain ⟨ls, hin0, rfl, hn, hk⟩ := h
  refine ⟨by simp, fun J hJ K hK us hus => ?_⟩
  obtain ⟨u, t1, rfl, hk1, u2, t2, rfl, hk2, rfl⟩ := hus
  have hin := hK.inp _ _ _ hin0
  obtain rfl := hK.v _ _ hk1
  show @evX J _ _ _ _ _ (slots (argSlots 0 [.v (.slice p ls.length c), .fn 87 []])) [] _
  simp (maxSteps := 2000000) -implicitDefEqProofs only [↓x86, ↓r86, ↓c122, s_alt, s_alt20, s_alt2t, s_alt2f, ↓s_loopi, ↓v_pq, ↓PRE, POST, CORE, Nat.reduceDiv, Nat.reduceMod, Int.reduceLT, Int.reduceLE, Int.reduceToNat, Int.reduceAdd, ↓reduceIte, Nat.reduceEqDiff, Nat.reduceAdd, Nat.reduceMul, Nat.reduceSub, Nat.reduceLeDiff, Nat.reduceLT, reduceCtorEq, if_true, eq_self, forall_const, implies_true]
  refine ⟨ls, hin, rfl, hn, fun r hr => ?_⟩
  have e : decide (r ≥ 0) = !ls.all mayPg := by
    cases ha : ls.all mayPg with
    | true => rw [ha] at hr; simpa using hr
    | false => rw [ha] at hr; simpa using hr
  rw [e]
  exact hk
end Go.Proofs.Ytibefgdjijmncaa
end
section
namespace Go.Proofs.Ytibefgdjijmncaa
open Go.RowKit Sz
set_option maxHeartbeats 4000000
set_option maxRecDepth 20000
-- almshouse/word.Text (2 parameters)
def x49 : XC := (.seq (.tree (.seq ⟨some 4, none, (.ofA (.mv (.cst (.v (.slice none 0 0)))))⟩
  .done))
 (.seq (.seq (.tree (.seq ⟨some 5, none, (.ofA (.mv (.tmp 1)))⟩
  (.seq ⟨some 6, none, (.ofA (.lens (.tmp 5)))⟩
  (.seq ⟨some 7, none, (.ofA (.bin .gtr (.tmp 6) (.cst (.v (.int .i64 65535)))))⟩
  .done))))
 (.cond (.tmp 7)
 (.seq (.tree (.seq ⟨some 8, none, (.ofA (.mv (.tmp 0)))⟩
  (.seq ⟨some 9, none, (.call (.cst (.fn 90 [])) [(.tmp 8)])⟩
  (.seq ⟨some 4, none, (.ofA (.mv (.tmp 9)))⟩
  .done))))
 .ret)
 .skip))
 (.seq (.tree (.seq ⟨some 10, none, (.ofA (.mv (.tmp 0)))⟩
  (.seq ⟨some 11, none, (.ofA (.mv (.tmp 1)))⟩
  (.seq ⟨some 12, none, (.ofA (.lens (.tmp 11)))⟩
  (.seq ⟨some 13, none, (.call (.cst (.fn 46 [])) [(.tmp 10), (.tmp 12), (.cst (.v (.int .i64 2)))])⟩
  (.seq ⟨some 14, none, (.ofA (.mv (.tmp 1)))⟩
  (.seq ⟨some 15, none, (.apps 1 (.tmp 13) (.tmp 14))⟩
  (.seq ⟨some 4, none, (.ofA (.mv (.tmp 15)))⟩
  .done))))))))
 .ret)))
def r49 : List XR := [.tmp 4]
theorem fn49 : FnX Try.prog 49 [] 16 x49 r49 := ⟨_, Try.func49, by kernel_rfl, by kernel_rfl, by kernel_rfl, by kernel_rfl⟩
def strL (s : ByteArray) : List Int := s.data.toList.map fun x => (x.toNat : Int)
theorem bytesC_bL (s : ByteArray) : bytesC s = bL (strL s) := by simp [bytesC, bL, strL, List.map_map, Function.comp_def]
theorem strL_len (s : ByteArray) : (strL s).length = s.size := by simp [strL]
def textF (bs : List Int) (t : ByteArray) : List Int := if 65535 < (t.size : Int) then bs else putF bs t.size 2 ++ strL t
theorem fits2 {v : Int} (h0 : 0 ≤ v) (h1 : v ≤ 65535) : fitsF v 2 = true := by
  unfold fitsF sizedF
  have e : (2 : Int) ^ (min (8 * 2 : Int).toNat IntKind.i64.bits) = 65536 := by decide
  rw [e, Int.fdiv_eq_ediv_of_nonneg _ (by omega)]
  have : v / 65536 = 0 := by omega
  rw [this]
  rfl
def c49 [Inp] : Trans := fun args m k => match args with
  | [s, .v (.string t)] => ∃ bs : List Int, rdN m s bs ∧ bs.length ≤ 800000 ∧ k (rowS m.length (textF bs t)) (m ++ rowM (textF bs t))
  | _ => False
def G137 [Inp] : List CEntry := [⟨46, true, c46⟩, ⟨90, true, c90⟩]
theorem g49 [Inp] : GOk Try.prog G137 := GOk.cons c46_ok (GOk.cons c90_ok (g0 _))
theorem fin_row {k : SV → Mem → Prop} {m : Mem} (L : List Int) (m' : Mem) (s : SV) (j : Nat) (h1 : L = [] → s = .v (.slice none 0 0)) (h2 : L ≠ [] → s = .row j 0 L.length 1 ∧ m'[j]? = some ⟨true, bL L⟩) (h3 : k (rowS m.length L) (m ++ rowM L)) :
    ∃ (g2 : List Nat) (s2 : SV) (m2 : Mem), g2.Nodup ∧ FitM g2 m' g2 m2 ∧ (∀ o ∈ m2, o.own = true) ∧ Le g2 s2 s ∧ k (s2.up m.length) (m ++ m2.map (SObj.up m.length)) := by
  by_cases hL : L = []
  · subst hL
    rw [h1 rfl]
    refine ⟨[], .v (.slice none 0 0), [], by simp, trivial, by simp, by simp only [Le], ?_⟩
    simpa [SV.up, rowS, rowM] using h3
  · obtain ⟨rfl, hm⟩ := h2 hL
    refine ⟨[j], .row 0 0 L.length 1, [⟨true, bL L⟩], by simp, ?_, by simp, by simp only [Le]; rfl, ?_⟩
    · simp [FitM, ObLe, bL_le, hm]
    · simpa [SV.up, SObj.up, bL_up, rowS, rowM, hL] using h3
theorem c49_ok [Inp] : Contract Try.prog 49 true c49 := by
  refine .readF fn49 (G := fun J => @G137 J) (fun J => @g49 J) _ fun args m k h => ?_
  unfold c49 at h
  split at h
  case h_2 => exact h.elim
  rename_i b t
  obtain ⟨bs, ⟨hb, hnil⟩, hmax, hk⟩ := h
  refine ⟨by simp, fun J hJ us hus => ?_⟩
  obtain ⟨u, t1, rfl, hk1, u2, t2, rfl, hk2, rfl⟩ := hus
  obtain rfl := hk2.1 _ rfl
  obtain ⟨p, c, rfl, hin⟩ := rdB_knows hb hk1
  have hr : ∀ m, rdB m (.v (.slice p bs.length c)) = some bs := fun m => rdB_v hin
  have hsl : bs = [] → SV.v (.slice p bs.length c) = .v (.slice none 0 0) := fun he => by
    have := hk1.1 _ (hnil he)
    rw [this]
  by_cases ht : 65535 < (t.size : Int)
  · have e : textF bs t = bs := if_pos ht
    rw [e] at hk
    simp (maxSteps := 2000000) -implicitDefEqProofs only [↓x49, ↓r49, ↓G137, ↓c46, ↓c90, ht, s_alt, s_alt20, s_alt2t, s_alt2f, ↓s_loopi, ↓v_pq, ↓PRE, POST, CORE, Nat.reduceDiv, Nat.reduceMod, Int.reduceLT, Int.reduceLE, Int.reduceToNat, Int.reduceAdd, ↓reduceIte, Nat.reduceEqDiff, Nat.reduceAdd, Nat.reduceMul, Nat.reduceSub, Nat.reduceLeDiff, Nat.reduceLT, reduceCtorEq, if_true, eq_self, forall_const, implies_true]
    refine ⟨bs, hr _, by omega, ?_⟩
    split
    · rename_i he
      exact ⟨hsl he, fin_row bs _ _ 0 hsl (fun h => (h he).elim) hk⟩
    · rename_i he
      exact fin_row bs _ _ 0 (fun h => (he h).elim) (fun _ => ⟨rfl, rfl⟩) hk
  · have e : textF bs t = putF bs t.size 2 ++ strL t := if_neg ht
    rw [e] at hk
    have ep : putF bs (t.size : Int) 2 = bs ++ leF 2 t.size := by unfold putF; rw [fits2 (by omega) (by omega)]; rfl
    have hne : ¬ putF bs (t.size : Int) 2 = [] := by rw [ep]; intro h; have := congrArg List.length h; simp [leF_len] at this
    have hpl : (putF bs (t.size : Int) 2).length = bs.length + 2 := by rw [ep]; simp [leF_len]
    simp (maxSteps := 2000000) -implicitDefEqProofs only [↓x49, ↓r49, ↓G137, ↓c46, ↓c90, ht, s_alt, s_alt20, s_alt2t, s_alt2f, ↓s_loopi, ↓v_pq, ↓PRE, POST, CORE, Nat.reduceDiv, Nat.reduceMod, Int.reduceLT, Int.reduceLE, Int.reduceToNat, Int.reduceAdd, ↓reduceIte, Nat.reduceEqDiff, Nat.reduceAdd, Nat.reduceMul, Nat.reduceSub, Nat.reduceLeDiff, Nat.reduceLT, reduceCtorEq, if_true, eq_self, forall_const, implies_true]
    refine ⟨bs, ⟨hr _, hsl⟩, by omega, ?_⟩
    generalize putF bs (t.size : Int) 2 = L at hk hne hpl ⊢
    have b1 := bL_len L
    have b3 : List.take L.length (bL L) = bL L := List.take_of_length_le (by rw [b1]; exact Nat.le_refl _)
    have hs0 := strL_len t
    simp only [rowS, rowM, hne, if_false]
    simp (maxSteps := 2000000) -implicitDefEqProofs only [b1, b3, bytesC_bL, s_alt, s_alt20, s_alt2t, s_alt2f, ↓s_loopi, ↓v_pq, ↓PRE, POST, CORE, Nat.reduceDiv, Nat.reduceMod, Int.reduceLT, Int.reduceLE, Int.reduceToNat, Int.reduceAdd, ↓reduceIte, Nat.reduceEqDiff, Nat.reduceAdd, Nat.reduceMul, Nat.reduceSub, Nat.reduceLeDiff, Nat.reduceLT, reduceCtorEq, if_true, eq_self, forall_const, implies_true]
    split
    · rename_i h0
      have : strL t = [] := List.length_eq_zero_iff.1 (by omega)
      rw [this, List.append_nil] at hk
      exact fin_row L _ _ 0 (fun h => (hne h).elim) (fun _ => ⟨rfl, rfl⟩) hk
    · refine ⟨⟨by unfold maxLen; omega, by omega⟩, ?_⟩
      have e3 : bL L ++ bL (strL t) = bL (L ++ strL t) := by simp [bL]
      have e4 : L.length + t.size = (L ++ strL t).length := by simp [hs0]
      rw [e3, e4]
      exact fin_row (L ++ strL t) _ _ 1 (fun h => (hne (List.append_eq_nil_iff.1 h).1).elim) (fun _ => ⟨rfl, rfl⟩) hk
end Go.Proofs.Ytibefgdjijmncaa
end
section
namespace Go.Proofs.Ytibefgdjijmncaa
open Go.RowKit Sz
set_option maxHeartbeats 4000000
set_option maxRecDepth 20000
-- almshouse/frame.Make (2 parameters)
def x92 : XC := (.seq (.tree (.seq ⟨some 4, none, (.ofA (.mv (.cst (.v (.slice none 0 0)))))⟩
  (.seq ⟨some 5, none, (.ofA (.mv (.cst (.v (.int .i64 0)))))⟩
  .done)))
 (.seq (.block 0 (.seq (.tree (.seq ⟨some 8, none, (.ofA (.mv (.tmp 0)))⟩
  (.seq ⟨some 9, none, (.call (.cst (.fn 91 [])) [(.tmp 8), (.cst (.v (.int .i64 1)))])⟩
  (.seq ⟨some 10, none, (.ofA (.un .not (.tmp 9)))⟩
  (.seq ⟨some 7, none, (.ofA (.mv (.tmp 10)))⟩
  .done)))))
 (.cond (.tmp 7)
 (.seq (.tree (.seq ⟨some 4, none, (.ofA (.mv (.cst (.v (.slice none 0 0)))))⟩
  (.seq ⟨some 5, none, (.ofA (.mv (.cst (.v (.int .i64 1)))))⟩
  .done)))
 .ret)
 (.seq (.tree (.seq ⟨some 12, none, (.ofA (.mv (.tmp 1)))⟩
  (.seq ⟨some 13, none, (.ofA (.len (.tmp 12)))⟩
  (.seq ⟨some 14, none, (.ofA (.bin .gtr (.tmp 13) (.cst (.v (.int .i64 65535)))))⟩
  (.seq ⟨some 11, none, (.ofA (.mv (.tmp 14)))⟩
  .done)))))
 (.cond (.tmp 11)
 (.seq (.tree (.seq ⟨some 4, none, (.ofA (.mv (.cst (.v (.slice none 0 0)))))⟩
  (.seq ⟨some 5, none, (.ofA (.mv (.cst (.v (.int .i64 3)))))⟩
  .done)))
 .ret)
 .skip)))))
 (.seq (.tree (.seq ⟨some 15, none, (.ofA (.mv (.tmp 0)))⟩
  (.seq ⟨some 16, none, (.call (.cst (.fn 46 [])) [(.cst (.v (.slice none 0 0))), (.tmp 15), (.cst (.v (.int .i64 1)))])⟩
  (.seq ⟨some 17, none, (.ofA (.mv (.tmp 1)))⟩
  (.seq ⟨some 18, none, (.ofA (.len (.tmp 17)))⟩
  (.seq ⟨some 19, none, (.call (.cst (.fn 46 [])) [(.tmp 16), (.tmp 18), (.cst (.v (.int .i64 2)))])⟩
  (.seq ⟨some 20, none, (.ofA (.mv (.tmp 1)))⟩
  (.seq ⟨some 21, none, (.app 1 1 (.tmp 19) (.tmp 20))⟩
  (.seq ⟨some 6, none, (.ofA (.mv (.tmp 21)))⟩
  .done)))))))))
 (.seq (.tree (.seq ⟨some 22, none, (.ofA (.mv (.tmp 6)))⟩
  (.seq ⟨some 23, none, (.ofA (.mv (.tmp 6)))⟩
  (.seq ⟨some 24, none, (.call (.cst (.fn 123 [])) [(.tmp 23)])⟩
  (.seq ⟨some 25, none, (.ofA (.conv .i64 (.tmp 24)))⟩
  (.seq ⟨some 26, none, (.call (.cst (.fn 46 [])) [(.tmp 22), (.tmp 25), (.cst (.v (.int .i64 4)))])⟩
  (.seq ⟨some 4, none, (.ofA (.mv (.tmp 26)))⟩
  (.seq ⟨some 5, none, (.ofA (.mv (.cst (.v (.int .i64 0)))))⟩
  .done))))))))
 .ret))))
def r92 : List XR := [.tmp 4, .tmp 5]
theorem fn92 : FnX Try.prog 92 [] 27 x92 r92 := ⟨_, Try.func92, by kernel_rfl, by kernel_rfl, by kernel_rfl, by kernel_rfl⟩
def headF (kind : Int) (body : List Int) : List Int := putF (putF [] kind 1) body.length 2 ++ body
def frameF (kind : Int) (body : List Int) : List Int := putF (headF kind body) (IntKind.i64.wrap (sumF 0 (headF kind body))) 4
def c92 [Inp] : Trans := fun args m k => match args with
  | [.v (.int .i64 kind), b] => ∃ bs : List Int, rdB m b = some bs ∧ bs.length ≤ 700000 ∧
      (if fitsF kind 1 = false then k (.tup [.v (.slice none 0 0), .v (.int .i64 1)]) m
       else if 65535 < (bs.length : Int) then k (.tup [.v (.slice none 0 0), .v (.int .i64 3)]) m
       else k (.tup [.row m.length 0 (frameF kind bs).length 1, .v (.int .i64 0)]) (m ++ [⟨true, bL (frameF kind bs)⟩]))
  | _ => False
def G189 [Inp] : List CEntry := [⟨46, true, c46⟩, ⟨91, true, c91⟩, ⟨123, true, c123⟩]
theorem g92 [Inp] : GOk Try.prog G189 := GOk.cons c46_ok (GOk.cons c91_ok (GOk.cons c123_ok (g0 _)))
theorem rdB_row [Inp] {m : Mem} {j n : Nat} {L : List Int} (hm : m[j]? = some ⟨true, bL L⟩) (hn : n = L.length) : rdB m (.row j 0 n 1) = some L := by
  subst hn
  unfold rdB
  have b1 := bL_len L
  have b3 : List.take L.length (bL L) = bL L := List.take_of_length_le (by rw [b1]; exact Nat.le_refl _)
  simp only [slOf, if_true, hm, Nat.mul_one, Nat.zero_add, b1, Nat.le_refl, List.drop_zero, b3, Option.bind_some, decB_bL]
theorem c92_ok [Inp] : Contract Try.prog 92 true c92 := by
  refine .readF fn92 (G := fun J => @G189 J) (fun J => @g92 J) _ fun args m k h => ?_
  unfold c92 at h
  split at h
  case h_2 => exact h.elim
  rename_i kind b
  obtain ⟨bs, hb, hmax, hk⟩ := h
  refine ⟨by simp, fun J hJ us hus => ?_⟩
  obtain ⟨u, t1, rfl, hk1, u2, t2, rfl, hk2, rfl⟩ := hus
  obtain rfl := hk1.1 _ rfl
  obtain ⟨p, c, rfl, hin⟩ := rdB_knows hb hk2
  have nilR : ∀ (e : Int) (m' : Mem), k (.tup [.v (.slice none 0 0), .v (.int .i64 e)]) m →
      ∃ (g2 : List Nat) (s2 : SV) (m2 : Mem), g2.Nodup ∧ FitM g2 m' g2 m2 ∧ (∀ o ∈ m2, o.own = true) ∧ Le g2 s2 (.tup [.v (.slice none 0 0), .v (.int .i64 e)]) ∧ k (s2.up m.length) (m ++ m2.map (SObj.up m.length)) := fun e m' h =>
    ⟨[], .tup [.v (.slice none 0 0), .v (.int .i64 e)], [], by simp, trivial, by simp, by simp [Le, LeL], by simpa [SV.up, upL] using h⟩
  cases hf : fitsF kind 1 with
  | false =>
    rw [if_pos hf] at hk
    simp (maxSteps := 2000000) -implicitDefEqProofs only [↓x92, ↓r92, ↓G189, ↓c46, ↓c91, ↓c123, hf, s_alt, s_alt20, s_alt2t, s_alt2f, ↓s_loopi, ↓v_pq, ↓PRE, POST, CORE, Nat.reduceDiv, Nat.reduceMod, Int.reduceLT, Int.reduceLE, Int.reduceToNat, Int.reduceAdd, ↓reduceIte, Nat.reduceEqDiff, Nat.reduceAdd, Nat.reduceMul, Nat.reduceSub, Nat.reduceLeDiff, Nat.reduceLT, reduceCtorEq, if_true, eq_self, forall_const, implies_true]
    exact nilR _ _ hk
  | true =>
    rw [if_neg (by simp [hf])] at hk
    by_cases hl : 65535 < (bs.length : Int)
    · rw [if_pos hl] at hk
      simp (maxSteps := 2000000) -implicitDefEqProofs only [↓x92, ↓r92, ↓G189, ↓c46, ↓c91, ↓c123, hf, hl, s_alt, s_alt20, s_alt2t, s_alt2f, ↓s_loopi, ↓v_pq, ↓PRE, POST, CORE, Nat.reduceDiv, Nat.reduceMod, Int.reduceLT, Int.reduceLE, Int.reduceToNat, Int.reduceAdd, ↓reduceIte, Nat.reduceEqDiff, Nat.reduceAdd, Nat.reduceMul, Nat.reduceSub, Nat.reduceLeDiff, Nat.reduceLT, reduceCtorEq, if_true, eq_self, forall_const, implies_true]
      exact nilR _ _ hk
    · rw [if_neg hl] at hk
      simp (maxSteps := 2000000) -implicitDefEqProofs only [↓x92, ↓r92, ↓G189, ↓c46, ↓c91, ↓c123, hf, hl, s_alt, s_alt20, s_alt2t, s_alt2f, ↓s_loopi, ↓v_pq, ↓PRE, POST, CORE, Nat.reduceDiv, Nat.reduceMod, Int.reduceLT, Int.reduceLE, Int.reduceToNat, Int.reduceAdd, ↓reduceIte, Nat.reduceEqDiff, Nat.reduceAdd, Nat.reduceMul, Nat.reduceSub, Nat.reduceLeDiff, Nat.reduceLT, reduceCtorEq, if_true, eq_self, forall_const, implies_true]
      refine ⟨[], ⟨rfl, fun _ => rfl⟩, by simp, ?_⟩
      have eA : putF [] kind 1 = leF 1 kind := by unfold putF; rw [hf]; rfl
      have lA : (putF [] kind 1).length = 1 := by rw [eA, leF_len]
      have hH : headF kind bs = putF (putF [] kind 1) bs.length 2 ++ bs := rfl
      have hR : frameF kind bs = putF (headF kind bs) (IntKind.i64.wrap (sumF 0 (headF kind bs))) 4 := rfl
      rw [hR] at hk
      rw [hH] at hk
      generalize putF [] kind 1 = A at lA hk ⊢
      have hA : ¬ A = [] := fun h => by rw [h] at lA; cases lA
      have eB : putF A (bs.length : Int) 2 = A ++ leF 2 bs.length := by unfold putF; rw [fits2 (by omega) (by omega)]; rfl
      have lB : (putF A (bs.length : Int) 2).length = 3 := by rw [eB]; simp [leF_len, lA]
      simp only [rowS, rowM, hA, if_false]
      refine ⟨A, ⟨rdB_row rfl rfl, fun h => absurd h hA⟩, by omega, ?_⟩
      generalize putF A (bs.length : Int) 2 = B at lB hk ⊢
      have hB : ¬ B = [] := fun h => by rw [h] at lB; cases lB
      simp only [hB, if_false]
      have b1 := bL_len B
      have b3 : List.take B.length (bL B) = bL B := List.take_of_length_le (by rw [b1]; exact Nat.le_refl _)
      have c1 := bL_len bs
      have c2 := bL_one bs
      have finR : ∀ (H : List Int) (m' : Mem) (j : Nat), H ≠ [] → H.length ≤ 800000 → m'[j]? = some ⟨true, bL H⟩ →
          k (.tup [.row m.length 0 (putF H (IntKind.i64.wrap (sumF 0 H)) 4).length 1, .v (.int .i64 0)]) (m ++ [⟨true, bL (putF H (IntKind.i64.wrap (sumF 0 H)) 4)⟩]) →
          ∃ bs, rdB m' (.row j 0 H.length 1) = some bs ∧ bs.length ≤ 9223372036854775807 ∧ ∃ bs_3, rdN m' (.row j 0 H.length 1) bs_3 ∧ bs_3.length ≤ 900000 ∧
            ∃ (g2 : List Nat) (s2 : SV) (m2 : Mem), g2.Nodup ∧ FitM g2 (m' ++ rowM (putF bs_3 (IntKind.i64.wrap (sumF 0 bs)) 4)) g2 m2 ∧ (∀ o ∈ m2, o.own = true) ∧
              Le g2 s2 (.tup [rowS m'.length (putF bs_3 (IntKind.i64.wrap (sumF 0 bs)) 4), .v (.int .i64 0)]) ∧ k (s2.up m.length) (m ++ m2.map (SObj.up m.length)) := by
        intro H m' j hne hle hm hk
        refine ⟨H, rdB_row hm rfl, by omega, H, ⟨rdB_row hm rfl, fun h => absurd h hne⟩, by omega, ?_⟩
        have hR : ¬ putF H (IntKind.i64.wrap (sumF 0 H)) 4 = [] := by
          unfold putF
          split
          · exact fun h => hne (List.append_eq_nil_iff.1 h).1
          · exact hne
        generalize putF H (IntKind.i64.wrap (sumF 0 H)) 4 = R at hk hR ⊢
        simp only [rowS, rowM, hR, if_false]
        refine ⟨[m'.length], .tup [.row 0 0 R.length 1, .v (.int .i64 0)], [⟨true, bL R⟩], by simp, ?_, by simp, by simp [Le, LeL], ?_⟩
        · simp [FitM, ObLe, bL_le]
        · simpa [SV.up, upL, SObj.up, bL_up] using hk
      have hne2 : B ++ bs ≠ [] := fun h => hB (List.append_eq_nil_iff.1 h).1
      have hle2 : (B ++ bs).length ≤ 800000 := by rw [List.length_append]; omega
      by_cases h0 : bs = []
      · subst h0
        have n0 : ∀ p, @inpL J p 0 = some [] := fun p => rfl
        rw [List.append_nil] at hk hne2 hle2
        simp (maxSteps := 2000000) -implicitDefEqProofs only [b1, b3, n0, s_alt, s_alt20, s_alt2t, s_alt2f, ↓s_loopi, ↓v_pq, ↓PRE, POST, CORE, Nat.reduceDiv, Nat.reduceMod, Int.reduceLT, Int.reduceLE, Int.reduceToNat, Int.reduceAdd, ↓reduceIte, Nat.reduceEqDiff, Nat.reduceAdd, Nat.reduceMul, Nat.reduceSub, Nat.reduceLeDiff, Nat.reduceLT, reduceCtorEq, if_true, eq_self, forall_const, implies_true]
        exact finR B _ 1 hne2 hle2 rfl hk
      · have h1 : ¬ bs.length = 0 := fun h => h0 (List.length_eq_zero_iff.1 h)
        have h2 : 0 < bs.length := by omega
        simp (maxSteps := 2000000) -implicitDefEqProofs only [b1, b3, hin, bL_fold, c1, c2, h1, h2, s_alt, s_alt20, s_alt2t, s_alt2f, ↓s_loopi, ↓v_pq, ↓PRE, POST, CORE, Nat.reduceDiv, Nat.reduceMod, Int.reduceLT, Int.reduceLE, Int.reduceToNat, Int.reduceAdd, ↓reduceIte, Nat.reduceEqDiff, Nat.reduceAdd, Nat.reduceMul, Nat.reduceSub, Nat.reduceLeDiff, Nat.reduceLT, reduceCtorEq, if_true, eq_self, forall_const, implies_true]
        refine ⟨⟨by unfold maxLen; omega, by omega⟩, ?_⟩
        have e3 : bL B ++ bL bs = bL (B ++ bs) := by simp [bL]
        have e4 : B.length + bs.length = (B ++ bs).length := by simp
        rw [e3, e4]
        exact finR (B ++ bs) _ 2 hne2 hle2 rfl hk
end Go.Proofs.Ytibefgdjijmncaa
end
section
namespace Go.Proofs.Ytibefgdjijmncaa
open Go.RowKit Sz
set_option maxHeartbeats 4000000
set_option maxRecDepth 20000
-- almshouse/image.flag (1 parameters)
def x48 : XC := (.seq (.tree (.seq ⟨some 2, none, (.ofA (.mv (.cst (.v (.int .i64 0)))))⟩
  .done))
 (.seq (.seq (.tree (.seq ⟨some 3, none, (.ofA (.mv (.tmp 0)))⟩
  .done))
 (.cond (.tmp 3)
 (.seq (.tree (.seq ⟨some 2, none, (.ofA (.mv (.cst (.v (.int .i64 1)))))⟩
  .done))
 .ret)
 .skip))
 (.seq (.tree (.seq ⟨some 2, none, (.ofA (.mv (.cst (.v (.int .i64 0)))))⟩
  .done))
 .ret)))
def r48 : List XR := [.tmp 2]
theorem fn48 : FnX Try.prog 48 [] 4 x48 r48 := ⟨_, Try.func48, by kernel_rfl, by kernel_rfl, by kernel_rfl, by kernel_rfl⟩
-- (*almshouse/image.writer).frame (3 parameters)
def x47 : XC := (.seq (.tree (.seq ⟨some 9, none, (.ofA (.mv (.tmp 1)))⟩
  (.seq ⟨some 10, none, (.ofA (.mv (.tmp 2)))⟩
  (.seq ⟨some 11, none, (.call (.cst (.fn 92 [])) [(.tmp 9), (.tmp 10)])⟩
  (.seq ⟨some 8, none, (.ofA (.mv (.tmp 11)))⟩
  (.seq ⟨some 12, none, (.ofA (.extract 0 (.tmp 8)))⟩
  (.seq ⟨some 13, none, (.ofA (.extract 1 (.tmp 8)))⟩
  (.seq ⟨some 6, none, (.ofA (.mv (.tmp 12)))⟩
  (.seq ⟨some 7, none, (.ofA (.mv (.tmp 13)))⟩
  .done)))))))))
 (.seq (.tree (.seq ⟨some 14, none, (.ofA (.mv (.tmp 0)))⟩
  (.seq ⟨some 15, none, (.ofA (.nilc (.tmp 14)))⟩
  (.seq ⟨some 16, none, (.ofA (.faddr 1 (.tmp 15)))⟩
  (.seq ⟨some 17, none, (.ofA (.load none (.tmp 16)))⟩
  (.seq ⟨some 18, none, (.ofA (.bin .eql (.tmp 17) (.cst (.v (.int .i64 0)))))⟩
  .done))))))
 (.cond (.tmp 18)
 (.tree (.seq ⟨some 19, none, (.ofA (.mv (.tmp 0)))⟩
  (.seq ⟨some 20, none, (.ofA (.mv (.tmp 0)))⟩
  (.seq ⟨some 21, none, (.ofA (.mv (.tmp 0)))⟩
  (.seq ⟨some 22, none, (.ofA (.nilc (.tmp 21)))⟩
  (.seq ⟨some 23, none, (.ofA (.faddr 0 (.tmp 22)))⟩
  (.seq ⟨some 24, none, (.ofA (.load none (.tmp 23)))⟩
  (.seq ⟨some 25, none, (.ofA (.mv (.tmp 6)))⟩
  (.seq ⟨some 26, none, (.app 1 1 (.tmp 24) (.tmp 25))⟩
  (.seq ⟨some 27, none, (.ofA (.mv (.tmp 7)))⟩
  (.seq ⟨some 28, none, (.ofA (.nilc (.tmp 19)))⟩
  (.seq ⟨some 29, none, (.ofA (.faddr 0 (.tmp 28)))⟩
  (.seq ⟨none, none, (.store 1 (.tmp 29) (.tmp 26))⟩
  (.seq ⟨some 30, none, (.ofA (.nilc (.tmp 20)))⟩
  (.seq ⟨some 31, none, (.ofA (.faddr 1 (.tmp 30)))⟩
  (.seq ⟨none, none, (.store 1 (.tmp 31) (.tmp 27))⟩
  .done))))))))))))))))
 .skip)))
def r47 : List XR := []
theorem fn47 : FnX Try.prog 47 [] 32 x47 r47 := ⟨_, Try.func47, by kernel_rfl, by kernel_rfl, by kernel_rfl, by kernel_rfl⟩
theorem mayBs_iff {g : Ge} : ∀ {bs : List Bk} {j : Nat}, mayBs g j bs = true ↔ ∀ (i : Nat) (b : Bk), bs[i]? = some b → mayBk g (j + i) b = true
  | [], j => by simp [mayBs]
  | x :: xs, j => by
    rw [mayBs, Bool.and_eq_true, mayBs_iff]
    constructor
    · rintro ⟨h1, h2⟩ i b hb
      cases i with
      | zero => simp at hb; subst hb; exact h1
      | succ i => have := h2 i b (by simpa using hb); rwa [show j + 1 + i = j + (i + 1) by omega] at this
    · intro h
      refine ⟨by simpa using h 0 x rfl, fun i b hb => ?_⟩
      have := h (i + 1) b (by simpa using hb)
      rwa [show j + (i + 1) = j + 1 + i by omega] at this
def c45 [Inp] : Trans := fun args m k => ∃ s g bs, args = [s] ∧ picS m s g bs ∧ bs.length ≤ 140737488355328 ∧ (∀ b ∈ bs, b.pages.length ≤ 140737488355328) ∧ k (.v (.bool (mayF g bs))) m
def G45 [Inp] : List CEntry := [⟨53, true, c53⟩, ⟨55, true, c55⟩, ⟨86, true, c86⟩]
theorem g45 [Inp] : GOk Try.prog G45 := GOk.cons c53_ok (GOk.cons c55_ok (GOk.cons c86_ok (g0 _)))
theorem c45_ok [I : Inp] : Contract Try.prog 45 true c45 := by
  refine .readG fn45 (G := fun J => @G45 J) (fun J => @g45 J) _ fun args m k h => ?_
  obtain ⟨s, g, bs, rfl, h1, hn, hpn, hk⟩ := h
  refine ⟨by simp, fun J hJ K hK us hus => ?_⟩
  obtain ⟨u, t1, rfl, hk1, rfl⟩ := hus
  obtain ⟨p, c, xs, e1, rfl, hin, hx0⟩ := pic_kn hK h1 hk1
  rw [List.map_cons, e1, List.map_nil]
  rw [List.length_map] at hn
  have hitem : ∀ (i : Nat) (x : Bi), xs[i]? = some x → inpL (plusA p (i * 3)) 3 = some x.cs := fun i x hx => inp_item Bi.len hin rfl hx
  unfold Ge.sv
  simp (maxSteps := 2000000) -implicitDefEqProofs only [↓x45, ↓r45, ↓G45, ↓c53, s_alt, s_alt20, s_alt2t, s_alt2f, ↓s_loopi, ↓v_pq, ↓PRE, POST, CORE, Nat.reduceDiv, Nat.reduceMod, Int.reduceLT, Int.reduceLE, Int.reduceToNat, Int.reduceAdd, ↓reduceIte, Nat.reduceEqDiff, Nat.reduceAdd, Nat.reduceMul, Nat.reduceSub, Nat.reduceLeDiff, Nat.reduceLT, reduceCtorEq, if_true, eq_self, forall_const, implies_true]
  refine ⟨g, rfl, fun e he => ?_⟩
  unfold mayF at hk
  by_cases h0 : e = 0
  case neg =>
    have hg : chkG g = false := by
      cases h : chkG g with
      | false => rfl
      | true => exact (h0 (he.2 h)).elim
    have hb : (e != 0) = true := by simpa using h0
    rw [hg, Bool.false_and] at hk
    simp (maxSteps := 2000000) -implicitDefEqProofs only [hb, s_alt, s_alt20, s_alt2t, s_alt2f, ↓s_loopi, ↓v_pq, ↓PRE, POST, CORE, Nat.reduceDiv, Nat.reduceMod, Int.reduceLT, Int.reduceLE, Int.reduceToNat, Int.reduceAdd, ↓reduceIte, Nat.reduceEqDiff, Nat.reduceAdd, Nat.reduceMul, Nat.reduceSub, Nat.reduceLeDiff, Nat.reduceLT, reduceCtorEq, if_true, eq_self, forall_const, implies_true]
    exact hk
  subst h0
  have hg := he.1 rfl
  rw [hg, Bool.true_and, List.length_map] at hk
  simp (maxSteps := 2000000) -implicitDefEqProofs only [bne_self_eq_false, Bool.false_eq_true, ↓G45, ↓c55, s_alt, s_alt20, s_alt2t, s_alt2f, ↓s_loopi, ↓v_pq, ↓PRE, POST, CORE, Nat.reduceDiv, Nat.reduceMod, Int.reduceLT, Int.reduceLE, Int.reduceToNat, Int.reduceAdd, ↓reduceIte, Nat.reduceEqDiff, Nat.reduceAdd, Nat.reduceMul, Nat.reduceSub, Nat.reduceLeDiff, Nat.reduceLT, reduceCtorEq, if_true, eq_self, forall_const, implies_true]
  refine ⟨g, rfl, ?_⟩
  cases hl : ((xs.length : Int) == nB g) with
  | false =>
    have hl2 : ((xs.length : Int) != nB g) = true := by simp only [bne, hl, Bool.not_false]
    rw [hl, Bool.false_and] at hk
    simp (maxSteps := 2000000) -implicitDefEqProofs only [hl2, s_alt, s_alt20, s_alt2t, s_alt2f, ↓s_loopi, ↓v_pq, ↓PRE, POST, CORE, Nat.reduceDiv, Nat.reduceMod, Int.reduceLT, Int.reduceLE, Int.reduceToNat, Int.reduceAdd, ↓reduceIte, Nat.reduceEqDiff, Nat.reduceAdd, Nat.reduceMul, Nat.reduceSub, Nat.reduceLeDiff, Nat.reduceLT, reduceCtorEq, if_true, eq_self, forall_const, implies_true]
    exact hk
  | true =>
  have hl2 : ((xs.length : Int) != nB g) = false := by simp only [bne, hl, Bool.not_true]
  rw [hl, Bool.true_and] at hk
  simp (maxSteps := 2000000) -implicitDefEqProofs only [hl2, Bool.false_eq_true, s_alt, s_alt20, s_alt2t, s_alt2f, ↓s_loopi, ↓v_pq, ↓PRE, POST, CORE, Nat.reduceDiv, Nat.reduceMod, Int.reduceLT, Int.reduceLE, Int.reduceToNat, Int.reduceAdd, ↓reduceIte, Nat.reduceEqDiff, Nat.reduceAdd, Nat.reduceMul, Nat.reduceSub, Nat.reduceLeDiff, Nat.reduceLT, reduceCtorEq, if_true, eq_self, forall_const, implies_true]
  refine TXi_of (TX_count (@g45 J) xs.length (fun x => [(1, .ptr 0 0), (19, .v (.slice p xs.length c)), (20, .v (.int .i64 (xs.length : Int))), (21, .v (.int .i64 (x : Int)))]) (fun x => [⟨true, [.v (.int .i64 g.ch), .v (.int .i64 g.di), .v (.int .i64 g.bl), .v (.int .i64 g.pa), .v (.slice p xs.length c)]⟩]) (fun x => ∀ i, i < x → ∀ b, (xs.map Bi.b)[i]? = some b → mayBk g i b = true) (fun i hi => by omega) (by refine ⟨[0], by simp [NdL, NdA, oO_cells, oO_own, iL_nil], ?_, ?_, keep0 hJ⟩ <;> simp only [FitM, FitE, ObLe, LeL, Le, List.cons_append, List.nil_append] <;> (try (simp (maxSteps := 2000000) -implicitDefEqProofs only [s_alt, s_alt20, s_alt2t, s_alt2f, ↓s_loopi, ↓v_pq, ↓PRE, POST, CORE, Nat.reduceDiv, Nat.reduceMod, Int.reduceLT, Int.reduceLE, Int.reduceToNat, Int.reduceAdd, ↓reduceIte, Nat.reduceEqDiff, Nat.reduceAdd, Nat.reduceMul, Nat.reduceSub, Nat.reduceLeDiff, Nat.reduceLT, reduceCtorEq, if_true, eq_self, forall_const, implies_true])) <;> (try simp only [Sz.Le, Sz.LeL, List.getElem?_cons_zero, List.getElem?_cons_succ]) <;> (try simp)) ?_ ?_)
  · intro x hx hI
    obtain ⟨a, ha⟩ : ∃ a, xs[x]? = some a := ⟨_, List.getElem?_eq_getElem hx⟩
    have hb0 : (xs.map Bi.b)[x]? = some a.b := by rw [List.getElem?_map, ha]; rfl
    have hpa := hpn a.b (List.mem_map.2 ⟨a, List.mem_of_getElem? ha, rfl⟩)
    have f : inpL (plusA p (x * 3)) 3 = some [.bool a.b.bad, .int .i64 a.b.er, .slice a.a a.b.pages.length a.c] := hitem x a ha
    have hina : inpL a.a (a.b.pages.length * 3) = some (rowV Pg.cs a.b.pages) := hx0 a (List.mem_of_getElem? ha)
    have hp : p.isSome = true := inpL_isSome hin (by omega)
    have i0 : (0 : Int) ≤ (x : Int) := by omega
    have i1 : (x : Int) < (xs.length : Int) := by omega
    have w1 : IntKind.i64.wrap ((x : Int) + 1) = (x : Int) + 1 := Sz.w_64 (by omega) (by omega)
    have bad : mayBk g x a.b = false → k (.v (.bool false)) m := fun hb => by
      have : mayBs g 0 (xs.map Bi.b) = false := by
        cases h : mayBs g 0 (xs.map Bi.b) with
        | false => rfl
        | true =>
          have := mayBs_iff.1 h x a.b hb0
          rw [Nat.zero_add, hb] at this
          cases this
      rw [this] at hk
      exact hk
    have next : mayBk g x a.b = true → ∀ i, i < x + 1 → ∀ b, (xs.map Bi.b)[i]? = some b → mayBk g i b = true := fun hb i hi b hb' => by
      by_cases h : i = x
      · subst h
        rw [hb0] at hb'
        injection hb' with hb'
        subst hb'
        exact hb
      · exact hI i (by omega) b hb'
    unfold mayBk at bad next
    by_cases c1 : a.b.bad = true ∧ (x : Int) < 2
    · have c1' : x < 2 := by omega
      simp (maxSteps := 2000000) -implicitDefEqProofs only [f, hp, i0, i1, w1, c1.1, c1.2, s_alt, s_alt20, s_alt2t, s_alt2f, ↓s_loopi, ↓v_pq, ↓PRE, POST, CORE, Nat.reduceDiv, Nat.reduceMod, Int.reduceLT, Int.reduceLE, Int.reduceToNat, Int.reduceAdd, ↓reduceIte, Nat.reduceEqDiff, Nat.reduceAdd, Nat.reduceMul, Nat.reduceSub, Nat.reduceLeDiff, Nat.reduceLT, reduceCtorEq, if_true, eq_self, forall_const, implies_true]
      exact bad (by simp [c1.1, c1'])
    · have e1 : (!(a.b.bad && decide (x < 2))) = true := by
        cases hbd : a.b.bad with
        | false => rfl
        | true =>
          have : ¬ x < 2 := fun h => c1 ⟨hbd, by omega⟩
          simp [this]
      rw [e1, Bool.true_and] at bad next
      obtain ⟨C1, hC1⟩ : ∃ C1 : Bool, C1 = a.b.bad := ⟨_, rfl⟩
      have c1b : a.b.bad = true → ¬ (x : Int) < 2 := fun h h2 => c1 ⟨h, h2⟩
      by_cases c2 : a.b.er < 0
      · have e2 : decide (0 ≤ a.b.er) = false := by simpa using c2
        rw [e2, Bool.false_and] at bad
        cases hbd : a.b.bad with
        | false => simp (maxSteps := 2000000) -implicitDefEqProofs only [f, hp, i0, i1, w1, hbd, c2, s_alt, s_alt20, s_alt2t, s_alt2f, ↓s_loopi, ↓v_pq, ↓PRE, POST, CORE, Nat.reduceDiv, Nat.reduceMod, Int.reduceLT, Int.reduceLE, Int.reduceToNat, Int.reduceAdd, ↓reduceIte, Nat.reduceEqDiff, Nat.reduceAdd, Nat.reduceMul, Nat.reduceSub, Nat.reduceLeDiff, Nat.reduceLT, reduceCtorEq, if_true, eq_self, forall_const, implies_true]; exact bad rfl
        | true => have := c1b hbd; simp (maxSteps := 2000000) -implicitDefEqProofs only [f, hp, i0, i1, w1, hbd, this, c2, s_alt, s_alt20, s_alt2t, s_alt2f, ↓s_loopi, ↓v_pq, ↓PRE, POST, CORE, Nat.reduceDiv, Nat.reduceMod, Int.reduceLT, Int.reduceLE, Int.reduceToNat, Int.reduceAdd, ↓reduceIte, Nat.reduceEqDiff, Nat.reduceAdd, Nat.reduceMul, Nat.reduceSub, Nat.reduceLeDiff, Nat.reduceLT, reduceCtorEq, if_true, eq_self, forall_const, implies_true]; exact bad rfl
      · have e2 : decide (0 ≤ a.b.er) = true := by simp only [decide_eq_true_eq]; omega
        rw [e2, Bool.true_and] at bad next
        by_cases c3 : 2147483647 < a.b.er
        · have e3 : decide (a.b.er ≤ 2147483647) = false := by simp only [decide_eq_false_iff_not]; omega
          rw [e3, Bool.false_and] at bad
          cases hbd : a.b.bad with
          | false => simp (maxSteps := 2000000) -implicitDefEqProofs only [f, hp, i0, i1, w1, hbd, c2, c3, gt_iff_lt, s_alt, s_alt20, s_alt2t, s_alt2f, ↓s_loopi, ↓v_pq, ↓PRE, POST, CORE, Nat.reduceDiv, Nat.reduceMod, Int.reduceLT, Int.reduceLE, Int.reduceToNat, Int.reduceAdd, ↓reduceIte, Nat.reduceEqDiff, Nat.reduceAdd, Nat.reduceMul, Nat.reduceSub, Nat.reduceLeDiff, Nat.reduceLT, reduceCtorEq, if_true, eq_self, forall_const, implies_true]; exact bad rfl
          | true => have := c1b hbd; simp (maxSteps := 2000000) -implicitDefEqProofs only [f, hp, i0, i1, w1, hbd, this, c2, c3, gt_iff_lt, s_alt, s_alt20, s_alt2t, s_alt2f, ↓s_loopi, ↓v_pq, ↓PRE, POST, CORE, Nat.reduceDiv, Nat.reduceMod, Int.reduceLT, Int.reduceLE, Int.reduceToNat, Int.reduceAdd, ↓reduceIte, Nat.reduceEqDiff, Nat.reduceAdd, Nat.reduceMul, Nat.reduceSub, Nat.reduceLeDiff, Nat.reduceLT, reduceCtorEq, if_true, eq_self, forall_const, implies_true]; exact bad rfl
        · have e3 : decide (a.b.er ≤ 2147483647) = true := by simp only [decide_eq_true_eq]; omega
          rw [e3, Bool.true_and] at bad next
          by_cases c4 : g.pa < (a.b.pages.length : Int)
          · have e4 : decide ((a.b.pages.length : Int) ≤ g.pa) = false := by simp only [decide_eq_false_iff_not]; omega
            rw [e4, Bool.false_and] at bad
            cases hbd : a.b.bad with
            | false => simp (maxSteps := 2000000) -implicitDefEqProofs only [f, hp, i0, i1, w1, hbd, c2, c3, c4, gt_iff_lt, s_alt, s_alt20, s_alt2t, s_alt2f, ↓s_loopi, ↓v_pq, ↓PRE, POST, CORE, Nat.reduceDiv, Nat.reduceMod, Int.reduceLT, Int.reduceLE, Int.reduceToNat, Int.reduceAdd, ↓reduceIte, Nat.reduceEqDiff, Nat.reduceAdd, Nat.reduceMul, Nat.reduceSub, Nat.reduceLeDiff, Nat.reduceLT, reduceCtorEq, if_true, eq_self, forall_const, implies_true]; exact bad rfl
            | true => have := c1b hbd; simp (maxSteps := 2000000) -implicitDefEqProofs only [f, hp, i0, i1, w1, hbd, this, c2, c3, c4, gt_iff_lt, s_alt, s_alt20, s_alt2t, s_alt2f, ↓s_loopi, ↓v_pq, ↓PRE, POST, CORE, Nat.reduceDiv, Nat.reduceMod, Int.reduceLT, Int.reduceLE, Int.reduceToNat, Int.reduceAdd, ↓reduceIte, Nat.reduceEqDiff, Nat.reduceAdd, Nat.reduceMul, Nat.reduceSub, Nat.reduceLeDiff, Nat.reduceLT, reduceCtorEq, if_true, eq_self, forall_const, implies_true]; exact bad rfl
          · have e4 : decide ((a.b.pages.length : Int) ≤ g.pa) = true := by simp only [decide_eq_true_eq]; omega
            rw [e4, Bool.true_and] at bad next
            cases hbd : a.b.bad with
            | false =>
              simp (maxSteps := 2000000) -implicitDefEqProofs only [f, hp, i0, i1, w1, hbd, c2, c3, c4, gt_iff_lt, ↓G45, ↓c86, s_alt, s_alt20, s_alt2t, s_alt2f, ↓s_loopi, ↓v_pq, ↓PRE, POST, CORE, Nat.reduceDiv, Nat.reduceMod, Int.reduceLT, Int.reduceLE, Int.reduceToNat, Int.reduceAdd, ↓reduceIte, Nat.reduceEqDiff, Nat.reduceAdd, Nat.reduceMul, Nat.reduceSub, Nat.reduceLeDiff, Nat.reduceLT, reduceCtorEq, if_true, eq_self, forall_const, implies_true]
              refine ⟨_, hina, rfl, by omega, ?_⟩
              cases hall : a.b.pages.all mayPg with
              | false => simp (maxSteps := 2000000) -implicitDefEqProofs only [Bool.not_false, s_alt, s_alt20, s_alt2t, s_alt2f, ↓s_loopi, ↓v_pq, ↓PRE, POST, CORE, Nat.reduceDiv, Nat.reduceMod, Int.reduceLT, Int.reduceLE, Int.reduceToNat, Int.reduceAdd, ↓reduceIte, Nat.reduceEqDiff, Nat.reduceAdd, Nat.reduceMul, Nat.reduceSub, Nat.reduceLeDiff, Nat.reduceLT, reduceCtorEq, if_true, eq_self, forall_const, implies_true]; exact bad hall
              | true => simp (maxSteps := 2000000) -implicitDefEqProofs only [Bool.not_true, Bool.false_eq_true, w1, s_alt, s_alt20, s_alt2t, s_alt2f, ↓s_loopi, ↓v_pq, ↓PRE, POST, CORE, Nat.reduceDiv, Nat.reduceMod, Int.reduceLT, Int.reduceLE, Int.reduceToNat, Int.reduceAdd, ↓reduceIte, Nat.reduceEqDiff, Nat.reduceAdd, Nat.reduceMul, Nat.reduceSub, Nat.reduceLeDiff, Nat.reduceLT, reduceCtorEq, if_true, eq_self, forall_const, implies_true]; exact ⟨next hall, (by refine ⟨[0], by simp [NdL, NdA, oO_cells, oO_own, iL_nil], ?_, ?_, keep0 hJ⟩ <;> simp only [FitM, FitE, ObLe, LeL, Le, List.cons_append, List.nil_append] <;> (try (simp (maxSteps := 2000000) -implicitDefEqProofs only [s_alt, s_alt20, s_alt2t, s_alt2f, ↓s_loopi, ↓v_pq, ↓PRE, POST, CORE, Nat.reduceDiv, Nat.reduceMod, Int.reduceLT, Int.reduceLE, Int.reduceToNat, Int.reduceAdd, ↓reduceIte, Nat.reduceEqDiff, Nat.reduceAdd, Nat.reduceMul, Nat.reduceSub, Nat.reduceLeDiff, Nat.reduceLT, reduceCtorEq, if_true, eq_self, forall_const, implies_true])) <;> (try simp only [Sz.Le, Sz.LeL, List.getElem?_cons_zero, List.getElem?_cons_succ]) <;> (try simp))⟩
            | true =>
              have := c1b hbd
              simp (maxSteps := 2000000) -implicitDefEqProofs only [f, hp, i0, i1, w1, hbd, this, c2, c3, c4, gt_iff_lt, ↓G45, ↓c86, s_alt, s_alt20, s_alt2t, s_alt2f, ↓s_loopi, ↓v_pq, ↓PRE, POST, CORE, Nat.reduceDiv, Nat.reduceMod, Int.reduceLT, Int.reduceLE, Int.reduceToNat, Int.reduceAdd, ↓reduceIte, Nat.reduceEqDiff, Nat.reduceAdd, Nat.reduceMul, Nat.reduceSub, Nat.reduceLeDiff, Nat.reduceLT, reduceCtorEq, if_true, eq_self, forall_const, implies_true]
              refine ⟨_, hina, rfl, by omega, ?_⟩
              cases hall : a.b.pages.all mayPg with
              | false => simp (maxSteps := 2000000) -implicitDefEqProofs only [Bool.not_false, s_alt, s_alt20, s_alt2t, s_alt2f, ↓s_loopi, ↓v_pq, ↓PRE, POST, CORE, Nat.reduceDiv, Nat.reduceMod, Int.reduceLT, Int.reduceLE, Int.reduceToNat, Int.reduceAdd, ↓reduceIte, Nat.reduceEqDiff, Nat.reduceAdd, Nat.reduceMul, Nat.reduceSub, Nat.reduceLeDiff, Nat.reduceLT, reduceCtorEq, if_true, eq_self, forall_const, implies_true]; exact bad hall
              | true => simp (maxSteps := 2000000) -implicitDefEqProofs only [Bool.not_true, Bool.false_eq_true, w1, s_alt, s_alt20, s_alt2t, s_alt2f, ↓s_loopi, ↓v_pq, ↓PRE, POST, CORE, Nat.reduceDiv, Nat.reduceMod, Int.reduceLT, Int.reduceLE, Int.reduceToNat, Int.reduceAdd, ↓reduceIte, Nat.reduceEqDiff, Nat.reduceAdd, Nat.reduceMul, Nat.reduceSub, Nat.reduceLeDiff, Nat.reduceLT, reduceCtorEq, if_true, eq_self, forall_const, implies_true]; exact ⟨next hall, (by refine ⟨[0], by simp [NdL, NdA, oO_cells, oO_own, iL_nil], ?_, ?_, keep0 hJ⟩ <;> simp only [FitM, FitE, ObLe, LeL, Le, List.cons_append, List.nil_append] <;> (try (simp (maxSteps := 2000000) -implicitDefEqProofs only [s_alt, s_alt20, s_alt2t, s_alt2f, ↓s_loopi, ↓v_pq, ↓PRE, POST, CORE, Nat.reduceDiv, Nat.reduceMod, Int.reduceLT, Int.reduceLE, Int.reduceToNat, Int.reduceAdd, ↓reduceIte, Nat.reduceEqDiff, Nat.reduceAdd, Nat.reduceMul, Nat.reduceSub, Nat.reduceLeDiff, Nat.reduceLT, reduceCtorEq, if_true, eq_self, forall_const, implies_true])) <;> (try simp only [Sz.Le, Sz.LeL, List.getElem?_cons_zero, List.getElem?_cons_succ]) <;> (try simp))⟩
  · intro hI
    have i1 : ¬ (xs.length : Int) < (xs.length : Int) := by omega
    have : mayBs g 0 (xs.map Bi.b) = true := mayBs_iff.2 fun i b hb => by
      rw [Nat.zero_add]
      exact hI i (by have := (List.getElem?_eq_some_iff.1 hb).1; rwa [List.length_map] at this) b hb
    rw [this] at hk
    simp (maxSteps := 2000000) -implicitDefEqProofs only [i1, s_alt, s_alt20, s_alt2t, s_alt2f, ↓s_loopi, ↓v_pq, ↓PRE, POST, CORE, Nat.reduceDiv, Nat.reduceMod, Int.reduceLT, Int.reduceLE, Int.reduceToNat, Int.reduceAdd, ↓reduceIte, Nat.reduceEqDiff, Nat.reduceAdd, Nat.reduceMul, Nat.reduceSub, Nat.reduceLeDiff, Nat.reduceLT, reduceCtorEq, if_true, eq_self, forall_const, implies_true]
    exact hk
def c48 [Inp] : Trans := fun args m k => ∃ f : Bool, args = [.v (.bool f)] ∧ k (.v (.int .i64 (if f = true then 1 else 0))) m
theorem c48_ok [I : Inp] : Contract Try.prog 48 true c48 := by
  refine .read fn48 (G := fun _ => []) (fun J => @g0 J _) _ fun args m k h => ?_
  obtain ⟨f, rfl, hk⟩ := h
  refine ⟨by simp, fun J hJ us hus => ?_⟩
  obtain ⟨u, t1, rfl, hk1, rfl⟩ := hus
  obtain rfl := hk1.1 _ rfl
  cases f <;> simp (maxSteps := 2000000) -implicitDefEqProofs only [↓x48, ↓r48, Bool.false_eq_true, s_alt, s_alt20, s_alt2t, s_alt2f, ↓s_loopi, ↓v_pq, ↓PRE, POST, CORE, Nat.reduceDiv, Nat.reduceMod, Int.reduceLT, Int.reduceLE, Int.reduceToNat, Int.reduceAdd, ↓reduceIte, Nat.reduceEqDiff, Nat.reduceAdd, Nat.reduceMul, Nat.reduceSub, Nat.reduceLeDiff, Nat.reduceLT, reduceCtorEq, if_true, eq_self, forall_const, implies_true] <;> exact hk
end Go.Proofs.Ytibefgdjijmncaa
end
section
namespace Go.Proofs.Ytibefgdjijmncaa
open Go.RowKit Sz
set_option maxHeartbeats 4000000
set_option maxRecDepth 20000
theorem inpL_at {I J : Inp} (h : J.at_ = I.at_) {p : Option Addr} {n : Nat} : @inpL J p n = @inpL I p n := by
  unfold inpL
  rw [h]
theorem slOf_at {I J : Inp} (h : J.at_ = I.at_) {m : Mem} {z : Nat} {s : SV} : @slOf J m z s = @slOf I m z s := by
  unfold slOf
  split <;> first | rfl | rw [inpL_at h]
theorem rdB_at {I J : Inp} (h : J.at_ = I.at_) {m : Mem} {s : SV} : @rdB J m s = @rdB I m s := by
  unfold rdB
  rw [slOf_at h]
theorem fits1 {v : Int} (h0 : 0 ≤ v) (h1 : v ≤ 255) : fitsF v 1 = true := by
  unfold fitsF sizedF
  have e : (2 : Int) ^ (min (8 * 1 : Int).toNat IntKind.i64.bits) = 256 := by decide
  rw [e, Int.fdiv_eq_ediv_of_nonneg _ (by omega)]
  have : v / 256 = 0 := by omega
  rw [this]
  rfl
theorem fits4 {v : Int} (h0 : 0 ≤ v) (h1 : v < 4294967296) : fitsF v 4 = true := by
  unfold fitsF sizedF
  have e : (2 : Int) ^ (min (8 * 4 : Int).toNat IntKind.i64.bits) = 4294967296 := by decide
  rw [e, Int.fdiv_eq_ediv_of_nonneg _ (by omega)]
  have : v / 4294967296 = 0 := by omega
  rw [this]
  rfl
theorem shN_in : ∀ (i : Nat) (v : Int), shN (i + 1) v = shN i (v / 256)
  | 0, v => by
    have e : (2 : Int) ^ (min (8 : Int).toNat IntKind.i64.bits) = 256 := by decide
    unfold shN
    rw [e, Int.fdiv_eq_ediv_of_nonneg _ (by omega)]
    rfl
  | i + 1, v => by
    have e : shN (i + 1 + 1) v = (shN (i + 1) v).fdiv (2 ^ (min (8 : Int).toNat IntKind.i64.bits)) := rfl
    have e2 : shN (i + 1) (v / 256) = (shN i (v / 256)).fdiv (2 ^ (min (8 : Int).toNat IntKind.i64.bits)) := rfl
    rw [e, e2, shN_in i v]
theorem leF_leN : ∀ (n : Nat) (v : Int), leF n v = leN n v
  | 0, v => rfl
  | n + 1, v => by
    have ih := leF_leN n (v / 256)
    unfold leF at ih ⊢
    rw [List.range_succ_eq_map, List.map_cons, List.map_map, leN]
    congr 1
    rw [← ih]
    apply List.map_congr_left
    intro i _
    show IntKind.u8.wrap (shN (i + 1) v) = IntKind.u8.wrap (shN i (v / 256))
    rw [shN_in]
theorem putF_leN {bs : List Int} {v : Int} {n : Nat} (h : fitsF v n = true) : putF bs v n = bs ++ leN n v := by
  unfold putF
  rw [if_pos h, Int.toNat_natCast, leF_leN]
/-- The sum of bytes. -/
def smF (b : List Int) : Int := IntKind.i64.wrap (sumF 0 b)
theorem smF_in (b : List Int) : 0 ≤ smF b ∧ smF b < 4294967296 := by
  have h : 0 ≤ sumF 0 b ∧ sumF 0 b < 4294967296 := by
    unfold sumF noI
    generalize (BitVec.ofInt IntKind.u32.bits (if IntKind.u32.signed then -1 else IntKind.u32.max) ^^^ BitVec.ofInt IntKind.u32.bits (onF (noI 0) b)).toNat = y
    simp [IntKind.wrap, IntKind.bits, IntKind.signed]
    omega
  unfold smF
  rw [Sz.w_64 (by omega) (by omega)]
  exact h
theorem frameF_frF {k : Int} {body : List Int} (h0 : 0 ≤ k) (h1 : k ≤ 255) (hl : body.length ≤ 65535) : frameF k body = frF smF k body := by
  have hh : headF k body = hdF k body := by
    unfold headF hdF
    have e1 := putF_leN (bs := []) (n := 1) (fits1 h0 h1)
    have e2 := putF_leN (bs := leN 1 k) (n := 2) (fits2 (v := (body.length : Int)) (by omega) (by omega))
    rw [show (1 : Int) = ((1 : Nat) : Int) from rfl, e1, List.nil_append, show (2 : Int) = ((2 : Nat) : Int) from rfl, e2, List.append_assoc]
  have hs := smF_in (hdF k body)
  have e4 := putF_leN (bs := hdF k body) (n := 4) (fits4 hs.1 hs.2)
  unfold frameF frF
  rw [hh]
  exact e4
def c47 [Inp] : Trans := fun args m k => ∃ j kind b body wb out, args = [.ptr j 0, .v (.int .i64 kind), b] ∧ m[j]? = some ⟨true, [wb, .v (.int .i64 0)]⟩ ∧ rdB m b = some body ∧ (0 ≤ kind ∧ kind ≤ 255) ∧ body.length ≤ 65535 ∧ ((wb = .v (.slice none 0 0) ∧ out = []) ∨ (∃ q, wb = .row q 0 out.length 1 ∧ m[q]? = some ⟨true, bL out⟩ ∧ q ≠ j)) ∧ out.length ≤ 70000000 ∧
  k (.tup []) ((kill (m ++ [(⟨true, bL (frF smF kind body)⟩ : SObj)]) wb ++ [(⟨true, bL (out ++ frF smF kind body)⟩ : SObj)]).set j ⟨true, [.row (m.length + 1) 0 (out.length + (frF smF kind body).length) 1, .v (.int .i64 0)]⟩)
theorem g92a [Inp] : GOk Try.prog [⟨92, true, c92⟩] := GOk.cons c92_ok (g0 _)
theorem c47_ok [I : Inp] : Contract Try.prog 47 false c47 := by
  refine .full fn47 (G := fun J => [⟨92, true, @c92 J⟩]) (fun J => @g92a J) _ fun args m k h => ?_
  obtain ⟨j, kind, b, body, wb, out, rfl, hj, hb, ⟨k0, k1⟩, hl, hw, hol, hk⟩ := h
  refine ⟨by simp, fun J hJ hA => ?_⟩
  rw [← rdB_at hA] at hb
  have hff := frameF_frF k0 k1 hl
  have hlen := frF_len smF kind body
  have hjl := (List.getElem?_eq_some_iff.1 hj).1
  simp (maxSteps := 2000000) -implicitDefEqProofs only [↓x47, ↓r47, ↓c92, s_alt, s_alt20, s_alt2t, s_alt2f, ↓s_loopi, ↓v_pq, ↓PRE, POST, CORE, Nat.reduceDiv, Nat.reduceMod, Int.reduceLT, Int.reduceLE, Int.reduceToNat, Int.reduceAdd, ↓reduceIte, Nat.reduceEqDiff, Nat.reduceAdd, Nat.reduceMul, Nat.reduceSub, Nat.reduceLeDiff, Nat.reduceLT, reduceCtorEq, if_true, eq_self, forall_const, implies_true]
  refine ⟨body, hb, by omega, ?_⟩
  have f1 : fitsF kind 1 = true := fits1 k0 k1
  have f2 : ¬ (65535 : Int) < (body.length : Int) := by omega
  rw [if_neg (by rw [f1]; simp), if_neg f2, hff]
  generalize frF smF kind body = F at hlen hk ⊢
  have bl := bL_len F
  have bl2 := bL_len out
  have bo := bL_one F
  have tF : List.take F.length (bL F) = bL F := List.take_of_length_le (by rw [bl]; exact Nat.le_refl _)
  have tO : List.take out.length (bL out) = bL out := List.take_of_length_le (by rw [bl2]; exact Nat.le_refl _)
  have hF0 : F.length ≠ 0 := by omega
  have hF1 : 0 < F.length := by omega
  have hF : (m ++ [(⟨true, bL F⟩ : SObj)])[m.length]? = some ⟨true, bL F⟩ := by simp
  have hj1 : (m ++ [(⟨true, bL F⟩ : SObj)])[j]? = some ⟨true, [wb, .v (.int .i64 0)]⟩ := by rw [List.getElem?_append_left hjl]; exact hj
  have e3 : bL out ++ bL F = bL (out ++ F) := by simp [bL]
  rcases hw with ⟨rfl, rfl⟩ | ⟨q, rfl, hq, hne⟩
  · have hX : (m ++ [(⟨true, bL F⟩ : SObj)] ++ [(⟨true, bL F⟩ : SObj)])[j]? = some ⟨true, [.v (.slice none 0 0), .v (.int .i64 0)]⟩ := by
      rw [List.getElem?_append_left (by simp; omega)]; exact hj1
    have hY : ∀ Y, ((m ++ [(⟨true, bL F⟩ : SObj)] ++ [(⟨true, bL F⟩ : SObj)]).set j Y)[j]? = some Y := fun Y => by
      rw [List.getElem?_set_self (by simp; omega)]
    have n0 : @inpL J none 0 = some [] := rfl
    simp (maxSteps := 2000000) -implicitDefEqProofs only [hj1, hF, bl, bo, tF, hF0, hF1, n0, beq_self_eq_true, s_alt, s_alt20, s_alt2t, s_alt2f, ↓s_loopi, ↓v_pq, ↓PRE, POST, CORE, Nat.reduceDiv, Nat.reduceMod, Int.reduceLT, Int.reduceLE, Int.reduceToNat, Int.reduceAdd, ↓reduceIte, Nat.reduceEqDiff, Nat.reduceAdd, Nat.reduceMul, Nat.reduceSub, Nat.reduceLeDiff, Nat.reduceLT, reduceCtorEq, if_true, eq_self, forall_const, implies_true]
    simp (maxSteps := 2000000) -implicitDefEqProofs only [hX, hY, List.set_set, List.length_append, List.length_cons, List.length_nil, s_alt, s_alt20, s_alt2t, s_alt2f, ↓s_loopi, ↓v_pq, ↓PRE, POST, CORE, Nat.reduceDiv, Nat.reduceMod, Int.reduceLT, Int.reduceLE, Int.reduceToNat, Int.reduceAdd, ↓reduceIte, Nat.reduceEqDiff, Nat.reduceAdd, Nat.reduceMul, Nat.reduceSub, Nat.reduceLeDiff, Nat.reduceLT, reduceCtorEq, if_true, eq_self, forall_const, implies_true]
    refine ⟨⟨by unfold maxLen; omega, by omega⟩, ?_⟩
    simp only [kill, List.length_nil, Nat.zero_add, List.nil_append] at hk
    exact hk
  · have hql := (List.getElem?_eq_some_iff.1 hq).1
    have hq1 : (m ++ [(⟨true, bL F⟩ : SObj)])[q]? = some ⟨true, bL out⟩ := by rw [List.getElem?_append_left hql]; exact hq
    have hX : (((m ++ [(⟨true, bL F⟩ : SObj)]).set q ⟨false, []⟩) ++ [(⟨true, bL (out ++ F)⟩ : SObj)])[j]? = some ⟨true, [.row q 0 out.length 1, .v (.int .i64 0)]⟩ := by
      rw [List.getElem?_append_left (by simp; omega), List.getElem?_set_ne hne]; exact hj1
    have hY : ∀ Y, ((((m ++ [(⟨true, bL F⟩ : SObj)]).set q ⟨false, []⟩) ++ [(⟨true, bL (out ++ F)⟩ : SObj)]).set j Y)[j]? = some Y := fun Y => by
      rw [List.getElem?_set_self (by simp; omega)]
    simp (maxSteps := 2000000) -implicitDefEqProofs only [hj1, hF, hq1, bl, bl2, bo, tF, tO, hF0, hF1, beq_self_eq_true, e3, s_alt, s_alt20, s_alt2t, s_alt2f, ↓s_loopi, ↓v_pq, ↓PRE, POST, CORE, Nat.reduceDiv, Nat.reduceMod, Int.reduceLT, Int.reduceLE, Int.reduceToNat, Int.reduceAdd, ↓reduceIte, Nat.reduceEqDiff, Nat.reduceAdd, Nat.reduceMul, Nat.reduceSub, Nat.reduceLeDiff, Nat.reduceLT, reduceCtorEq, if_true, eq_self, forall_const, implies_true]
    simp (maxSteps := 2000000) -implicitDefEqProofs only [hX, hY, List.set_set, List.length_append, List.length_cons, List.length_nil, s_alt, s_alt20, s_alt2t, s_alt2f, ↓s_loopi, ↓v_pq, ↓PRE, POST, CORE, Nat.reduceDiv, Nat.reduceMod, Int.reduceLT, Int.reduceLE, Int.reduceToNat, Int.reduceAdd, ↓reduceIte, Nat.reduceEqDiff, Nat.reduceAdd, Nat.reduceMul, Nat.reduceSub, Nat.reduceLeDiff, Nat.reduceLT, reduceCtorEq, if_true, eq_self, forall_const, implies_true]
    exact ⟨⟨by unfold maxLen; omega, by omega⟩, hk⟩
theorem leN_1 {v : Int} (h0 : 0 ≤ v) (h1 : v ≤ 255) : leN 1 v = [v] := by
  simp only [leN]
  rw [show v % 256 = v by omega]
theorem put1 {bs : List Int} {v : Int} (h0 : 0 ≤ v) (h1 : v ≤ 255) : putF bs v 1 = bs ++ leN 1 v := putF_leN (n := 1) (fits1 h0 h1)
theorem hd_put {g : Ge} (h : byG g) : putF (putF (putF (putF [] g.ch 1) g.di 1) g.bl 1) g.pa 1 = hdB g := by
  obtain ⟨h1, h2, h3, h4⟩ := h
  rw [put1 h1.1 h1.2, put1 h2.1 h2.2, put1 h3.1 h3.2, put1 h4.1 h4.2]
  unfold hdB
  simp
theorem bk_put {b : Bk} (h1 : b.pages.length ≤ 255) (h2 : 0 ≤ b.er) (h3 : b.er < 4294967296) : putF (putF (putF [] (if b.bad = true then 1 else 0) 1) (b.pages.length : Int) 1) b.er 4 = bkB b := by
  have e4 := putF_leN (bs := putF (putF [] (if b.bad = true then 1 else 0) 1) (b.pages.length : Int) 1) (n := 4) (fits4 h2 h3)
  rw [show (4 : Int) = ((4 : Nat) : Int) from rfl, e4, put1 (by omega) (by omega), put1 (by split <;> omega) (by split <;> omega), leN_1 (by split <;> omega) (by split <;> omega)]
  unfold bkB
  simp
theorem strL_strI (s : ByteArray) : strL s = strI s := rfl
theorem text_put {bs : List Int} {t : ByteArray} (h : t.size ≤ 65535) : textF bs t = bs ++ (leN 2 t.size ++ strI t) := by
  unfold textF
  have e := putF_leN (bs := bs) (n := 2) (fits2 (v := (t.size : Int)) (by omega) (by omega))
  rw [if_neg (by omega), show (2 : Int) = ((2 : Nat) : Int) from rfl, e, strL_strI, List.append_assoc]
theorem pg_put1 {x : Pg} (h : x.torn = true) : putF [] (if x.torn = true then 1 else 0) 1 = pgB x := by
  rw [if_pos h, put1 (by omega) (by omega), leN_1 (by omega) (by omega)]
  unfold pgB
  rw [if_pos h]
  rfl
theorem pg_put0 {x : Pg} (h : ¬ x.torn = true) (hm : mayPg x = true) : textF (textF (putF [] (if x.torn = true then 1 else 0) 1) x.beside) x.data = pgB x := by
  unfold mayPg at hm
  rw [if_neg h] at hm ⊢
  simp only [Bool.and_eq_true, decide_eq_true_eq] at hm
  rw [put1 (by omega) (by omega), leN_1 (by omega) (by omega), text_put (by omega), text_put (by omega)]
  unfold pgB
  rw [if_neg h]
  simp
theorem pgF_len {x : Pg} (hm : mayPg x = true) : (pgF smF x).length ≤ 204 := by
  unfold pgF
  rw [frF_len]
  unfold pgB
  unfold mayPg at hm
  split
  · simp
  · rename_i h
    rw [if_neg h] at hm
    simp only [Bool.and_eq_true, decide_eq_true_eq] at hm
    simp [leN_len, strI_len]
    omega
theorem bkB_len (b : Bk) : (bkB b).length = 6 := by unfold bkB; simp [leN_len]
theorem flat_len {α : Type} {f : α → List Int} {c : Nat} : ∀ {l : List α}, (∀ x ∈ l, (f x).length ≤ c) → (l.flatMap f).length ≤ c * l.length
  | [], _ => by simp
  | x :: l, h => by
    have h1 := h x (by simp)
    have h2 := flat_len (l := l) fun y hy => h y (by simp [hy])
    rw [List.flatMap_cons, List.length_append, List.length_cons, Nat.mul_succ]
    omega
/-- What is written of the first blocks. -/
def outB (g : Ge) (bs : List Bk) (x : Nat) : List Int := frF smF 71 (hdB g) ++ (bs.take x).flatMap (bkF smF)
def outP (g : Ge) (bs : List Bk) (x : Nat) (b : Bk) (y : Nat) : List Int := outB g bs x ++ (frF smF 66 (bkB b) ++ (b.pages.take y).flatMap (pgF smF))
theorem may_all {g : Ge} {bs : List Bk} (h : mayF g bs = true) : chkG g = true ∧ bs.length ≤ 64 ∧ ∀ b ∈ bs, b.pages.length ≤ 16 ∧ b.pages.all mayPg = true ∧ 0 ≤ b.er ∧ b.er ≤ 2147483647 := by
  unfold mayF at h
  simp only [Bool.and_eq_true, beq_iff_eq] at h
  obtain ⟨hg, hl, hb⟩ := h
  have hc := chk_in.1 hg
  unfold nB at hl
  rw [if_pos hg] at hl
  refine ⟨hg, by omega, fun b hb' => ?_⟩
  obtain ⟨i, hi⟩ := List.getElem?_of_mem hb'
  have := mayBs_iff.1 hb i b hi
  unfold mayBk at this
  simp only [Bool.and_eq_true, decide_eq_true_eq] at this
  have hp := hc.1.2.2.2
  exact ⟨by omega, this.2.2.2.2, this.2.1, this.2.2.1⟩
theorem bkF_len {b : Bk} (h : b.pages.length ≤ 16) (hm : b.pages.all mayPg = true) : (bkF smF b).length ≤ 3277 := by
  unfold bkF
  rw [List.length_append, frF_len, bkB_len]
  have := flat_len (f := pgF smF) (c := 204) (l := b.pages) fun x hx => pgF_len (List.all_eq_true.1 hm x hx)
  omega
theorem outB_len {g : Ge} {bs : List Bk} (h : mayF g bs = true) (x : Nat) : (outB g bs x).length ≤ 209739 := by
  obtain ⟨hg, hl, hb⟩ := may_all h
  unfold outB
  rw [List.length_append, frF_len]
  have h1 := flat_len (f := bkF smF) (c := 3277) (l := bs.take x) fun b hb' => bkF_len (hb b (List.mem_of_mem_take hb')).1 (hb b (List.mem_of_mem_take hb')).2.1
  have h2 : (bs.take x).length ≤ 64 := by rw [List.length_take]; omega
  have h3 : (hdB g).length = 4 := by unfold hdB; simp [leN_len]
  have h4 : 3277 * (bs.take x).length ≤ 3277 * 64 := Nat.mul_le_mul_left _ h2
  omega
theorem outP_len {g : Ge} {bs : List Bk} (h : mayF g bs = true) {x : Nat} {b : Bk} (hb : b ∈ bs) (y : Nat) : (outP g bs x b y).length ≤ 300000 := by
  obtain ⟨hg, hl, hb'⟩ := may_all h
  obtain ⟨h1, h2, _⟩ := hb' b hb
  have h0 := outB_len h x
  unfold outP
  rw [List.length_append, List.length_append, frF_len, bkB_len]
  have h3 := flat_len (f := pgF smF) (c := 204) (l := b.pages.take y) fun x hx => pgF_len (List.all_eq_true.1 h2 x (List.mem_of_mem_take hx))
  have h4 : (b.pages.take y).length ≤ 16 := by rw [List.length_take]; omega
  omega
theorem outP_succ {g : Ge} {bs : List Bk} {x : Nat} {b : Bk} {y : Nat} {p : Pg} (h : b.pages[y]? = some p) : outP g bs x b (y + 1) = outP g bs x b y ++ frF smF 80 (pgB p) := by
  unfold outP
  rw [take_snoc h, List.flatMap_append]
  simp [pgF]
theorem outB_succ {g : Ge} {bs : List Bk} {x : Nat} {b : Bk} (h : bs[x]? = some b) : outB g bs (x + 1) = outP g bs x b b.pages.length := by
  unfold outP outB
  rw [take_snoc h, List.flatMap_append, List.take_length]
  simp [bkF]
theorem outB_end {g : Ge} {bs : List Bk} : outB g bs bs.length = toldF smF g bs := by
  unfold outB toldF
  rw [List.take_length]
end Go.Proofs.Ytibefgdjijmncaa
end
section
namespace Go.Proofs.Ytibefgdjijmncaa
open Go.RowKit Sz
set_option maxHeartbeats 4000000
set_option maxRecDepth 20000
-- almshouse/frame.Open (1 parameters)
def x93 : XC := (.seq (.tree (.seq ⟨some 2, none, (.ofA (.mv (.cst (.v (.int .i64 0)))))⟩
  (.seq ⟨some 3, none, (.ofA (.mv (.cst (.v (.slice none 0 0)))))⟩
  (.seq ⟨some 4, none, (.ofA (.mv (.cst (.v (.int .i64 0)))))⟩
  (.seq ⟨some 5, none, (.ofA (.mv (.cst (.v (.int .i64 0)))))⟩
  .done)))))
 (.seq (.tree (.seq ⟨some 9, none, (.ofA (.mv (.tmp 0)))⟩
  (.seq ⟨some 10, none, (.call (.cst (.fn 94 [])) [(.tmp 9)])⟩
  (.seq ⟨some 6, none, (.ofA (.mv (.tmp 10)))⟩
  .done))))
 (.seq (.tree (.seq ⟨some 11, none, (.ofA (.mv (.tmp 6)))⟩
  (.seq ⟨some 12, none, (.call (.cst (.fn 52 [])) [(.tmp 11), (.cst (.v (.int .i64 1)))])⟩
  (.seq ⟨some 2, none, (.ofA (.mv (.tmp 12)))⟩
  .done))))
 (.seq (.tree (.seq ⟨some 13, none, (.ofA (.mv (.tmp 6)))⟩
  (.seq ⟨some 14, none, (.call (.cst (.fn 52 [])) [(.tmp 13), (.cst (.v (.int .i64 2)))])⟩
  (.seq ⟨some 7, none, (.ofA (.mv (.tmp 14)))⟩
  .done))))
 (.seq (.seq (.tree (.seq ⟨some 15, none, (.ofA (.mv (.tmp 6)))⟩
  (.seq ⟨some 16, none, (.call (.cst (.fn 124 [])) [(.tmp 15)])⟩
  (.seq ⟨some 17, none, (.ofA (.mv (.tmp 7)))⟩
  (.seq ⟨some 18, none, (.ofA (.bin .add (.tmp 17) (.cst (.v (.int .i64 4)))))⟩
  (.seq ⟨some 19, none, (.ofA (.bin .lss (.tmp 16) (.tmp 18)))⟩
  (.seq ⟨some 20, none, (.ofA (.mv (.tmp 19)))⟩
  (.seq ⟨some 21, some (20, false), (.ofA (.mv (.tmp 0)))⟩
  (.seq ⟨some 22, some (20, false), (.ofA (.len (.tmp 21)))⟩
  (.seq ⟨some 23, some (20, false), (.ofA (.bin .lss (.tmp 22) (.cst (.v (.int .i64 3)))))⟩
  (.seq ⟨some 24, none, (.ofA (.pick (.tmp 20) (.cst (.v (.bool true))) (.tmp 23)))⟩
  .done)))))))))))
 (.cond (.tmp 24)
 (.seq (.tree (.seq ⟨some 2, none, (.ofA (.mv (.cst (.v (.int .i64 0)))))⟩
  (.seq ⟨some 3, none, (.ofA (.mv (.cst (.v (.slice none 0 0)))))⟩
  (.seq ⟨some 4, none, (.ofA (.mv (.cst (.v (.int .i64 0)))))⟩
  (.seq ⟨some 5, none, (.ofA (.mv (.cst (.v (.int .i64 2)))))⟩
  .done)))))
 .ret)
 .skip))
 (.seq (.tree (.seq ⟨some 25, none, (.ofA (.mv (.tmp 7)))⟩
  (.seq ⟨some 26, none, (.ofA (.bin .add (.cst (.v (.int .i64 3))) (.tmp 25)))⟩
  (.seq ⟨some 8, none, (.ofA (.mv (.tmp 26)))⟩
  .done))))
 (.seq (.seq (.tree (.take ⟨some 27, none, (.ofA (.mv (.tmp 0)))⟩
  (.take ⟨some 28, none, (.ofA (.mv (.tmp 8)))⟩
  (.take ⟨some 29, none, (.ofA (.slc 1 (.tmp 27) (some (.tmp 28)) none))⟩
  (.take ⟨some 32, none, (.ofA (.mv (.tmp 0)))⟩
  (.take ⟨some 33, none, (.ofA (.mv (.tmp 8)))⟩
  (.take ⟨some 34, none, (.ofA (.slc 1 (.tmp 32) none (some (.tmp 33))))⟩
  (.alt [true] [(⟨some 30, none, (.call (.cst (.fn 94 [])) [(.tmp 29)])⟩,
 (.alt [false] [(⟨some 31, none, (.call (.cst (.fn 52 [])) [(.tmp 30), (.cst (.v (.int .i64 4)))])⟩,
 (.alt [true] [(⟨some 35, none, (.call (.cst (.fn 123 [])) [(.tmp 34)])⟩,
 (.take ⟨some 36, none, (.ofA (.conv .i64 (.tmp 35)))⟩
  (.take ⟨some 37, none, (.ofA (.bin .neq (.tmp 31) (.tmp 36)))⟩
  .done)))]))]))]))))))))
 (.cond (.tmp 37)
 (.seq (.tree (.seq ⟨some 2, none, (.ofA (.mv (.cst (.v (.int .i64 0)))))⟩
  (.seq ⟨some 3, none, (.ofA (.mv (.cst (.v (.slice none 0 0)))))⟩
  (.seq ⟨some 4, none, (.ofA (.mv (.cst (.v (.int .i64 0)))))⟩
  (.seq ⟨some 5, none, (.ofA (.mv (.cst (.v (.int .i64 14)))))⟩
  .done)))))
 .ret)
 .skip))
 (.seq (.tree (.seq ⟨some 38, none, (.ofA (.mv (.tmp 2)))⟩
  (.seq ⟨some 39, none, (.ofA (.mv (.tmp 0)))⟩
  (.seq ⟨some 40, none, (.ofA (.mv (.tmp 8)))⟩
  (.seq ⟨some 41, none, (.ofA (.slc 1 (.tmp 39) (some (.cst (.v (.int .i64 3)))) (some (.tmp 40))))⟩
  (.seq ⟨some 42, none, (.call (.cst (.fn 90 [])) [(.tmp 41)])⟩
  (.seq ⟨some 43, none, (.ofA (.mv (.tmp 8)))⟩
  (.seq ⟨some 44, none, (.ofA (.bin .add (.tmp 43) (.cst (.v (.int .i64 4)))))⟩
  (.seq ⟨some 2, none, (.ofA (.mv (.tmp 38)))⟩
  (.seq ⟨some 3, none, (.ofA (.mv (.tmp 42)))⟩
  (.seq ⟨some 4, none, (.ofA (.mv (.tmp 44)))⟩
  (.seq ⟨some 5, none, (.ofA (.mv (.cst (.v (.int .i64 0)))))⟩
  .done))))))))))))
 .ret))))))))
def r93 : List XR := [.tmp 2, .tmp 3, .tmp 4, .tmp 5]
theorem fn93 : FnX Try.prog 93 [50, 51, 52, 54, 56, 95, 97, 98, 99, 100, 101, 125, 126] 45 x93 r93 := ⟨_, Try.func93, by kernel_rfl, by kernel_rfl, by kernel_rfl, by kernel_rfl⟩
theorem rdB_cut [Inp] {p : Option Addr} {n c l h : Nat} {bs : List Int} {m : Mem} (hi : inpL p n = some (bs.map (Value.int .u8))) (hl : l ≤ h) (hn : h ≤ n) (hc : n ≤ c) (c2 : Nat) : rdB m (.v (.slice (cutA p l c 1) (h - l) c2)) = some ((bs.drop l).take (h - l)) := by
  refine rdB_v ?_
  have := @inpL_cut _ p n 1 c l h _ (by rw [Nat.mul_one]; exact hi) hl hn hc
  simp only [Nat.mul_one] at this
  rw [this, List.map_take, List.map_drop]
theorem in_of {I J : Inp} {m : Mem} {p : Option Addr} {c : Nat} {bs : List Int} {u : Value} (hin : @inpL I p bs.length = some (bs.map (Value.int .u8))) (hk : Knows I J m (.v (.slice p bs.length c)) u) : u = .slice p bs.length c ∧ @inpL J p bs.length = some (bs.map (Value.int .u8)) := by
  have hb : @rdB I m (.v (.slice p bs.length c)) = some bs := @rdB_v I _ _ _ _ _ hin
  obtain ⟨p2, c2, hu, hin2⟩ := rdB_knows hb hk
  have h1 := hk.1 _ rfl
  rw [h1] at hu
  injection hu with q1 q2 q3
  subst q1
  exact ⟨h1, hin2⟩
def G93 [Inp] : List CEntry := [⟨94, true, h94⟩, ⟨52, false, h52⟩, ⟨124, false, h124⟩, ⟨123, true, c123⟩, ⟨90, true, c90x⟩]
theorem g93 [Inp] : GOk Try.prog G93 := GOk.cons h94_ok (GOk.cons h52_ok (GOk.cons h124_ok (GOk.cons c123_ok (GOk.cons c90x_ok (g0 _)))))
def c93 [Inp] : Trans := fun args m k => ∃ (p : Option Addr) (c : Nat) (bs : List Int), args = [.v (.slice p bs.length c)] ∧ bs.length ≤ c ∧ inpL p bs.length = some (bs.map (Value.int .u8)) ∧ bs.length ≤ 1000000 ∧ Byt bs ∧
  (∀ e, openF smF bs = .err e → k (.tup [.v (.int .i64 0), .v (.slice none 0 0), .v (.int .i64 0), .v (.int .i64 e)]) m) ∧
  (∀ kk body size, openF smF bs = .ok kk body size → k (.tup [.v (.int .i64 kk), .row m.length 0 body.length 1, .v (.int .i64 size), .v (.int .i64 0)]) (m ++ [⟨true, bL body⟩]) ∧ (body = [] → k (.tup [.v (.int .i64 kk), .v (.slice none 0 0), .v (.int .i64 size), .v (.int .i64 0)]) m))
theorem c93_ok [Inp] : Contract Try.prog 93 true c93 := by
  refine .readF fn93 (G := fun J => @G93 J) (fun J => @g93 J) _ fun args m k h => ?_
  unfold c93 at h
  obtain ⟨p, c, bs, rfl, hc, hin0, hmax, hB, he, ho⟩ := h
  refine ⟨by simp, fun J hJ us hus => ?_⟩
  obtain ⟨u, t1, rfl, hk1, rfl⟩ := hus
  obtain ⟨rfl, hin⟩ := in_of hin0 hk1
  have hr : ∀ m, rdB m (.v (.slice p bs.length c)) = some bs := fun m => rdB_v hin
  simp (maxSteps := 2000000) -implicitDefEqProofs only [↓x93, ↓r93, ↓G93, ↓h94, s_alt, s_alt20, s_alt2t, s_alt2f, ↓s_loopi, ↓v_pq, ↓PRE, POST, CORE, Nat.reduceDiv, Nat.reduceMod, Int.reduceLT, Int.reduceLE, Int.reduceToNat, Int.reduceAdd, ↓reduceIte, Nat.reduceEqDiff, Nat.reduceAdd, Nat.reduceMul, Nat.reduceSub, Nat.reduceLeDiff, Nat.reduceLT, reduceCtorEq, if_true, eq_self, forall_const, implies_true]
  refine ⟨_, bs, rfl, hr _, hmax, hB, ?_⟩
  try simp (maxSteps := 2000000) -implicitDefEqProofs only [↓G93, ↓h52, s_alt, s_alt20, s_alt2t, s_alt2f, ↓s_loopi, ↓v_pq, ↓PRE, POST, CORE, Nat.reduceDiv, Nat.reduceMod, Int.reduceLT, Int.reduceLE, Int.reduceToNat, Int.reduceAdd, ↓reduceIte, Nat.reduceEqDiff, Nat.reduceAdd, Nat.reduceMul, Nat.reduceSub, Nat.reduceLeDiff, Nat.reduceLT, reduceCtorEq, if_true, eq_self, forall_const, implies_true]
  refine ⟨0, 1, (bs, 0), rfl, rfl, by simp, 0, 2, (numR 1 (bs, 0)).2, rfl, rfl, by simp, ?_⟩
  simp (maxSteps := 2000000) -implicitDefEqProofs only [↓h124, s_alt, s_alt20, s_alt2t, s_alt2f, ↓s_loopi, ↓v_pq, ↓PRE, POST, CORE, Nat.reduceDiv, Nat.reduceMod, Int.reduceLT, Int.reduceLE, Int.reduceToNat, Int.reduceAdd, ↓reduceIte, Nat.reduceEqDiff, Nat.reduceAdd, Nat.reduceMul, Nat.reduceSub, Nat.reduceLeDiff, Nat.reduceLT, reduceCtorEq, if_true, eq_self, forall_const, implies_true]
  refine ⟨0, _, rfl, rfl, ?_⟩
  have fin : ∀ (L : List Value) (m' : Mem), k (.tup (L.map .v)) m → ∃ (g2 : List Nat) (s2 : SV) (m2 : Mem), g2.Nodup ∧ FitM g2 m' g2 m2 ∧ (∀ o ∈ m2, o.own = true) ∧ Le g2 s2 (.tup (L.map .v)) ∧ k (s2.up m.length) (m ++ m2.map (SObj.up m.length)) := fun L m' hk =>
    ⟨[], .tup (L.map .v), [], by simp, trivial, by simp, by simp only [Le]; exact LeL_plain [] (plainL_v L), by rw [show (SV.tup (L.map .v)).up m.length = .tup (L.map .v) by simp only [SV.up, upL_v]]; simpa using hk⟩
  by_cases h3 : bs.length < 3
  · have hk := he 2 (by unfold openF; rw [if_pos (by omega)])
    have d3 : decide ((bs.length : Int) < 3) = true := decide_eq_true (by omega)
    cases d1 : decide (((numR 2 (numR 1 (bs, 0)).2).2.1.length : Int) < IntKind.i64.wrap ((numR 2 (numR 1 (bs, 0)).2).1 + 4)) with
    | true =>
      simp (maxSteps := 2000000) -implicitDefEqProofs only [d1, d3, s_alt, s_alt20, s_alt2t, s_alt2f, ↓s_loopi, ↓v_pq, ↓PRE, POST, CORE, Nat.reduceDiv, Nat.reduceMod, Int.reduceLT, Int.reduceLE, Int.reduceToNat, Int.reduceAdd, ↓reduceIte, Nat.reduceEqDiff, Nat.reduceAdd, Nat.reduceMul, Nat.reduceSub, Nat.reduceLeDiff, Nat.reduceLT, reduceCtorEq, if_true, eq_self, forall_const, implies_true]
      exact fin [.int .i64 0, .slice none 0 0, .int .i64 0, .int .i64 2] _ hk
    | false =>
      simp (maxSteps := 2000000) -implicitDefEqProofs only [d1, d3, s_alt, s_alt20, s_alt2t, s_alt2f, ↓s_loopi, ↓v_pq, ↓PRE, POST, CORE, Nat.reduceDiv, Nat.reduceMod, Int.reduceLT, Int.reduceLE, Int.reduceToNat, Int.reduceAdd, ↓reduceIte, Nat.reduceEqDiff, Nat.reduceAdd, Nat.reduceMul, Nat.reduceSub, Nat.reduceLeDiff, Nat.reduceLT, reduceCtorEq, if_true, eq_self, forall_const, implies_true]
      exact fin [.int .i64 0, .slice none 0 0, .int .i64 0, .int .i64 2] _ hk
  have numR_in : ∀ (n : Nat) (b : List Int), n ≤ b.length → numR n (b, 0) = (leV (b.take n), (b.drop n, 0)) := fun n b hn => by
    unfold numR takeR
    simp only [if_true]
    rw [if_neg (by omega)]
  have d3 : decide ((bs.length : Int) < 3) = false := decide_eq_false (by omega)
  rw [numR_in 1 bs (by omega), numR_in 2 (bs.drop 1) (by simp; omega)]
  have hb2 := leV_bound ((hB.drop 1).take 2)
  have l2 : ((bs.drop 1).take 2).length = 2 := by simp; omega
  rw [l2] at hb2
  have hv : leV ((bs.drop 1).take 2) = (bodyN bs : Int) := by unfold bodyN; omega
  rw [hv] at hb2 ⊢
  have hbn : bodyN bs < 65536 := by omega
  generalize hN : bodyN bs = N at hbn ⊢
  have a1 : IntKind.i64.wrap ((N : Int) + 4) = ((N + 4 : Nat) : Int) := Sz.w_64 (by omega) (by omega)
  have a2 : IntKind.i64.wrap (3 + (N : Int)) = ((3 + N : Nat) : Int) := Sz.w_64 (by omega) (by omega)
  have l3 : ((bs.drop 1).drop 2).length = bs.length - 3 := by simp
  by_cases hs : bs.length < N + 7
  · have hk := he 2 (by unfold openF; rw [hN, if_pos hs])
    have d1 : decide (((bs.length - 3 : Nat) : Int) < ((N + 4 : Nat) : Int)) = true := decide_eq_true (by omega)
    simp (maxSteps := 2000000) -implicitDefEqProofs only [l3, a1, d1, s_alt, s_alt20, s_alt2t, s_alt2f, ↓s_loopi, ↓v_pq, ↓PRE, POST, CORE, Nat.reduceDiv, Nat.reduceMod, Int.reduceLT, Int.reduceLE, Int.reduceToNat, Int.reduceAdd, ↓reduceIte, Nat.reduceEqDiff, Nat.reduceAdd, Nat.reduceMul, Nat.reduceSub, Nat.reduceLeDiff, Nat.reduceLT, reduceCtorEq, if_true, eq_self, forall_const, implies_true]
    exact fin [.int .i64 0, .slice none 0 0, .int .i64 0, .int .i64 2] _ hk
  have d1 : decide (((bs.length - 3 : Nat) : Int) < ((N + 4 : Nat) : Int)) = false := decide_eq_false (by omega)
  simp (maxSteps := 2000000) -implicitDefEqProofs only [l3, a1, a2, d1, d3, Int.toNat_natCast, s_alt, s_alt20, s_alt2t, s_alt2f, ↓s_loopi, ↓v_pq, ↓PRE, POST, CORE, Nat.reduceDiv, Nat.reduceMod, Int.reduceLT, Int.reduceLE, Int.reduceToNat, Int.reduceAdd, ↓reduceIte, Nat.reduceEqDiff, Nat.reduceAdd, Nat.reduceMul, Nat.reduceSub, Nat.reduceLeDiff, Nat.reduceLT, reduceCtorEq, if_true, eq_self, forall_const, implies_true]
  have e0 : rdB [rH ((bs.drop 1).drop 2, 0)] (.v (.slice (cutA p (3 + N) c 1) (bs.length - (3 + N)) (c - (3 + N)))) = some (bs.drop (3 + N)) := by
    rw [rdB_cut hin (by omega) (by omega) hc _, List.take_of_length_le (by simp)]
  refine ⟨by omega, ⟨by omega, hc⟩, by omega, ⟨by omega, by omega⟩, _, _, rfl, e0, by simp; omega, hB.drop _, 1, 4, (bs.drop (3 + N), 0), rfl, rfl, by simp, ?_⟩
  rw [numR_in 4 _ (by simp; omega)]
  have e1 : ∀ m, rdB m (.v (.slice (cutA p 0 c 1) (3 + N - 0) (c - 0))) = some (bs.take (3 + N)) := fun m => by
    rw [rdB_cut hin (by omega) (by omega) hc _, List.drop_zero, Nat.sub_zero]
  have e2 : ∀ m, rdB m (.v (.slice (cutA p 3 c 1) (3 + N - 3) (c - 3))) = some ((bs.drop 3).take N) := fun m => by
    rw [rdB_cut hin (by omega) (by omega) hc _, show 3 + N - 3 = N by omega]
  simp (maxSteps := 2000000) -implicitDefEqProofs only [↓c123, s_alt, s_alt20, s_alt2t, s_alt2f, ↓s_loopi, ↓v_pq, ↓PRE, POST, CORE, Nat.reduceDiv, Nat.reduceMod, Int.reduceLT, Int.reduceLE, Int.reduceToNat, Int.reduceAdd, ↓reduceIte, Nat.reduceEqDiff, Nat.reduceAdd, Nat.reduceMul, Nat.reduceSub, Nat.reduceLeDiff, Nat.reduceLT, reduceCtorEq, if_true, eq_self, forall_const, implies_true]
  refine ⟨_, e1 _, by simp; omega, ?_⟩
  have hw : IntKind.i64.wrap (sumF 0 (bs.take (3 + N))) = smF (bs.take (3 + N)) := rfl
  by_cases hsum : leV ((bs.drop (3 + N)).take 4) = smF (bs.take (3 + N))
  · have ho := ho _ _ _ (by unfold openF; rw [hN, if_neg hs, if_pos hsum])
    have d4 : (leV ((bs.drop (3 + N)).take 4) != smF (bs.take (3 + N))) = false := by rw [hsum]; simp
    have lb : ((bs.drop 3).take N).length = N := by simp; omega
    have a3 : IntKind.i64.wrap (((3 + N : Nat) : Int) + 4) = ((N + 7 : Nat) : Int) := by rw [Sz.w_64 (by omega) (by omega)]; omega
    simp (maxSteps := 2000000) -implicitDefEqProofs only [hw, d4, ↓c90x, a3, s_alt, s_alt20, s_alt2t, s_alt2f, ↓s_loopi, ↓v_pq, ↓PRE, POST, CORE, Nat.reduceDiv, Nat.reduceMod, Int.reduceLT, Int.reduceLE, Int.reduceToNat, Int.reduceAdd, ↓reduceIte, Nat.reduceEqDiff, Nat.reduceAdd, Nat.reduceMul, Nat.reduceSub, Nat.reduceLeDiff, Nat.reduceLT, reduceCtorEq, if_true, eq_self, forall_const, implies_true]
    refine ⟨by omega, ⟨by omega, by omega⟩, _, _, rfl, e2 _, by rw [lb]; omega, ?_, ?_⟩
    · have ho := ho.1
      clear e2 lb
      generalize (bs.drop 3).take N = B at ho ⊢
      refine ⟨[2], .tup [.v (.int .i64 (leV (bs.take 1))), .row 0 0 B.length 1, .v (.int .i64 (N + 7 : Nat)), .v (.int .i64 0)], [⟨true, bL B⟩], by simp, ?_, by simp, ?_, ?_⟩
      · simp [FitM, ObLe, bL_le]
      · simp [Le, LeL]
      · simpa [SV.up, upL, SObj.up, bL_up] using ho
    · intro h0
      exact fin [.int .i64 (leV (bs.take 1)), .slice none 0 0, .int .i64 (N + 7 : Nat), .int .i64 0] _ (ho.2 h0)
  · have hk := he 14 (by unfold openF; rw [hN, if_neg hs, if_neg hsum])
    have d4 : (leV ((bs.drop (3 + N)).take 4) != smF (bs.take (3 + N))) = true := by simpa using hsum
    simp (maxSteps := 2000000) -implicitDefEqProofs only [hw, d4, s_alt, s_alt20, s_alt2t, s_alt2f, ↓s_loopi, ↓v_pq, ↓PRE, POST, CORE, Nat.reduceDiv, Nat.reduceMod, Int.reduceLT, Int.reduceLE, Int.reduceToNat, Int.reduceAdd, ↓reduceIte, Nat.reduceEqDiff, Nat.reduceAdd, Nat.reduceMul, Nat.reduceSub, Nat.reduceLeDiff, Nat.reduceLT, reduceCtorEq, if_true, eq_self, forall_const, implies_true]
    exact fin [.int .i64 0, .slice none 0 0, .int .i64 0, .int .i64 14] _ hk
end Go.Proofs.Ytibefgdjijmncaa
end
section
namespace Go.Proofs.Ytibefgdjijmncaa.Sz
open Go.RowKit
section
variable {base : Nat → Prop} {w0 W : World} {r : List Loc} {m : Mem}
/-- What is hidden, and known to be plain cells, is seen again. -/
theorem St.unseal [Inp] (hst : St base w0 r m W) {j : Nat} {Q : List SV → Mem → Prop} {c : List SV} (hm : m[j]? = some (absO (hide 0 Q) [])) (hQ : ∀ h H, Q h H → h = c) (hp : plainL c = true) : St base w0 r (m.set j ⟨true, c⟩) W := by
  obtain ⟨F, hF⟩ := hst.hid
  have hj : j < m.length := (List.getElem?_eq_some_iff.1 hm).1
  have get : ∀ (k : Nat) (o : SObj), (m.set j (⟨true, c⟩ : SObj))[k]? = some o → (k = j ∧ o = ⟨true, c⟩) ∨ (k ≠ j ∧ m[k]? = some o) := fun k o h => by
    rw [List.getElem?_set] at h
    split at h
    · rename_i e
      try rw [if_pos hj] at h
      injection h with h
      exact .inl ⟨e.symm, h.symm⟩
    · rename_i e
      exact .inr ⟨fun h => e h.symm, h⟩
  refine ⟨hst.low, hst.from_, hst.inp, by simp [hst.len], fun k l o h1 h2 => ?_, fun k k' l l' o o' h1 h2 h3 h4 hne ho hal => ?_, fun k => if k = j then [] else F k, fun k l o h1 h2 => ?_, fun k b hb => ?_, fun k b hb k' l o h1 h2 hal => ?_, fun k k' b hb hb' => ?_⟩
  · rcases get k o h2 with ⟨rfl, rfl⟩ | ⟨hk, h3⟩
    · have hh := hF.is k l _ h1 hm
      rw [absO_hid] at hh
      obtain ⟨ls, hls, h, H, rH, Fi, a⟩ := hh
      obtain rfl := hQ h H a.is
      have hO := a.obj 0 l _ rfl hidM_0 (.inl rfl)
      have hA := hst.obj k l _ h1 hm
      refine ⟨fun q1 q2 => ?_, hO.fits, fun _ => hA.own rfl, hO.lt, trivial⟩
      obtain ⟨c, T, fr, g1, g2, g3, g4⟩ := hO.there rfl (.inl rfl)
      exact ⟨c, T, fr, g1, g2, plainL_is hp g3, g4⟩
    · exact hst.obj k l o h1 h3
  · have key : ∀ (k : Nat) (o : SObj), (m.set j (⟨true, c⟩ : SObj))[k]? = some o → ∃ q, m[k]? = some q ∧ (o.own = true → q.own = true) ∧ ((o.own = true ∨ o.cells ≠ []) → (q.own = true ∨ q.cells ≠ [])) := fun k o h => by
      rcases get k o h with ⟨rfl, rfl⟩ | ⟨hk, h3⟩
      · exact ⟨_, hm, fun _ => rfl, fun _ => .inl rfl⟩
      · exact ⟨o, h3, id, id⟩
    obtain ⟨q, a1, a2, a3⟩ := key k o h3
    obtain ⟨q', b1, b2, b3⟩ := key k' o' h4
    exact hst.sep k k' l l' q q' h1 h2 a1 b1 hne (a2 ho) (b3 hal)
  · rcases get k o h2 with ⟨rfl, rfl⟩ | ⟨hk, h3⟩
    · exact HidIs.not rfl
    · simp only [if_neg hk]
      exact hF.is k l o h1 h3
  · split at hb
    · simp at hb
    · exact hF.base k b hb
  · split at hb
    · simp at hb
    · rcases get k' o h2 with ⟨rfl, rfl⟩ | ⟨hk, h3⟩
      · exact hF.far k b hb k' l _ h1 hm (.inl rfl)
      · exact hF.far k b hb k' l o h1 h3 hal
  · split at hb
    · simp at hb
    · split at hb'
      · simp at hb'
      · exact hF.apart k k' b hb hb'
end
section
variable {P : Program} {f : FuncId} {eff : List FuncId} {N : Nat} {x : XC} {rs : List XR}
theorem Contract.methI [I : Inp] (hF : FnX P f eff N x rs) {G : Inp → List CEntry} (hG : ∀ J, @GOk J P (G J)) (tr : Trans)
    (body : ∀ args m k, tr args m k → ∃ (j n : Nat) (us : List SV) (Q : List SV → Mem → Prop) (refs : List Nat) (os : List RO), args = .ptr j 0 :: us ∧ m[j]? = some (absO (hide n Q) refs) ∧ (j :: refs).Nodup ∧ refs.length = n ∧ os.length = n ∧
      (∀ (i q : Nat) (o : RO), refs[i]? = some q → os[i]? = some o → m[q]? = some (o.out (j :: refs)) ∧ o.ok (n + 1)) ∧ us.length + 1 ≤ N ∧
      ∀ h H, Q h H → ∀ J : Inp, J.keep = n + 1 → (∀ (p : Option Addr) (i : Nat) (us : List Value), @inpL I p i = some us → @inpL J p i = some us) → ∀ vs, KnowsL I J (killL m (j :: refs)) us vs →
        @evX J P N eff (G J) x (slots (argSlots 0 (.ptr 0 0 :: vs.map SV.of))) (opM h os H) (fun ex e m' => EndsX ex ∧ evR rs e m' fun s => ∃ (c : Out) (Q' : List SV → Mem → Prop) (g : List Nat), NdL g c.mem ∧ FitM g m' g c.mem ∧ @KeepOk J g ∧ Le g (c.s.up (opM c.h c.os c.H).length) s ∧
          c.os.length = n ∧ (∀ o ∈ c.os, o.ok (n + 1)) ∧ Q' c.h (c.H ++ c.X.map fun _ => ⟨false, []⟩) ∧ (∀ o ∈ c.H, o.own = true ∨ o.cells = []) ∧ (∀ o ∈ c.X, o.own = true) ∧
          k (c.s.up m.length) (putL m (j :: refs) (absO (hide n Q') refs :: c.os.map (RO.out (j :: refs))) ++ c.X.map (SObj.up m.length)))) : Contract P f false tr := by
  refine ⟨hF.enter, fun args m k base w0 W r vs ht hst ha => ?_⟩
  obtain ⟨j, n, us, Q, refs, os, rfl, hm, hnd, hrn, hon, hos, hlen, hev⟩ := body args m k ht
  obtain ⟨l, vs, hl, rfl, ha2⟩ := ptr_inv0 ha
  obtain ⟨F, hFF⟩ := @St.hid I _ _ _ _ _ hst
  obtain ⟨h, H, ls, rH, hQ, hlsn, hrH, hls, hop⟩ := @St.open_ _ _ _ _ _ I hst F hFF j n l Q refs os hl hm hnd hrn hon hos
  have hgo : ∀ x ∈ j :: refs, ∃ o, m[x]? = some o ∧ o.own = true := by
    intro x hx
    rcases List.mem_cons.1 hx with rfl | hx
    · exact ⟨_, hm, rfl⟩
    · obtain ⟨i, hi⟩ := List.getElem?_of_mem hx
      obtain ⟨o, ho⟩ : ∃ o, os[i]? = some o := ⟨_, List.getElem?_eq_getElem (by have := (List.getElem?_eq_some_iff.1 hi).1; omega)⟩
      exact ⟨_, (hos i x o hi ho).1, RO.out_own⟩
  have hk := knowsL_op (I := I) hst hFF hgo (n + 1) ha2
  have hinp : ∀ (p : Option Addr) (i : Nat) (us : List Value), @inpL I p i = some us → @inpL (opI W (opB W r F (j :: refs)) (n + 1)) p i = some us := fun p i us hus => by
    have h1 := knowsL_op (I := I) hst hFF hgo (n + 1) (ss := [.v (.slice p i 0)]) (us := [.slice p i 0]) (by simp only [SV.IsL, SV.Is]; exact ⟨_, _, rfl, rfl, rfl⟩)
    obtain ⟨u, t, he, hkn, _⟩ := h1
    injection he with he _
    subst he
    obtain ⟨p2, c2, hu, hin⟩ := hkn.2.2 1 i us (by simp only [slOf, Nat.mul_one, hus, Option.map_some])
    injection hu with hu _ _
    subst hu
    rwa [Nat.mul_one] at hin
  have hvl := IsL_len ha2
  have hargs : @SV.IsL (l :: (ls ++ rH)) (.ptr 0 0 :: vs.map SV.of) (.pointer (some ⟨l.blk, l.off + 0, none⟩) :: vs) := by
    simp only [SV.IsL, SV.Is]
    exact ⟨_, _, rfl, ⟨l, rfl, rfl⟩, isL_of vs⟩
  refine (@FnX.calls P f eff N x rs (G (opI W (opB W r F (j :: refs)) (n + 1))) (opI W (opB W r F (j :: refs)) (n + 1)) hF (hG _) _ _ _ _ _ _ _ hop hargs (by simp; omega) _ (hev h H hQ _ rfl hinp vs hk)).mono ?_
  rintro e W1 ⟨s, m', r', u, ⟨c, Q', g, hnl, hfm, hkg, hle, c1, c2, c3, c4, c5, hkk⟩, rfl, hst1, hs, hkp⟩
  obtain ⟨r2, hst2, hr2, _⟩ := @fit_sound (opI W (opB W r F (j :: refs)) (n + 1)) 0 _ (fun _ => .any) _ _ [] _ _ _ _ #[] hnl hfm hst1
  -- the first locations are kept
  have hlen2 : r2.length = c.mem.length := @St.len (opI W (opB W r F (j :: refs)) (n + 1)) _ _ _ _ _ hst2
  have hkeep : ∀ q, q < n + 1 → r2[q]? = (l :: (ls ++ rH))[q]? := by
    intro q hq
    obtain ⟨lq, hlq⟩ : ∃ lq, (l :: (ls ++ rH))[q]? = some lq := ⟨_, List.getElem?_eq_getElem (by simp; omega)⟩
    rw [hlq]
    exact hr2 q q (hkg q hq) lq (hkp q lq hq hlq)
  have hopl : (opM c.h c.os c.H).length = n + 1 + c.H.length := by simp [opM, c1]; omega
  have hml : c.mem.length = n + 1 + c.H.length + c.X.length := by simp [Out.mem, hopl]
  obtain ⟨rH2, rX2, hsplit, hrH2⟩ : ∃ rH2 rX2, r2 = (l :: (ls ++ rH2)) ++ rX2 ∧ rH2.length = c.H.length := by
    refine ⟨(r2.drop (n + 1)).take c.H.length, (r2.drop (n + 1)).drop c.H.length, ?_, by simp; omega⟩
    have e1 : r2.take (n + 1) = l :: ls := by
      apply List.ext_getElem?
      intro q
      rw [List.getElem?_take]
      split
      · rename_i hq
        rw [hkeep q hq]
        cases q with
        | zero => rfl
        | succ q => rw [List.getElem?_cons_succ, List.getElem?_cons_succ, List.getElem?_append_left (by omega)]
      · rename_i hq
        rw [List.getElem?_eq_none (by simp; omega)]
    calc r2 = r2.take (n + 1) ++ r2.drop (n + 1) := (List.take_append_drop _ _).symm
      _ = (l :: ls) ++ ((r2.drop (n + 1)).take c.H.length ++ (r2.drop (n + 1)).drop c.H.length) := by rw [e1, List.take_append_drop]
      _ = _ := by simp
  subst hsplit
  have hj : j < m.length := (List.getElem?_eq_some_iff.1 hm).1
  have hsh := @St.shutX _ _ _ _ _ _ I hst F hFF j n l _ Q' refs os c.os hl hm hnd hrn hon hos ls rH2 rX2 hls _ c.h c.H c.X c5 hrH2 hst2 c1 c2 c3 c4
    (putL m (j :: refs) (absO (hide n Q') refs :: c.os.map (RO.out (j :: refs)))) putL_len (putL_at (i := 0) hnd rfl rfl hj) (fun i q o hq ho => putL_at (i := i + 1) hnd (by simpa using hq) (by simp [ho]) (by
      obtain ⟨o1, ho1⟩ : ∃ o, os[i]? = some o := ⟨_, List.getElem?_eq_getElem (by have := (List.getElem?_eq_some_iff.1 ho).1; omega)⟩
      exact (List.getElem?_eq_some_iff.1 (hos i q o1 hq ho1).1).1)) (fun k hk => putL_not hk)
  have hml2 : r.length = m.length := @St.len I _ _ _ _ _ hst
  refine ⟨_, _, rX2, u, hkk, rfl, hsh, ?_, fun h => by cases h⟩
  have hu := Le.is hr2 hle hs
  have hRl : (opM c.h c.os c.H).length = (l :: (ls ++ rH2)).length := by rw [hopl]; simp; omega
  rw [hRl] at hu
  have := up_is (r := r) (un_is hu)
  rw [hml2] at this
  exact this
/-- A method of one object of plain cells, that may make new objects. -/
theorem Contract.methN [I : Inp] (hF : FnX P f eff N x rs) {G : Inp → List CEntry} (hG : ∀ J, @GOk J P (G J)) (tr : Trans)
    (body : ∀ args m k, tr args m k → ∃ (j : Nat) (cs : List SV), args = [.ptr j 0] ∧ m[j]? = some ⟨true, cs⟩ ∧ plainL cs = true ∧ 1 ≤ N ∧
      ∀ J : Inp, J.keep = 1 → (∀ (p : Option Addr) (i : Nat) (us : List Value), @inpL I p i = some us → @inpL J p i = some us) →
        ∀ Q : SV → Mem → Prop, (∀ (c' : List SV) (X : Mem) (s2 : SV) (g : List Nat) (s : SV) (m' : Mem), plainL c' = true → NdL (0 :: g) (⟨true, c'⟩ :: X.map (SObj.up 1)) → FitM (0 :: g) m' (0 :: g) (⟨true, c'⟩ :: X.map (SObj.up 1)) → Le (0 :: g) (s2.up 1) s → (∀ o ∈ X, o.own = true) →
          k (s2.up m.length) (m.set j ⟨true, c'⟩ ++ X.map (SObj.up m.length)) → Q s m') →
        @evX J P N eff (G J) x (slots (argSlots 0 [.ptr 0 0])) [⟨true, cs⟩] (fun ex e m' => EndsX ex ∧ evR rs e m' fun s => Q s m')) : Contract P f false tr := by
  have hC : Contract P f false (fun args m2 k2 => ∃ (j : Nat) (cs : List SV) (m : Mem) (k : SV → Mem → Prop), tr args m k ∧ args = [.ptr j 0] ∧ m[j]? = some ⟨true, cs⟩ ∧ m2 = m.set j (absO (hide 0 fun h H => h = cs ∧ H = []) []) ∧
      k2 = fun s m3 => ∃ (c' : List SV) (X : Mem), m3 = m.set j (absO (hide 0 fun h H => h = c') []) ++ X.map (SObj.up m.length) ∧ plainL c' = true ∧ k s (m.set j ⟨true, c'⟩ ++ X.map (SObj.up m.length))) := by
    refine .methI hF hG _ fun args m2 k2 h => ?_
    obtain ⟨j, cs, m, k, ht, rfl, hm, rfl, rfl⟩ := h
    obtain ⟨j2, cs2, e1, hm2, hp, hN, hev⟩ := body _ m k ht
    injection e1 with e1 _
    injection e1 with e1 _
    subst e1
    rw [hm] at hm2
    injection hm2 with hm2
    injection hm2 with _ e2
    subst e2
    have hj : j < m.length := (List.getElem?_eq_some_iff.1 hm).1
    refine ⟨j, 0, [], _, [], [], rfl, by rw [List.getElem?_set_self hj], by simp, rfl, rfl, fun i q o hq => by simp at hq, hN, fun h H hQ J hJ hinp vs hvs => ?_⟩
    obtain ⟨rfl, rfl⟩ := hQ
    obtain rfl : vs = [] := hvs
    refine hev J hJ hinp _ fun c' X s2 g s m' h1 h2 h3 h4 h5 h6 => ?_
    refine ⟨⟨c', [], [], X, s2⟩, fun h H => h = c', 0 :: g, by simpa [Out.mem, opM] using h2, by simpa [Out.mem, opM] using h3, keep1 hJ rfl, by simpa [opM] using h4, rfl, by simp, rfl, by simp, h5, c', X, ?_, h1, ?_⟩
    · simp [putL]
    · simpa using h6
  refine ⟨hC.enter, fun args m k base w0 W r vs ht hst ha => ?_⟩
  obtain ⟨j, cs, rfl, hm, hp, hN, _⟩ := body args m k ht
  have hj : j < m.length := (List.getElem?_eq_some_iff.1 hm).1
  have hs := @St.seal base w0 W r m I hst j 0 [] [] cs [] (fun h H => h = cs ∧ H = []) rfl (by simp) (by simp [FitM, hidM, hm, ObLe, LeL_plain [j] hp]) ⟨rfl, rfl⟩ (by simp)
  refine (hC.calls _ _ _ base w0 W r vs ⟨j, cs, m, k, ht, rfl, hm, rfl, rfl⟩ hs ha).mono ?_
  rintro e W1 ⟨s, m3, t, u, ⟨c', X, rfl, hp', hk⟩, rfl, hst1, hu, _⟩
  refine ⟨s, _, t, u, hk, rfl, ?_, hu, fun h => by cases h⟩
  have := hst1.unseal (j := j) (c := c') (Q := fun h H => h = c') (by rw [List.getElem?_append_left (by simpa using hj), List.getElem?_set_self hj]) (fun h H hq => hq) hp'
  rw [List.set_append_left _ _ (by simpa using hj), List.set_set] at this
  exact this
end
end Go.Proofs.Ytibefgdjijmncaa.Sz
end
section
namespace Go.Proofs.Ytibefgdjijmncaa
open Go.RowKit Sz
set_option maxHeartbeats 4000000
set_option maxRecDepth 20000
-- almshouse/image.Parse$1 (1 parameters)
def x51 : XC := (.tree (.seq ⟨some 3, none, (.ofA (.mv (.tmp 0)))⟩
  (.seq ⟨some 4, none, (.call (.cst (.fn 52 [])) [(.tmp 3), (.cst (.v (.int .i64 1)))])⟩
  (.seq ⟨some 5, none, (.ofA (.mv (.tmp 0)))⟩
  (.seq ⟨some 6, none, (.call (.cst (.fn 52 [])) [(.tmp 5), (.cst (.v (.int .i64 1)))])⟩
  (.seq ⟨some 7, none, (.ofA (.mv (.tmp 0)))⟩
  (.seq ⟨some 8, none, (.call (.cst (.fn 52 [])) [(.tmp 7), (.cst (.v (.int .i64 1)))])⟩
  (.seq ⟨some 9, none, (.ofA (.mv (.tmp 0)))⟩
  (.seq ⟨some 10, none, (.call (.cst (.fn 52 [])) [(.tmp 9), (.cst (.v (.int .i64 1)))])⟩
  (.seq ⟨some 11, none, (.build [(.v (.int .i64 0)), (.v (.int .i64 0)), (.v (.int .i64 0)), (.v (.int .i64 0))] [(0, 1, (.tmp 4)), (1, 1, (.tmp 6)), (2, 1, (.tmp 8)), (3, 1, (.tmp 10))])⟩
  (.seq ⟨some 12, none, (.ofA (.faddr 0 (.tmp 1)))⟩
  (.seq ⟨none, none, (.store 4 (.tmp 12) (.tmp 11))⟩
  .done))))))))))))
def r51 : List XR := []
theorem fn51 : FnX Try.prog 51 [50, 51, 52, 54, 56, 95, 97, 98, 99, 100, 101, 125, 126] 13 x51 r51 := ⟨_, Try.func51, by kernel_rfl, by kernel_rfl, by kernel_rfl, by kernel_rfl⟩
-- (*almshouse/image.reader).block$1 (1 parameters)
def x99 : XC := (.seq (.tree (.seq ⟨some 4, none, (.ofA (.mv (.tmp 0)))⟩
  (.seq ⟨some 5, none, (.call (.cst (.fn 100 [])) [(.tmp 4)])⟩
  (.seq ⟨some 6, none, (.ofA (.faddr 0 (.tmp 1)))⟩
  (.seq ⟨none, none, (.store 1 (.tmp 6) (.tmp 5))⟩
  .done)))))
 (.seq (.tree (.seq ⟨some 7, none, (.ofA (.mv (.tmp 0)))⟩
  (.seq ⟨some 8, none, (.call (.cst (.fn 52 [])) [(.tmp 7), (.cst (.v (.int .i64 1)))])⟩
  (.seq ⟨none, none, (.store 1 (.tmp 2) (.tmp 8))⟩
  .done))))
 (.tree (.seq ⟨some 9, none, (.ofA (.mv (.tmp 0)))⟩
  (.seq ⟨some 10, none, (.call (.cst (.fn 52 [])) [(.tmp 9), (.cst (.v (.int .i64 4)))])⟩
  (.seq ⟨some 11, none, (.ofA (.faddr 1 (.tmp 1)))⟩
  (.seq ⟨none, none, (.store 1 (.tmp 11) (.tmp 10))⟩
  .done)))))))
def r99 : List XR := []
theorem fn99 : FnX Try.prog 99 [50, 51, 52, 54, 56, 95, 97, 98, 99, 100, 101, 125, 126] 12 x99 r99 := ⟨_, Try.func99, by kernel_rfl, by kernel_rfl, by kernel_rfl, by kernel_rfl⟩
-- (*almshouse/image.reader).page$1 (1 parameters)
def x125 : XC := (.seq (.tree (.seq ⟨some 3, none, (.ofA (.mv (.tmp 0)))⟩
  (.seq ⟨some 4, none, (.call (.cst (.fn 100 [])) [(.tmp 3)])⟩
  (.seq ⟨some 5, none, (.ofA (.faddr 0 (.tmp 1)))⟩
  (.seq ⟨none, none, (.store 1 (.tmp 5) (.tmp 4))⟩
  .done)))))
 (.seq (.tree (.seq ⟨some 6, none, (.ofA (.faddr 0 (.tmp 1)))⟩
  (.seq ⟨some 7, none, (.ofA (.load none (.tmp 6)))⟩
  (.seq ⟨some 8, none, (.ofA (.un .not (.tmp 7)))⟩
  .done))))
 (.cond (.tmp 8)
 (.seq (.tree (.seq ⟨some 9, none, (.ofA (.mv (.tmp 0)))⟩
  (.seq ⟨some 10, none, (.call (.cst (.fn 126 [])) [(.tmp 9), (.cst (.v (.int .i64 32)))])⟩
  (.seq ⟨some 11, none, (.ofA (.faddr 1 (.tmp 1)))⟩
  (.seq ⟨none, none, (.store 1 (.tmp 11) (.tmp 10))⟩
  .done)))))
 (.tree (.seq ⟨some 12, none, (.ofA (.mv (.tmp 0)))⟩
  (.seq ⟨some 13, none, (.call (.cst (.fn 126 [])) [(.tmp 12), (.cst (.v (.int .i64 160)))])⟩
  (.seq ⟨some 14, none, (.ofA (.faddr 2 (.tmp 1)))⟩
  (.seq ⟨none, none, (.store 1 (.tmp 14) (.tmp 13))⟩
  .done))))))
 .skip)))
def r125 : List XR := []
theorem fn125 : FnX Try.prog 125 [50, 51, 52, 54, 56, 95, 97, 98, 99, 100, 101, 125, 126] 15 x125 r125 := ⟨_, Try.func125, by kernel_rfl, by kernel_rfl, by kernel_rfl, by kernel_rfl⟩
-- (*almshouse/image.reader).fail (2 parameters)
def x54 : XC := (.seq (.tree (.seq ⟨some 4, none, (.ofA (.mv (.tmp 0)))⟩
  (.seq ⟨some 5, none, (.ofA (.nilc (.tmp 4)))⟩
  (.seq ⟨some 6, none, (.ofA (.faddr 1 (.tmp 5)))⟩
  (.seq ⟨some 7, none, (.ofA (.load none (.tmp 6)))⟩
  (.seq ⟨some 8, none, (.ofA (.bin .eql (.tmp 7) (.cst (.v (.int .i64 0)))))⟩
  .done))))))
 (.cond (.tmp 8)
 (.tree (.seq ⟨some 9, none, (.ofA (.mv (.tmp 0)))⟩
  (.seq ⟨some 10, none, (.ofA (.mv (.tmp 1)))⟩
  (.seq ⟨some 11, none, (.ofA (.nilc (.tmp 9)))⟩
  (.seq ⟨some 12, none, (.ofA (.faddr 1 (.tmp 11)))⟩
  (.seq ⟨none, none, (.store 1 (.tmp 12) (.tmp 10))⟩
  .done))))))
 .skip))
def r54 : List XR := []
theorem fn54 : FnX Try.prog 54 [50, 51, 52, 54, 56, 95, 97, 98, 99, 100, 101, 125, 126] 13 x54 r54 := ⟨_, Try.func54, by kernel_rfl, by kernel_rfl, by kernel_rfl, by kernel_rfl⟩
theorem get_set {m : Mem} {j : Nat} {o x : SObj} (h : m[j]? = some o) : (m.set j x)[j]? = some x := List.getElem?_set_self (List.getElem?_eq_some_iff.1 h).1
/-- Two objects are set: as seen and set again. -/
theorem two_p {m : Mem} {w p : Nat} {a b x y : SObj} (h : w ≠ p) (hw : m[w]? = some a) (hp : m[p]? = some b) : ((m.set w x).set p y)[p]? = some y := List.getElem?_set_self (by rw [List.length_set]; exact (List.getElem?_eq_some_iff.1 hp).1)
theorem two_w {m : Mem} {w p : Nat} {a x y : SObj} (h : w ≠ p) (hw : m[w]? = some a) : ((m.set w x).set p y)[w]? = some x := by
  rw [List.getElem?_set_ne (fun e => h e.symm)]
  exact List.getElem?_set_self (List.getElem?_eq_some_iff.1 hw).1
theorem two_sw {m : Mem} {w p : Nat} {x y z : SObj} (h : w ≠ p) : ((m.set w x).set p y).set w z = (m.set w z).set p y := by
  rw [List.set_comm _ _ (fun e => h e.symm), List.set_set]
theorem two_sp {m : Mem} {w p : Nat} {x y z : SObj} : ((m.set w x).set p y).set p z = (m.set w x).set p z := List.set_set ..
theorem get_ne {m : Mem} {j k : Nat} {x : SObj} (h : j ≠ k) : (m.set j x)[k]? = m[k]? := List.getElem?_set_ne h
def pgO (x : Pg) : SObj := ⟨true, [.v (.bool x.torn), .v (.string x.beside), .v (.string x.data)]⟩
def pgR (s : RS) : Pg × RS := if (flagR s).1 = true then (⟨true, strB [], strB []⟩, (flagR s).2) else (⟨false, strB (textR 32 (flagR s).2).1, strB (textR 160 (textR 32 (flagR s).2).2).1⟩, (textR 160 (textR 32 (flagR s).2).2).2)
def G125 [Inp] : List CEntry := [⟨100, false, h100⟩, ⟨126, false, h126⟩]
theorem g125 [Inp] : GOk Try.prog G125 := GOk.cons h100_ok (GOk.cons h126_ok (g0 _))
def c125 [Inp] : Trans := fun args m k => ∃ (w p : Nat) (s : RS), args = [.ptr w 0, .ptr p 0] ∧ w ≠ p ∧ m[w]? = some (rH s) ∧ m[p]? = some (pgO ⟨false, strB [], strB []⟩) ∧ k (.tup []) ((m.set w (rH (pgR s).2)).set p (pgO (pgR s).1))
theorem c125_ok [Inp] : Contract Try.prog 125 false c125 := by
  refine .full fn125 (G := fun J => @G125 J) (fun J => @g125 J) _ fun args m k h => ?_
  unfold c125 at h
  obtain ⟨w, p, s, rfl, hwp, hw, hp, hk⟩ := h
  refine ⟨by simp, fun J hJ hA => ?_⟩
  simp (maxSteps := 2000000) -implicitDefEqProofs only [↓x125, ↓r125, ↓G125, ↓h100, s_alt, s_alt20, s_alt2t, s_alt2f, ↓s_loopi, ↓v_pq, ↓PRE, POST, CORE, Nat.reduceDiv, Nat.reduceMod, Int.reduceLT, Int.reduceLE, Int.reduceToNat, Int.reduceAdd, ↓reduceIte, Nat.reduceEqDiff, Nat.reduceAdd, Nat.reduceMul, Nat.reduceSub, Nat.reduceLeDiff, Nat.reduceLT, reduceCtorEq, if_true, eq_self, forall_const, implies_true]
  refine ⟨w, s, rfl, hw, ?_⟩
  have f1 : ∀ x, (m.set w x)[p]? = some (pgO ⟨false, strB [], strB []⟩) := fun x => by rw [get_ne hwp, hp]
  try simp (maxSteps := 2000000) -implicitDefEqProofs only [f1, pgO, s_alt, s_alt20, s_alt2t, s_alt2f, ↓s_loopi, ↓v_pq, ↓PRE, POST, CORE, Nat.reduceDiv, Nat.reduceMod, Int.reduceLT, Int.reduceLE, Int.reduceToNat, Int.reduceAdd, ↓reduceIte, Nat.reduceEqDiff, Nat.reduceAdd, Nat.reduceMul, Nat.reduceSub, Nat.reduceLeDiff, Nat.reduceLT, reduceCtorEq, if_true, eq_self, forall_const, implies_true]
  have f2 : ∀ x y, ((m.set w x).set p y)[p]? = some y := fun x y => two_p hwp hw hp
  have f3 : ∀ x y, ((m.set w x).set p y)[w]? = some x := fun x y => two_w hwp hw
  have f4 : ∀ x y z, ((m.set w x).set p y).set w z = (m.set w z).set p y := fun x y z => two_sw hwp
  have f5 : ∀ x y z, ((m.set w x).set p y).set p z = (m.set w x).set p z := fun x y z => two_sp
  cases ht : (flagR s).1 with
  | true =>
    have e : pgR s = (⟨true, strB [], strB []⟩, (flagR s).2) := by unfold pgR; rw [if_pos ht]
    rw [e] at hk
    simp (maxSteps := 2000000) -implicitDefEqProofs only [f2, s_alt, s_alt20, s_alt2t, s_alt2f, ↓s_loopi, ↓v_pq, ↓PRE, POST, CORE, Nat.reduceDiv, Nat.reduceMod, Int.reduceLT, Int.reduceLE, Int.reduceToNat, Int.reduceAdd, ↓reduceIte, Nat.reduceEqDiff, Nat.reduceAdd, Nat.reduceMul, Nat.reduceSub, Nat.reduceLeDiff, Nat.reduceLT, reduceCtorEq, if_true, eq_self, forall_const, implies_true]
    exact hk
  | false =>
    have e : pgR s = (⟨false, strB (textR 32 (flagR s).2).1, strB (textR 160 (textR 32 (flagR s).2).2).1⟩, (textR 160 (textR 32 (flagR s).2).2).2) := by unfold pgR; rw [if_neg (by simp [ht])]
    rw [e] at hk
    simp (maxSteps := 2000000) -implicitDefEqProofs only [f2, ↓h126, s_alt, s_alt20, s_alt2t, s_alt2f, ↓s_loopi, ↓v_pq, ↓PRE, POST, CORE, Nat.reduceDiv, Nat.reduceMod, Int.reduceLT, Int.reduceLE, Int.reduceToNat, Int.reduceAdd, ↓reduceIte, Nat.reduceEqDiff, Nat.reduceAdd, Nat.reduceMul, Nat.reduceSub, Nat.reduceLeDiff, Nat.reduceLT, reduceCtorEq, if_true, eq_self, forall_const, implies_true]
    refine ⟨w, 32, _, rfl, f3 _ _, ?_⟩
    rw [f4]
    simp (maxSteps := 2000000) -implicitDefEqProofs only [f2, f5, ↓h126, s_alt, s_alt20, s_alt2t, s_alt2f, ↓s_loopi, ↓v_pq, ↓PRE, POST, CORE, Nat.reduceDiv, Nat.reduceMod, Int.reduceLT, Int.reduceLE, Int.reduceToNat, Int.reduceAdd, ↓reduceIte, Nat.reduceEqDiff, Nat.reduceAdd, Nat.reduceMul, Nat.reduceSub, Nat.reduceLeDiff, Nat.reduceLT, reduceCtorEq, if_true, eq_self, forall_const, implies_true]
    refine ⟨w, 160, _, rfl, f3 _ _, ?_⟩
    rw [f4]
    simp (maxSteps := 2000000) -implicitDefEqProofs only [f2, f5, s_alt, s_alt20, s_alt2t, s_alt2f, ↓s_loopi, ↓v_pq, ↓PRE, POST, CORE, Nat.reduceDiv, Nat.reduceMod, Int.reduceLT, Int.reduceLE, Int.reduceToNat, Int.reduceAdd, ↓reduceIte, Nat.reduceEqDiff, Nat.reduceAdd, Nat.reduceMul, Nat.reduceSub, Nat.reduceLeDiff, Nat.reduceLT, reduceCtorEq, if_true, eq_self, forall_const, implies_true]
    exact hk
def hdR (s : RS) : Ge × RS := (⟨(numR 1 s).1, (numR 1 (numR 1 s).2).1, (numR 1 (numR 1 (numR 1 s).2).2).1, (numR 1 (numR 1 (numR 1 (numR 1 s).2).2).2).1⟩, (numR 1 (numR 1 (numR 1 (numR 1 s).2).2).2).2)
def geO (g : Ge) (sl : SV) : SObj := ⟨true, [.v (.int .i64 g.ch), .v (.int .i64 g.di), .v (.int .i64 g.bl), .v (.int .i64 g.pa), sl]⟩
def G51 [Inp] : List CEntry := [⟨52, false, h52⟩]
theorem g51 [Inp] : GOk Try.prog G51 := GOk.cons h52_ok (g0 _)
def c51 [Inp] : Trans := fun args m k => ∃ (w p : Nat) (s : RS) (g : Ge) (sl : SV), args = [.ptr w 0, .ptr p 0] ∧ w ≠ p ∧ m[w]? = some (rH s) ∧ m[p]? = some (geO g sl) ∧ k (.tup []) ((m.set w (rH (hdR s).2)).set p (geO (hdR s).1 sl))
theorem c51_ok [Inp] : Contract Try.prog 51 false c51 := by
  refine .full fn51 (G := fun J => @G51 J) (fun J => @g51 J) _ fun args m k h => ?_
  unfold c51 at h
  obtain ⟨w, p, s, g, sl, rfl, hwp, hw, hp, hk⟩ := h
  refine ⟨by simp, fun J hJ hA => ?_⟩
  have f0 : ∀ x, (m.set w x)[w]? = some x := fun x => get_set hw
  have f1 : ∀ x, (m.set w x)[p]? = some (geO g sl) := fun x => by rw [get_ne hwp, hp]
  have f5 : ∀ x y, (m.set w x).set w y = m.set w y := fun x y => List.set_set ..
  simp (maxSteps := 2000000) -implicitDefEqProofs only [↓x51, ↓r51, ↓G51, ↓h52, s_alt, s_alt20, s_alt2t, s_alt2f, ↓s_loopi, ↓v_pq, ↓PRE, POST, CORE, Nat.reduceDiv, Nat.reduceMod, Int.reduceLT, Int.reduceLE, Int.reduceToNat, Int.reduceAdd, ↓reduceIte, Nat.reduceEqDiff, Nat.reduceAdd, Nat.reduceMul, Nat.reduceSub, Nat.reduceLeDiff, Nat.reduceLT, reduceCtorEq, if_true, eq_self, forall_const, implies_true]
  refine ⟨w, 1, s, rfl, hw, by simp, w, 1, _, rfl, f0 _, by simp, ?_⟩
  rw [f5]
  refine ⟨w, 1, _, rfl, f0 _, by simp, ?_⟩
  rw [f5]
  refine ⟨w, 1, _, rfl, f0 _, by simp, ?_⟩
  rw [f5]
  simp (maxSteps := 2000000) -implicitDefEqProofs only [f1, geO, s_alt, s_alt20, s_alt2t, s_alt2f, ↓s_loopi, ↓v_pq, ↓PRE, POST, CORE, Nat.reduceDiv, Nat.reduceMod, Int.reduceLT, Int.reduceLE, Int.reduceToNat, Int.reduceAdd, ↓reduceIte, Nat.reduceEqDiff, Nat.reduceAdd, Nat.reduceMul, Nat.reduceSub, Nat.reduceLeDiff, Nat.reduceLT, reduceCtorEq, if_true, eq_self, forall_const, implies_true]
  exact hk
def bkR (s : RS) : (Bool × Int × Int) × RS := (((flagR s).1, (numR 1 (flagR s).2).1, (numR 4 (numR 1 (flagR s).2).2).1), (numR 4 (numR 1 (flagR s).2).2).2)
def bkO (b : Bool) (e : Int) (sl : SV) : SObj := ⟨true, [.v (.bool b), .v (.int .i64 e), sl]⟩
def inO (n : Int) : SObj := ⟨true, [.v (.int .i64 n)]⟩
def G99 [Inp] : List CEntry := [⟨100, false, h100⟩, ⟨52, false, h52⟩]
theorem g99 [Inp] : GOk Try.prog G99 := GOk.cons h100_ok (GOk.cons h52_ok (g0 _))
def c99 [Inp] : Trans := fun args m k => ∃ (w p q : Nat) (s : RS) (sl : SV), args = [.ptr w 0, .ptr p 0, .ptr q 0] ∧ w ≠ p ∧ w ≠ q ∧ p ≠ q ∧ m[w]? = some (rH s) ∧ m[p]? = some (bkO false 0 sl) ∧ m[q]? = some (inO 0) ∧
  k (.tup []) (((m.set w (rH (bkR s).2)).set p (bkO (bkR s).1.1 (bkR s).1.2.2 sl)).set q (inO (bkR s).1.2.1))
theorem c99_ok [Inp] : Contract Try.prog 99 false c99 := by
  refine .full fn99 (G := fun J => @G99 J) (fun J => @g99 J) _ fun args m k h => ?_
  unfold c99 at h
  obtain ⟨w, p, q, s, sl, rfl, hwp, hwq, hpq, hw, hp, hq, hk⟩ := h
  refine ⟨by simp, fun J hJ hA => ?_⟩
  have f1 : ∀ x, (m.set w x)[p]? = some (bkO false 0 sl) := fun x => by rw [get_ne hwp, hp]
  have f3 : ∀ x y, ((m.set w x).set p y)[w]? = some x := fun x y => two_w hwp hw
  have f4 : ∀ x y z, ((m.set w x).set p y).set w z = (m.set w z).set p y := fun x y z => two_sw hwp
  have f6 : ∀ x y, ((m.set w x).set p y)[q]? = some (inO 0) := fun x y => by rw [get_ne hpq, get_ne hwq, hq]
  have f7 : ∀ x y z, (((m.set w x).set p y).set q z)[w]? = some x := fun x y z => by rw [get_ne (fun e => hwq e.symm), f3]
  have f8 : ∀ x y z a, (((m.set w x).set p y).set q z).set w a = ((m.set w a).set p y).set q z := fun x y z a => by rw [List.set_comm _ _ (fun e => hwq e.symm), f4]
  have f9 : ∀ x y z, (((m.set w x).set p y).set q z)[p]? = some y := fun x y z => by rw [get_ne (fun e => hpq e.symm)]; exact two_p hwp hw hp
  have f10 : ∀ x y z a, (((m.set w x).set p y).set q z).set p a = ((m.set w x).set p a).set q z := fun x y z a => by rw [List.set_comm _ _ (fun e => hpq e.symm), two_sp]
  simp (maxSteps := 2000000) -implicitDefEqProofs only [↓x99, ↓r99, ↓G99, ↓h100, s_alt, s_alt20, s_alt2t, s_alt2f, ↓s_loopi, ↓v_pq, ↓PRE, POST, CORE, Nat.reduceDiv, Nat.reduceMod, Int.reduceLT, Int.reduceLE, Int.reduceToNat, Int.reduceAdd, ↓reduceIte, Nat.reduceEqDiff, Nat.reduceAdd, Nat.reduceMul, Nat.reduceSub, Nat.reduceLeDiff, Nat.reduceLT, reduceCtorEq, if_true, eq_self, forall_const, implies_true]
  refine ⟨w, s, rfl, hw, ?_⟩
  simp (maxSteps := 2000000) -implicitDefEqProofs only [f1, bkO, ↓h52, s_alt, s_alt20, s_alt2t, s_alt2f, ↓s_loopi, ↓v_pq, ↓PRE, POST, CORE, Nat.reduceDiv, Nat.reduceMod, Int.reduceLT, Int.reduceLE, Int.reduceToNat, Int.reduceAdd, ↓reduceIte, Nat.reduceEqDiff, Nat.reduceAdd, Nat.reduceMul, Nat.reduceSub, Nat.reduceLeDiff, Nat.reduceLT, reduceCtorEq, if_true, eq_self, forall_const, implies_true]
  refine ⟨w, 1, _, rfl, f3 _ _, by simp, ?_⟩
  rw [f4]
  simp (maxSteps := 2000000) -implicitDefEqProofs only [f6, inO, ↓h52, s_alt, s_alt20, s_alt2t, s_alt2f, ↓s_loopi, ↓v_pq, ↓PRE, POST, CORE, Nat.reduceDiv, Nat.reduceMod, Int.reduceLT, Int.reduceLE, Int.reduceToNat, Int.reduceAdd, ↓reduceIte, Nat.reduceEqDiff, Nat.reduceAdd, Nat.reduceMul, Nat.reduceSub, Nat.reduceLeDiff, Nat.reduceLT, reduceCtorEq, if_true, eq_self, forall_const, implies_true]
  refine ⟨w, 4, _, rfl, f7 _ _ _, by simp, ?_⟩
  rw [f8]
  simp (maxSteps := 2000000) -implicitDefEqProofs only [f9, f10, s_alt, s_alt20, s_alt2t, s_alt2f, ↓s_loopi, ↓v_pq, ↓PRE, POST, CORE, Nat.reduceDiv, Nat.reduceMod, Int.reduceLT, Int.reduceLE, Int.reduceToNat, Int.reduceAdd, ↓reduceIte, Nat.reduceEqDiff, Nat.reduceAdd, Nat.reduceMul, Nat.reduceSub, Nat.reduceLeDiff, Nat.reduceLT, reduceCtorEq, if_true, eq_self, forall_const, implies_true]
  exact hk
def c54 [Inp] : Trans := fun args m k => ∃ (j : Nat) (sl : SV) (e c : Int), args = [.ptr j 0, .v (.int .i64 c)] ∧ m[j]? = some (rdO sl e) ∧ k (.tup []) (m.set j (rdO sl (if e = 0 then c else e)))
theorem c54_ok [Inp] : Contract Try.prog 54 false c54 := by
  refine .full fn54 (G := fun _ => []) (fun J => @g0 J _) _ fun args m k h => ?_
  unfold c54 at h
  obtain ⟨j, sl, e, c, rfl, hm, hk⟩ := h
  refine ⟨by simp, fun J hJ hA => ?_⟩
  by_cases he : e = 0
  · rw [if_pos he] at hk
    have he2 : (e == 0) = true := by simpa using he
    simp (maxSteps := 2000000) -implicitDefEqProofs only [↓x54, ↓r54, hm, he2, s_alt, s_alt20, s_alt2t, s_alt2f, ↓s_loopi, ↓v_pq, ↓PRE, POST, CORE, Nat.reduceDiv, Nat.reduceMod, Int.reduceLT, Int.reduceLE, Int.reduceToNat, Int.reduceAdd, ↓reduceIte, Nat.reduceEqDiff, Nat.reduceAdd, Nat.reduceMul, Nat.reduceSub, Nat.reduceLeDiff, Nat.reduceLT, reduceCtorEq, if_true, eq_self, forall_const, implies_true]
    exact hk
  · rw [if_neg he] at hk
    have he2 : (e == 0) = false := by simpa using he
    have hs : m.set j (rdO sl e) = m := by
      apply List.ext_getElem?
      intro i
      rw [List.getElem?_set]
      split
      · rename_i h; subst h
        split
        · exact hm.symm
        · rename_i h2; rw [List.getElem?_eq_none (by omega)]
      · rfl
    rw [hs] at hk
    simp (maxSteps := 2000000) -implicitDefEqProofs only [↓x54, ↓r54, hm, he2, s_alt, s_alt20, s_alt2t, s_alt2f, ↓s_loopi, ↓v_pq, ↓PRE, POST, CORE, Nat.reduceDiv, Nat.reduceMod, Int.reduceLT, Int.reduceLE, Int.reduceToNat, Int.reduceAdd, ↓reduceIte, Nat.reduceEqDiff, Nat.reduceAdd, Nat.reduceMul, Nat.reduceSub, Nat.reduceLeDiff, Nat.reduceLT, reduceCtorEq, if_true, eq_self, forall_const, implies_true]
    exact hk
end Go.Proofs.Ytibefgdjijmncaa
end
