/- Layer 43 (image): Same and Diff. By symbolic walks. -/
import Derived.Test.YtibefgdjijmncaaIdA
namespace Go.Proofs.Ytibefgdjijmncaa
open Go.RowKit Sz
set_option linter.unusedVariables false
set_option linter.unusedSimpArgs false
set_option maxHeartbeats 4000000
set_option maxRecDepth 20000
def eqG (g h : Ge) : Bool := (g.ch == h.ch) && ((g.di == h.di) && ((g.bl == h.bl) && (g.pa == h.pa)))
def big : Nat := 9223372036854775807
def c17 [Inp] : Trans := fun args m k => ∃ s1 s2 g1 g2 bs1 bs2, args = [s1, s2] ∧ picS m s1 g1 bs1 ∧ picS m s2 g2 bs2 ∧ bs1.length ≤ 9223372036854775807 ∧ (∀ b ∈ bs1, b.pages.length ≤ 9223372036854775807) ∧ k (.v (.bool (eqG g1 g2 && eqBs bs1 bs2))) m
theorem g61 [Inp] : GOk Try.prog [⟨61, true, c61⟩] := GOk.cons c61_ok (g0 _)
theorem c17_ok [I : Inp] : Contract Try.prog 17 true c17 := by
  refine .readG fn17 (G := fun J => [⟨61, true, @c61 J⟩]) (fun J => @g61 J) _ fun args m k h => ?_
  obtain ⟨s1, s2, g1, g2, bs1, bs2, rfl, h1, h2, hn, hpn, hk⟩ := h
  refine ⟨by simp, fun J hJ K hK us hus => ?_⟩
  obtain ⟨u, t1, rfl, hk1, u2, t2, rfl, hk2, rfl⟩ := hus
  obtain ⟨p, c, xs, e1, rfl, hin, hx⟩ := pic_kn hK h1 hk1
  obtain ⟨p', c', ys, e2, rfl, hin', hy⟩ := pic_kn hK h2 hk2
  rw [List.map_cons, List.map_cons, e1, e2, List.map_nil]
  have hp1 : ∀ x ∈ xs, x.b.pages.length ≤ 9223372036854775807 := fun x hx => hpn x.b (List.mem_map.2 ⟨x, hx, rfl⟩)
  rw [List.length_map] at hn
  have hg : eqG g1 g2 = (g1.ch == g2.ch && (g1.di == g2.di && (g1.bl == g2.bl && g1.pa == g2.pa))) := rfl
  unfold Ge.sv
  simp (maxSteps := 2000000) -implicitDefEqProofs only [↓x17, ↓r17, ↓c61, Sz.s_alt, Sz.s_alt20, Sz.s_alt2t, Sz.s_alt2f, ↓Sz.s_loopi, ↓Sz.v_pq, ↓Sz.PRE, Sz.POST, Sz.CORE, Nat.reduceDiv, Nat.reduceMod, Int.reduceLT, Int.reduceLE, Int.reduceToNat, Int.reduceAdd, ↓reduceIte, Nat.reduceEqDiff, Nat.reduceAdd, Nat.reduceMul, Nat.reduceSub, Nat.reduceLeDiff, Nat.reduceLT, reduceCtorEq, if_true, eq_self, forall_const, implies_true]
  rw [← hg]
  cases he : eqG g1 g2 with
  | false =>
    rw [he, Bool.false_and] at hk
    simp (maxSteps := 2000000) -implicitDefEqProofs only [Sz.s_alt, Sz.s_alt20, Sz.s_alt2t, Sz.s_alt2f, ↓Sz.s_loopi, ↓Sz.v_pq, ↓Sz.PRE, Sz.POST, Sz.CORE, Nat.reduceDiv, Nat.reduceMod, Int.reduceLT, Int.reduceLE, Int.reduceToNat, Int.reduceAdd, ↓reduceIte, Nat.reduceEqDiff, Nat.reduceAdd, Nat.reduceMul, Nat.reduceSub, Nat.reduceLeDiff, Nat.reduceLT, reduceCtorEq, if_true, eq_self, forall_const, implies_true]
    exact hk
  | true =>
    rw [he, Bool.true_and] at hk
    simp (maxSteps := 2000000) -implicitDefEqProofs only [↓c61, Sz.s_alt, Sz.s_alt20, Sz.s_alt2t, Sz.s_alt2f, ↓Sz.s_loopi, ↓Sz.v_pq, ↓Sz.PRE, Sz.POST, Sz.CORE, Nat.reduceDiv, Nat.reduceMod, Int.reduceLT, Int.reduceLE, Int.reduceToNat, Int.reduceAdd, ↓reduceIte, Nat.reduceEqDiff, Nat.reduceAdd, Nat.reduceMul, Nat.reduceSub, Nat.reduceLeDiff, Nat.reduceLT, reduceCtorEq, if_true, eq_self, forall_const, implies_true]
    exact ⟨xs, ys, hin, rfl, hin', rfl, hx, hy, hn, hp1, hk⟩
/-- A row of numbers: nil, if there is none. -/
def intS (j : Nat) (L : List Int) : SV := if L = [] then .v (.slice none 0 0) else .row j 0 L.length 1
def intM (L : List Int) : Mem := if L = [] then [] else [⟨true, iL L⟩]
theorem fin_int {k : SV → Mem → Prop} {m : Mem} (L : List Int) (m' : Mem) (s : SV) (j : Nat) (h1 : L = [] → s = .v (.slice none 0 0)) (h2 : L ≠ [] → s = .row j 0 L.length 1 ∧ m'[j]? = some ⟨true, iL L⟩) (h3 : k (intS m.length L) (m ++ intM L)) :
    ∃ (g2 : List Nat) (s2 : SV) (m2 : Mem), g2.Nodup ∧ FitM g2 m' g2 m2 ∧ (∀ o ∈ m2, o.own = true) ∧ Le g2 s2 s ∧ k (s2.up m.length) (m ++ m2.map (SObj.up m.length)) := by
  by_cases hL : L = []
  · subst hL
    rw [h1 rfl]
    refine ⟨[], .v (.slice none 0 0), [], by simp, trivial, by simp, by simp only [Le], ?_⟩
    simpa [SV.up, intS, intM] using h3
  · obtain ⟨rfl, hm⟩ := h2 hL
    have hle : ∀ g, LeL g (iL L) (iL L) := fun g => by rw [iL_le]; trivial
    have hup : ∀ d, upL d (iL L) = iL L := fun d => by rw [iL_eq]; exact upL_v d _
    refine ⟨[j], .row 0 0 L.length 1, [⟨true, iL L⟩], by simp, by simp [FitM, ObLe, hle, hm], by simp, by simp only [Le]; rfl, ?_⟩
    simpa [SV.up, SObj.up, hup, intS, intM, hL] using h3
theorem extO {g : List Nat} {b : Bool} {cs ds : List SV} : ExtLe g b (@Ext.v (oO cs).x) (@Ext.v (oO ds).x) = True := extLe_no
theorem extO2 {g : List Nat} {b : Bool} {cs : List SV} : ExtLe g b (@Ext.v (oO cs).x) (@Ext.v noExt) = True := extLe_no
def c18 [Inp] : Trans := fun args m k => ∃ s1 s2 g1 g2 bs1 bs2, args = [s1, s2] ∧ picS m s1 g1 bs1 ∧ picS m s2 g2 bs2 ∧ bs1.length ≤ 1000000 ∧ bs2.length ≤ 1000000 ∧ (∀ b ∈ bs1, b.pages.length ≤ 9223372036854775807) ∧ k (intS m.length (difL bs1 bs2)) (m ++ intM (difL bs1 bs2))
theorem c18_ok [I : Inp] : Contract Try.prog 18 true c18 := by
  refine .readFG fn18 (G := fun J => [⟨62, true, @c62 J⟩]) (fun J => @g62 J) _ fun args m k h => ?_
  obtain ⟨s1, s2, g1, g2, bs1, bs2, rfl, h1, h2, hn, hn2, hpn, hk⟩ := h
  refine ⟨by simp, fun J hJ K hK us hus => ?_⟩
  obtain ⟨u, t1, rfl, hk1, u2, t2, rfl, hk2, rfl⟩ := hus
  obtain ⟨p, c, xs, e1, rfl, hin, hx0⟩ := pic_kn hK h1 hk1
  obtain ⟨p', c', ys, e2, rfl, hin', hy0⟩ := pic_kn hK h2 hk2
  rw [List.map_cons, List.map_cons, e1, e2, List.map_nil]
  have hp1 : ∀ x ∈ xs, x.b.pages.length ≤ 9223372036854775807 := fun x hx => hpn x.b (List.mem_map.2 ⟨x, hx, rfl⟩)
  rw [List.length_map] at hn hn2
  have hitem : ∀ (i : Nat) (x : Bi), xs[i]? = some x → inpL (plusA p (i * 3)) 3 = some x.cs := fun i x hx => inp_item Bi.len hin rfl hx
  have hitem' : ∀ (i : Nat) (x : Bi), ys[i]? = some x → inpL (plusA p' (i * 3)) 3 = some x.cs := fun i x hx => inp_item Bi.len hin' rfl hx
  obtain ⟨N, hN⟩ : ∃ N, N = max xs.length ys.length := ⟨_, rfl⟩
  have hdl : difL (xs.map Bi.b) (ys.map Bi.b) = difN (xs.map Bi.b) (ys.map Bi.b) N := by unfold difL; rw [List.length_map, List.length_map, hN]
  rw [hdl] at hk
  obtain ⟨A, hA⟩ : ∃ A, A = xs.map Bi.b := ⟨_, rfl⟩
  obtain ⟨B, hB⟩ : ∃ B, B = ys.map Bi.b := ⟨_, rfl⟩
  rw [← hA, ← hB] at hk
  have hmx : (if (xs.length : Int) < (ys.length : Int) then ((ys.length : Nat) : Int) else ((xs.length : Nat) : Int)) = (N : Int) := by split <;> omega
  unfold Ge.sv
  have loop : ∀ (e : Env) (m' : Mem), Fit e m' [(2, .ptr 0 0), (3, .ptr 1 0), (5, oV 2 1 (difN A B 0).length), (13, .v (.int .i64 (N : Int))), (14, .v (.int .i64 (0 : Int)))] [⟨true, g1.sv ++ [.v (.slice p xs.length c)]⟩, ⟨true, g2.sv ++ [.v (.slice p' ys.length c')]⟩, oO (iL (difN A B 0))] → True := fun _ _ _ => trivial
  by_cases hlt : (xs.length : Int) < (ys.length : Int)
  all_goals
    have hNi := hmx
    first | rw [if_pos hlt] at hNi | rw [if_neg hlt] at hNi
    simp (maxSteps := 2000000) -implicitDefEqProofs only [↓x18, ↓r18, hlt, Sz.s_alt, Sz.s_alt20, Sz.s_alt2t, Sz.s_alt2f, ↓Sz.s_loopi, ↓Sz.v_pq, ↓Sz.PRE, Sz.POST, Sz.CORE, Nat.reduceDiv, Nat.reduceMod, Int.reduceLT, Int.reduceLE, Int.reduceToNat, Int.reduceAdd, ↓reduceIte, Nat.reduceEqDiff, Nat.reduceAdd, Nat.reduceMul, Nat.reduceSub, Nat.reduceLeDiff, Nat.reduceLT, reduceCtorEq, if_true, eq_self, forall_const, implies_true]
    rw [hNi]
    refine TXi_of (TX_count (@g62 J) N (fun x => [(2, .ptr 0 0), (3, .ptr 1 0), (5, oV 2 1 (difN A B x).length), (13, .v (.int .i64 (N : Int))), (14, .v (.int .i64 (x : Int)))]) (fun x => [⟨true, [.v (.int .i64 g1.ch), .v (.int .i64 g1.di), .v (.int .i64 g1.bl), .v (.int .i64 g1.pa), .v (.slice p xs.length c)]⟩, ⟨true, [.v (.int .i64 g2.ch), .v (.int .i64 g2.di), .v (.int .i64 g2.bl), .v (.int .i64 g2.pa), .v (.slice p' ys.length c')]⟩, oO (iL (difN A B x))]) (fun x => True) trivial ?_ ?_ ?_)
    · have e0 : difN A B 0 = [] := rfl
      rw [e0]
      exact ⟨[0, 1, 0], by simp [Sz.NdL, Sz.NdA, Sz.oO_cells, Sz.oO_own, Sz.iL_nil], by simp only [FitM, ObLe, LeL, Le, List.cons_append, List.nil_append] <;> (try (simp (maxSteps := 2000000) -implicitDefEqProofs only [extO, extO2, extLe_no, or_true, Sz.o_sl, Sz.o_grows, Sz.o_kill, Sz.o_len, Sz.o_cap, Sz.o_isl, Sz.o_le, Sz.o_cells, Sz.o_one, Sz.oOk_c, Sz.oOk_o, Sz.oO_cells, Sz.oO_own, Sz.oV_s, Sz.oV_0, Sz.oO_nil, Sz.oO_iL, Sz.iL_nil, Sz.iL_snoc, List.length_append, Sz.iL_fold, Sz.iL_over, Sz.iL_all, Sz.iL_get, Sz.iL_len, Sz.iL_take, Sz.iL_drop, Sz.iL_one, Sz.iL_plain, Sz.iL_le, List.length_set, List.length_nil, Sz.s_alt, Sz.s_alt20, Sz.s_alt2t, Sz.s_alt2f, ↓Sz.s_loopi, ↓Sz.v_pq, ↓Sz.PRE, Sz.POST, Sz.CORE, Nat.reduceDiv, Nat.reduceMod, Int.reduceLT, Int.reduceLE, Int.reduceToNat, Int.reduceAdd, ↓reduceIte, Nat.reduceEqDiff, Nat.reduceAdd, Nat.reduceMul, Nat.reduceSub, Nat.reduceLeDiff, Nat.reduceLT, reduceCtorEq, if_true, eq_self, forall_const, implies_true])) <;> (try simp), by simp only [FitE, Le, LeL, List.cons_append, List.nil_append] <;> (try (simp (maxSteps := 2000000) -implicitDefEqProofs only [extO, extO2, extLe_no, or_true, Sz.o_sl, Sz.o_grows, Sz.o_kill, Sz.o_len, Sz.o_cap, Sz.o_isl, Sz.o_le, Sz.o_cells, Sz.o_one, Sz.oOk_c, Sz.oOk_o, Sz.oO_cells, Sz.oO_own, Sz.oV_s, Sz.oV_0, Sz.oO_nil, Sz.oO_iL, Sz.iL_nil, Sz.iL_snoc, List.length_append, Sz.iL_fold, Sz.iL_over, Sz.iL_all, Sz.iL_get, Sz.iL_len, Sz.iL_take, Sz.iL_drop, Sz.iL_one, Sz.iL_plain, Sz.iL_le, List.length_set, List.length_nil, Sz.s_alt, Sz.s_alt20, Sz.s_alt2t, Sz.s_alt2f, ↓Sz.s_loopi, ↓Sz.v_pq, ↓Sz.PRE, Sz.POST, Sz.CORE, Nat.reduceDiv, Nat.reduceMod, Int.reduceLT, Int.reduceLE, Int.reduceToNat, Int.reduceAdd, ↓reduceIte, Nat.reduceEqDiff, Nat.reduceAdd, Nat.reduceMul, Nat.reduceSub, Nat.reduceLeDiff, Nat.reduceLT, reduceCtorEq, if_true, eq_self, forall_const, implies_true])) <;> (try simp only [Sz.Le, Sz.LeL, List.getElem?_cons_zero, List.getElem?_cons_succ]) <;> (try simp), keep0 hJ⟩
    · intro x hx _
      have i0 : (0 : Int) ≤ (x : Int) := by omega
      have i1 : (x : Int) < (N : Int) := by omega
      have w1 : IntKind.i64.wrap ((x : Int) + 1) = (x : Int) + 1 := Sz.w_64 (by omega) (by omega)
      have hd := difN_succ A B x
      have hlen := difN_len A B x
      have hxN : x < 1000000 := by omega
      have out : difF A B x = true → difN A B (x + 1) = difN A B x ++ [(x : Int)] := fun h => by rw [hd, if_pos h]
      by_cases ha : x < xs.length
      · by_cases hb : x < ys.length
        · obtain ⟨a, ha'⟩ : ∃ a, xs[x]? = some a := ⟨_, List.getElem?_eq_getElem ha⟩
          obtain ⟨b, hb'⟩ : ∃ b, ys[x]? = some b := ⟨_, List.getElem?_eq_getElem hb⟩
          have f : inpL (plusA p (x * 3)) 3 = some [.bool a.b.bad, .int .i64 a.b.er, .slice a.a a.b.pages.length a.c] := hitem x a ha'
          have f' : inpL (plusA p' (x * 3)) 3 = some [.bool b.b.bad, .int .i64 b.b.er, .slice b.a b.b.pages.length b.c] := hitem' x b hb'
          have hp : p.isSome = true := inpL_isSome hin (by omega)
          have hp' : p'.isSome = true := inpL_isSome hin' (by omega)
          have j1 : ¬ (xs.length : Int) ≤ (x : Int) := by omega
          have j2 : ¬ (ys.length : Int) ≤ (x : Int) := by omega
          have j3 : (x : Int) < (xs.length : Int) := by omega
          have j4 : (x : Int) < (ys.length : Int) := by omega
          have hF : difF A B x = !eqB a.b b.b := by rw [hA, hB]; simp [difF, List.getElem?_map, ha', hb']
          rw [hF] at hd out
          generalize difN A B x = L at hd hlen out ⊢
          simp (maxSteps := 2000000) -implicitDefEqProofs only [ge_iff_le, i0, i1, j1, j2, j3, j4, f, f', hp, hp', w1, ↓c62, Sz.o_sl, Sz.o_grows, Sz.o_kill, Sz.o_len, Sz.o_cap, Sz.o_isl, Sz.o_le, Sz.o_cells, Sz.o_one, Sz.oOk_c, Sz.oOk_o, Sz.oO_cells, Sz.oO_own, Sz.oV_s, Sz.oV_0, Sz.oO_nil, Sz.oO_iL, Sz.iL_nil, Sz.iL_snoc, List.length_append, Sz.iL_fold, Sz.iL_over, Sz.iL_all, Sz.iL_get, Sz.iL_len, Sz.iL_take, Sz.iL_drop, Sz.iL_one, Sz.iL_plain, Sz.iL_le, List.length_set, Sz.s_alt, Sz.s_alt20, Sz.s_alt2t, Sz.s_alt2f, ↓Sz.s_loopi, ↓Sz.v_pq, ↓Sz.PRE, Sz.POST, Sz.CORE, Nat.reduceDiv, Nat.reduceMod, Int.reduceLT, Int.reduceLE, Int.reduceToNat, Int.reduceAdd, ↓reduceIte, Nat.reduceEqDiff, Nat.reduceAdd, Nat.reduceMul, Nat.reduceSub, Nat.reduceLeDiff, Nat.reduceLT, reduceCtorEq, if_true, eq_self, forall_const, implies_true]
          refine ⟨a, b, rfl, hx0 a (List.mem_of_getElem? ha'), hy0 b (List.mem_of_getElem? hb'), hp1 a (List.mem_of_getElem? ha'), ?_⟩
          cases he : eqB a.b b.b with
          | true =>
            rw [he] at hd
            simp only [Bool.not_true, Bool.false_eq_true, if_false, List.append_nil] at hd
            simp (maxSteps := 2000000) -implicitDefEqProofs only [w1, Sz.o_sl, Sz.o_grows, Sz.o_kill, Sz.o_len, Sz.o_cap, Sz.o_isl, Sz.o_le, Sz.o_cells, Sz.o_one, Sz.oOk_c, Sz.oOk_o, Sz.oO_cells, Sz.oO_own, Sz.oV_s, Sz.oV_0, Sz.oO_nil, Sz.oO_iL, Sz.iL_nil, Sz.iL_snoc, List.length_append, Sz.iL_fold, Sz.iL_over, Sz.iL_all, Sz.iL_get, Sz.iL_len, Sz.iL_take, Sz.iL_drop, Sz.iL_one, Sz.iL_plain, Sz.iL_le, List.length_set, Sz.s_alt, Sz.s_alt20, Sz.s_alt2t, Sz.s_alt2f, ↓Sz.s_loopi, ↓Sz.v_pq, ↓Sz.PRE, Sz.POST, Sz.CORE, Nat.reduceDiv, Nat.reduceMod, Int.reduceLT, Int.reduceLE, Int.reduceToNat, Int.reduceAdd, ↓reduceIte, Nat.reduceEqDiff, Nat.reduceAdd, Nat.reduceMul, Nat.reduceSub, Nat.reduceLeDiff, Nat.reduceLT, reduceCtorEq, if_true, eq_self, forall_const, implies_true]
            rw [hd]
            exact ⟨[0, 1, 2], by simp [Sz.NdL, Sz.NdA, Sz.oO_cells, Sz.oO_own, Sz.iL_nil], by simp only [FitM, ObLe, LeL, Le, List.cons_append, List.nil_append] <;> (try (simp (maxSteps := 2000000) -implicitDefEqProofs only [extO, extO2, extLe_no, or_true, Sz.o_sl, Sz.o_grows, Sz.o_kill, Sz.o_len, Sz.o_cap, Sz.o_isl, Sz.o_le, Sz.o_cells, Sz.o_one, Sz.oOk_c, Sz.oOk_o, Sz.oO_cells, Sz.oO_own, Sz.oV_s, Sz.oV_0, Sz.oO_nil, Sz.oO_iL, Sz.iL_nil, Sz.iL_snoc, List.length_append, Sz.iL_fold, Sz.iL_over, Sz.iL_all, Sz.iL_get, Sz.iL_len, Sz.iL_take, Sz.iL_drop, Sz.iL_one, Sz.iL_plain, Sz.iL_le, List.length_set, Sz.s_alt, Sz.s_alt20, Sz.s_alt2t, Sz.s_alt2f, ↓Sz.s_loopi, ↓Sz.v_pq, ↓Sz.PRE, Sz.POST, Sz.CORE, Nat.reduceDiv, Nat.reduceMod, Int.reduceLT, Int.reduceLE, Int.reduceToNat, Int.reduceAdd, ↓reduceIte, Nat.reduceEqDiff, Nat.reduceAdd, Nat.reduceMul, Nat.reduceSub, Nat.reduceLeDiff, Nat.reduceLT, reduceCtorEq, if_true, eq_self, forall_const, implies_true])) <;> (try simp), by simp only [FitE, Le, LeL, List.cons_append, List.nil_append] <;> (try (simp (maxSteps := 2000000) -implicitDefEqProofs only [extO, extO2, extLe_no, or_true, Sz.o_sl, Sz.o_grows, Sz.o_kill, Sz.o_len, Sz.o_cap, Sz.o_isl, Sz.o_le, Sz.o_cells, Sz.o_one, Sz.oOk_c, Sz.oOk_o, Sz.oO_cells, Sz.oO_own, Sz.oV_s, Sz.oV_0, Sz.oO_nil, Sz.oO_iL, Sz.iL_nil, Sz.iL_snoc, List.length_append, Sz.iL_fold, Sz.iL_over, Sz.iL_all, Sz.iL_get, Sz.iL_len, Sz.iL_take, Sz.iL_drop, Sz.iL_one, Sz.iL_plain, Sz.iL_le, List.length_set, Sz.s_alt, Sz.s_alt20, Sz.s_alt2t, Sz.s_alt2f, ↓Sz.s_loopi, ↓Sz.v_pq, ↓Sz.PRE, Sz.POST, Sz.CORE, Nat.reduceDiv, Nat.reduceMod, Int.reduceLT, Int.reduceLE, Int.reduceToNat, Int.reduceAdd, ↓reduceIte, Nat.reduceEqDiff, Nat.reduceAdd, Nat.reduceMul, Nat.reduceSub, Nat.reduceLeDiff, Nat.reduceLT, reduceCtorEq, if_true, eq_self, forall_const, implies_true])) <;> (try simp only [Sz.Le, Sz.LeL, List.getElem?_cons_zero, List.getElem?_cons_succ]) <;> (try simp), keep0 hJ⟩
          | false =>
            rw [out (by rw [he]; rfl)]
            simp (maxSteps := 2000000) -implicitDefEqProofs only [w1, Sz.o_sl, Sz.o_grows, Sz.o_kill, Sz.o_len, Sz.o_cap, Sz.o_isl, Sz.o_le, Sz.o_cells, Sz.o_one, Sz.oOk_c, Sz.oOk_o, Sz.oO_cells, Sz.oO_own, Sz.oV_s, Sz.oV_0, Sz.oO_nil, Sz.oO_iL, Sz.iL_nil, Sz.iL_snoc, List.length_append, Sz.iL_fold, Sz.iL_over, Sz.iL_all, Sz.iL_get, Sz.iL_len, Sz.iL_take, Sz.iL_drop, Sz.iL_one, Sz.iL_plain, Sz.iL_le, List.length_set, Sz.s_alt, Sz.s_alt20, Sz.s_alt2t, Sz.s_alt2f, ↓Sz.s_loopi, ↓Sz.v_pq, ↓Sz.PRE, Sz.POST, Sz.CORE, Nat.reduceDiv, Nat.reduceMod, Int.reduceLT, Int.reduceLE, Int.reduceToNat, Int.reduceAdd, ↓reduceIte, Nat.reduceEqDiff, Nat.reduceAdd, Nat.reduceMul, Nat.reduceSub, Nat.reduceLeDiff, Nat.reduceLT, reduceCtorEq, if_true, eq_self, forall_const, implies_true]
            exact ⟨⟨by unfold maxLen; omega, by omega⟩, ⟨[0, 1, 4], by simp [Sz.NdL, Sz.NdA, Sz.oO_cells, Sz.oO_own, Sz.iL_nil], by simp only [FitM, ObLe, LeL, Le, List.cons_append, List.nil_append] <;> (try (simp (maxSteps := 2000000) -implicitDefEqProofs only [extO, extO2, extLe_no, or_true, Sz.o_sl, Sz.o_grows, Sz.o_kill, Sz.o_len, Sz.o_cap, Sz.o_isl, Sz.o_le, Sz.o_cells, Sz.o_one, Sz.oOk_c, Sz.oOk_o, Sz.oO_cells, Sz.oO_own, Sz.oV_s, Sz.oV_0, Sz.oO_nil, Sz.oO_iL, Sz.iL_nil, Sz.iL_snoc, List.length_append, Sz.iL_fold, Sz.iL_over, Sz.iL_all, Sz.iL_get, Sz.iL_len, Sz.iL_take, Sz.iL_drop, Sz.iL_one, Sz.iL_plain, Sz.iL_le, List.length_set, List.length_cons, List.length_nil, Sz.s_alt, Sz.s_alt20, Sz.s_alt2t, Sz.s_alt2f, ↓Sz.s_loopi, ↓Sz.v_pq, ↓Sz.PRE, Sz.POST, Sz.CORE, Nat.reduceDiv, Nat.reduceMod, Int.reduceLT, Int.reduceLE, Int.reduceToNat, Int.reduceAdd, ↓reduceIte, Nat.reduceEqDiff, Nat.reduceAdd, Nat.reduceMul, Nat.reduceSub, Nat.reduceLeDiff, Nat.reduceLT, reduceCtorEq, if_true, eq_self, forall_const, implies_true])) <;> (try simp), by simp only [FitE, Le, LeL, List.cons_append, List.nil_append] <;> (try (simp (maxSteps := 2000000) -implicitDefEqProofs only [extO, extO2, extLe_no, or_true, Sz.o_sl, Sz.o_grows, Sz.o_kill, Sz.o_len, Sz.o_cap, Sz.o_isl, Sz.o_le, Sz.o_cells, Sz.o_one, Sz.oOk_c, Sz.oOk_o, Sz.oO_cells, Sz.oO_own, Sz.oV_s, Sz.oV_0, Sz.oO_nil, Sz.oO_iL, Sz.iL_nil, Sz.iL_snoc, List.length_append, Sz.iL_fold, Sz.iL_over, Sz.iL_all, Sz.iL_get, Sz.iL_len, Sz.iL_take, Sz.iL_drop, Sz.iL_one, Sz.iL_plain, Sz.iL_le, List.length_set, List.length_cons, List.length_nil, Sz.s_alt, Sz.s_alt20, Sz.s_alt2t, Sz.s_alt2f, ↓Sz.s_loopi, ↓Sz.v_pq, ↓Sz.PRE, Sz.POST, Sz.CORE, Nat.reduceDiv, Nat.reduceMod, Int.reduceLT, Int.reduceLE, Int.reduceToNat, Int.reduceAdd, ↓reduceIte, Nat.reduceEqDiff, Nat.reduceAdd, Nat.reduceMul, Nat.reduceSub, Nat.reduceLeDiff, Nat.reduceLT, reduceCtorEq, if_true, eq_self, forall_const, implies_true])) <;> (try simp only [Sz.Le, Sz.LeL, List.getElem?_cons_zero, List.getElem?_cons_succ]) <;> (try simp), keep0 hJ⟩⟩
        · have j1 : ¬ (xs.length : Int) ≤ (x : Int) := by omega
          have j2 : (ys.length : Int) ≤ (x : Int) := by omega
          have hF : difF A B x = true := by
            have e : B[x]? = none := List.getElem?_eq_none (by rw [hB, List.length_map]; omega)
            unfold difF
            rw [e]
            cases A[x]? <;> rfl
          rw [out hF]
          generalize difN A B x = L at hd hlen out ⊢
          simp (maxSteps := 2000000) -implicitDefEqProofs only [ge_iff_le, i0, i1, j1, j2, w1, Sz.o_sl, Sz.o_grows, Sz.o_kill, Sz.o_len, Sz.o_cap, Sz.o_isl, Sz.o_le, Sz.o_cells, Sz.o_one, Sz.oOk_c, Sz.oOk_o, Sz.oO_cells, Sz.oO_own, Sz.oV_s, Sz.oV_0, Sz.oO_nil, Sz.oO_iL, Sz.iL_nil, Sz.iL_snoc, List.length_append, Sz.iL_fold, Sz.iL_over, Sz.iL_all, Sz.iL_get, Sz.iL_len, Sz.iL_take, Sz.iL_drop, Sz.iL_one, Sz.iL_plain, Sz.iL_le, List.length_set, Sz.s_alt, Sz.s_alt20, Sz.s_alt2t, Sz.s_alt2f, ↓Sz.s_loopi, ↓Sz.v_pq, ↓Sz.PRE, Sz.POST, Sz.CORE, Nat.reduceDiv, Nat.reduceMod, Int.reduceLT, Int.reduceLE, Int.reduceToNat, Int.reduceAdd, ↓reduceIte, Nat.reduceEqDiff, Nat.reduceAdd, Nat.reduceMul, Nat.reduceSub, Nat.reduceLeDiff, Nat.reduceLT, reduceCtorEq, if_true, eq_self, forall_const, implies_true]
          exact ⟨⟨by unfold maxLen; omega, by omega⟩, ⟨[0, 1, 4], by simp [Sz.NdL, Sz.NdA, Sz.oO_cells, Sz.oO_own, Sz.iL_nil], by simp only [FitM, ObLe, LeL, Le, List.cons_append, List.nil_append] <;> (try (simp (maxSteps := 2000000) -implicitDefEqProofs only [extO, extO2, extLe_no, or_true, Sz.o_sl, Sz.o_grows, Sz.o_kill, Sz.o_len, Sz.o_cap, Sz.o_isl, Sz.o_le, Sz.o_cells, Sz.o_one, Sz.oOk_c, Sz.oOk_o, Sz.oO_cells, Sz.oO_own, Sz.oV_s, Sz.oV_0, Sz.oO_nil, Sz.oO_iL, Sz.iL_nil, Sz.iL_snoc, List.length_append, Sz.iL_fold, Sz.iL_over, Sz.iL_all, Sz.iL_get, Sz.iL_len, Sz.iL_take, Sz.iL_drop, Sz.iL_one, Sz.iL_plain, Sz.iL_le, List.length_set, List.length_cons, List.length_nil, Sz.s_alt, Sz.s_alt20, Sz.s_alt2t, Sz.s_alt2f, ↓Sz.s_loopi, ↓Sz.v_pq, ↓Sz.PRE, Sz.POST, Sz.CORE, Nat.reduceDiv, Nat.reduceMod, Int.reduceLT, Int.reduceLE, Int.reduceToNat, Int.reduceAdd, ↓reduceIte, Nat.reduceEqDiff, Nat.reduceAdd, Nat.reduceMul, Nat.reduceSub, Nat.reduceLeDiff, Nat.reduceLT, reduceCtorEq, if_true, eq_self, forall_const, implies_true])) <;> (try simp), by simp only [FitE, Le, LeL, List.cons_append, List.nil_append] <;> (try (simp (maxSteps := 2000000) -implicitDefEqProofs only [extO, extO2, extLe_no, or_true, Sz.o_sl, Sz.o_grows, Sz.o_kill, Sz.o_len, Sz.o_cap, Sz.o_isl, Sz.o_le, Sz.o_cells, Sz.o_one, Sz.oOk_c, Sz.oOk_o, Sz.oO_cells, Sz.oO_own, Sz.oV_s, Sz.oV_0, Sz.oO_nil, Sz.oO_iL, Sz.iL_nil, Sz.iL_snoc, List.length_append, Sz.iL_fold, Sz.iL_over, Sz.iL_all, Sz.iL_get, Sz.iL_len, Sz.iL_take, Sz.iL_drop, Sz.iL_one, Sz.iL_plain, Sz.iL_le, List.length_set, List.length_cons, List.length_nil, Sz.s_alt, Sz.s_alt20, Sz.s_alt2t, Sz.s_alt2f, ↓Sz.s_loopi, ↓Sz.v_pq, ↓Sz.PRE, Sz.POST, Sz.CORE, Nat.reduceDiv, Nat.reduceMod, Int.reduceLT, Int.reduceLE, Int.reduceToNat, Int.reduceAdd, ↓reduceIte, Nat.reduceEqDiff, Nat.reduceAdd, Nat.reduceMul, Nat.reduceSub, Nat.reduceLeDiff, Nat.reduceLT, reduceCtorEq, if_true, eq_self, forall_const, implies_true])) <;> (try simp only [Sz.Le, Sz.LeL, List.getElem?_cons_zero, List.getElem?_cons_succ]) <;> (try simp), keep0 hJ⟩⟩
      · have j1 : (xs.length : Int) ≤ (x : Int) := by omega
        have hF : difF A B x = true := by
          have e : A[x]? = none := List.getElem?_eq_none (by rw [hA, List.length_map]; omega)
          unfold difF
          rw [e]
        rw [out hF]
        generalize difN A B x = L at hd hlen out ⊢
        simp (maxSteps := 2000000) -implicitDefEqProofs only [ge_iff_le, i0, i1, j1, w1, Sz.o_sl, Sz.o_grows, Sz.o_kill, Sz.o_len, Sz.o_cap, Sz.o_isl, Sz.o_le, Sz.o_cells, Sz.o_one, Sz.oOk_c, Sz.oOk_o, Sz.oO_cells, Sz.oO_own, Sz.oV_s, Sz.oV_0, Sz.oO_nil, Sz.oO_iL, Sz.iL_nil, Sz.iL_snoc, List.length_append, Sz.iL_fold, Sz.iL_over, Sz.iL_all, Sz.iL_get, Sz.iL_len, Sz.iL_take, Sz.iL_drop, Sz.iL_one, Sz.iL_plain, Sz.iL_le, List.length_set, Sz.s_alt, Sz.s_alt20, Sz.s_alt2t, Sz.s_alt2f, ↓Sz.s_loopi, ↓Sz.v_pq, ↓Sz.PRE, Sz.POST, Sz.CORE, Nat.reduceDiv, Nat.reduceMod, Int.reduceLT, Int.reduceLE, Int.reduceToNat, Int.reduceAdd, ↓reduceIte, Nat.reduceEqDiff, Nat.reduceAdd, Nat.reduceMul, Nat.reduceSub, Nat.reduceLeDiff, Nat.reduceLT, reduceCtorEq, if_true, eq_self, forall_const, implies_true]
        exact ⟨⟨by unfold maxLen; omega, by omega⟩, ⟨[0, 1, 4], by simp [Sz.NdL, Sz.NdA, Sz.oO_cells, Sz.oO_own, Sz.iL_nil], by simp only [FitM, ObLe, LeL, Le, List.cons_append, List.nil_append] <;> (try (simp (maxSteps := 2000000) -implicitDefEqProofs only [extO, extO2, extLe_no, or_true, Sz.o_sl, Sz.o_grows, Sz.o_kill, Sz.o_len, Sz.o_cap, Sz.o_isl, Sz.o_le, Sz.o_cells, Sz.o_one, Sz.oOk_c, Sz.oOk_o, Sz.oO_cells, Sz.oO_own, Sz.oV_s, Sz.oV_0, Sz.oO_nil, Sz.oO_iL, Sz.iL_nil, Sz.iL_snoc, List.length_append, Sz.iL_fold, Sz.iL_over, Sz.iL_all, Sz.iL_get, Sz.iL_len, Sz.iL_take, Sz.iL_drop, Sz.iL_one, Sz.iL_plain, Sz.iL_le, List.length_set, List.length_cons, List.length_nil, Sz.s_alt, Sz.s_alt20, Sz.s_alt2t, Sz.s_alt2f, ↓Sz.s_loopi, ↓Sz.v_pq, ↓Sz.PRE, Sz.POST, Sz.CORE, Nat.reduceDiv, Nat.reduceMod, Int.reduceLT, Int.reduceLE, Int.reduceToNat, Int.reduceAdd, ↓reduceIte, Nat.reduceEqDiff, Nat.reduceAdd, Nat.reduceMul, Nat.reduceSub, Nat.reduceLeDiff, Nat.reduceLT, reduceCtorEq, if_true, eq_self, forall_const, implies_true])) <;> (try simp), by simp only [FitE, Le, LeL, List.cons_append, List.nil_append] <;> (try (simp (maxSteps := 2000000) -implicitDefEqProofs only [extO, extO2, extLe_no, or_true, Sz.o_sl, Sz.o_grows, Sz.o_kill, Sz.o_len, Sz.o_cap, Sz.o_isl, Sz.o_le, Sz.o_cells, Sz.o_one, Sz.oOk_c, Sz.oOk_o, Sz.oO_cells, Sz.oO_own, Sz.oV_s, Sz.oV_0, Sz.oO_nil, Sz.oO_iL, Sz.iL_nil, Sz.iL_snoc, List.length_append, Sz.iL_fold, Sz.iL_over, Sz.iL_all, Sz.iL_get, Sz.iL_len, Sz.iL_take, Sz.iL_drop, Sz.iL_one, Sz.iL_plain, Sz.iL_le, List.length_set, List.length_cons, List.length_nil, Sz.s_alt, Sz.s_alt20, Sz.s_alt2t, Sz.s_alt2f, ↓Sz.s_loopi, ↓Sz.v_pq, ↓Sz.PRE, Sz.POST, Sz.CORE, Nat.reduceDiv, Nat.reduceMod, Int.reduceLT, Int.reduceLE, Int.reduceToNat, Int.reduceAdd, ↓reduceIte, Nat.reduceEqDiff, Nat.reduceAdd, Nat.reduceMul, Nat.reduceSub, Nat.reduceLeDiff, Nat.reduceLT, reduceCtorEq, if_true, eq_self, forall_const, implies_true])) <;> (try simp only [Sz.Le, Sz.LeL, List.getElem?_cons_zero, List.getElem?_cons_succ]) <;> (try simp), keep0 hJ⟩⟩
    · intro _
      have i1 : ¬ (N : Int) < (N : Int) := by omega
      simp (maxSteps := 2000000) -implicitDefEqProofs only [i1, Sz.s_alt, Sz.s_alt20, Sz.s_alt2t, Sz.s_alt2f, ↓Sz.s_loopi, ↓Sz.v_pq, ↓Sz.PRE, Sz.POST, Sz.CORE, Nat.reduceDiv, Nat.reduceMod, Int.reduceLT, Int.reduceLE, Int.reduceToNat, Int.reduceAdd, ↓reduceIte, Nat.reduceEqDiff, Nat.reduceAdd, Nat.reduceMul, Nat.reduceSub, Nat.reduceLeDiff, Nat.reduceLT, reduceCtorEq, if_true, eq_self, forall_const, implies_true]
      generalize difN A B N = L at hk ⊢
      refine fin_int L _ _ 2 (fun h => ?_) (fun h => ?_) hk
      · subst h; rfl
      · have hl : L.length ≠ 0 := fun h0 => h (List.length_eq_zero_iff.1 h0)
        refine ⟨by unfold oV; rw [if_neg hl], ?_⟩
        have : (oO (iL L)) = ⟨true, iL L⟩ := by
          unfold oO
          have : (iL L).isEmpty = false := by
            cases L with
            | nil => exact (h rfl).elim
            | cons x L => rfl
          rw [this]; rfl
        simp [this]
end Go.Proofs.Ytibefgdjijmncaa
