/- Layer 28 (apart): Swapped. -/
import Derived.Test.YtppndeoiifkkkaaApB
namespace Go.Proofs.Ytppndeoiifkkkaa
open Go.RowKit Go.Proofs.YtppndeoiifkkkaaW.PrintWords
set_option linter.unusedVariables false
theorem swapped_nil (v vc : Value) (l : List Stp) (t : Int) (w : World) (hl : l.length ≤ 200) (hR : Rd Stp.cs 8 w v l) (hC : Rd Cmd.cs 3 w vc []) :
    Calls Try.prog 21 #[v, .int .i64 t, vc] w fun e w' => ∃ v', e = .returned v' ∧ w'.ownsRow w.heap.size 28 8 v' (keptL t l).length (rowCells Stp.cs (keptL t l)) ∧ Below w.heap.size w w' := by
  obtain ⟨A, c, rfl, hc, _⟩ := hC
  have K := without_c v l t w hl hR
  go_enter Try.func21, Try.ntmps21
  go_wp2_with fail
  refine K.mono ?_
  rintro e w' ⟨v', rfl, hown, hb⟩
  go_wp2
  go_ret
  exact ⟨_, rfl, hown, hb⟩
set_option maxHeartbeats 1600000 in
set_option maxRecDepth 100000 in
theorem swapped_c (v vc : Value) (l : List Stp) (c : List Cmd) (t : Int) (w : World) (hl : l.length ≤ 200) (hR : Rd Stp.cs 8 w v l) (hC : Rd Cmd.cs 3 w vc c) (hc0 : 0 < c.length) (hcm : c.length ≤ 60) :
    Calls Try.prog 21 #[v, .int .i64 t, vc] w fun e w' => ∃ v', e = .returned v' ∧ w'.ownsRow w.heap.size 28 8 v' l.length (rowCells Stp.cs (swapF t c l).1) ∧ Below w.heap.size w w' := by
  obtain ⟨A, cc, rfl, hcc, hcc2⟩ := hC
  obtain ⟨gc, oc, rfl, hatc⟩ : ∃ g o, A = some ⟨g, o, none⟩ ∧ ∀ (i : Nat) (x : Cmd), c[i]? = some x → RAt Cmd.cs w g (o + i * 3) x := by
    rcases hcc2 with h | h
    · omega
    · exact h
  have K := clone_c v l w hl hR
  have hce : ((c.length : Int) == 0) = false := by rw [beq_eq_false_iff_ne]; omega
  have HC := Lib.hid hatc
  clear hatc hcc2 hR
  go_enter Try.func21, Try.ntmps21
  go_wp2_with fail
  refine K.mono ?_
  rintro e w1 ⟨v', rfl, hown, hb1⟩
  clear K
  rcases Nat.eq_zero_or_pos l.length with h0 | hpos
  · obtain rfl : l = [] := List.length_eq_zero_iff.1 h0
    obtain ⟨A2, c2, rfl⟩ := own_slice hown
    go_wp2_with fail
    refine wp_loop_rounds 1 ?_
    rw [rounds_succ]
    go_wp2
    go_ret
    exact ⟨_, rfl, hown, hb1⟩
  obtain ⟨g, cap, rfl, _, _⟩ := hown.form hpos
  go_wp2_with fail
  go_loopw [8, 20] (fun nx i wr => ∃ k : Nat, k ≤ l.length ∧ i = .int .i64 k ∧ nx = .int .i64 (swapF t c (l.take k)).2 ∧ wr.ownsRow w.heap.size 28 8 (.slice (some ⟨g, 0, none⟩) l.length cap) l.length (rowCells Stp.cs ((swapF t c (l.take k)).1 ++ l.drop k)) ∧ Below w.heap.size w wr) (fun _ i _ => l.length - (intOf i).toNat)
  case atStart => exact ⟨0, by omega, rfl, rfl, hown, hb1⟩
  case round =>
    obtain ⟨k, hk, rfl, rfl, hown, hbr⟩ := hrel
    by_cases hlt : k < l.length
    · have hget : l[k]? = some (l[k]'hlt) := List.getElem?_eq_getElem hlt
      have hs := swapF_succ (t := t) (c := c) hget
      have hd := drop_one hget
      generalize l[k]'hlt = s at hs hd
      rw [hd] at hown
      have hsl := swapF_len t c (l.take k)
      have hlen : (swapF t c (l.take k)).1.length = k := by rw [hsl.1, List.length_take]; omega
      have hnx : (swapF t c (l.take k)).2 ≤ 200 := by have := hsl.2; rw [List.length_take] at this; omega
      obtain ⟨A9, c9, hv9, _, hr9⟩ := Rd_of_own Stp.cs Stp.len hown (by simp [hlen]; omega)
      have hx : RAt Stp.cs wr g (0 + k * 8) s := by
        rcases hr9 with h | ⟨g9, o9, h, hat⟩
        · simp at h
        · injection hv9 with ha _ _
          rw [h] at ha
          injection ha with ha
          injection ha with h1 h2
          have := hat k s (mid_get hlen)
          rw [← h1, ← h2] at this
          exact this
      rw [Nat.zero_add] at hx
      have hf5 := hown.frozenAt (k * 8 + 5)
      have hf6 := hown.frozenAt (k * 8 + 6)
      have hf7 := hown.frozenAt (k * 8 + 7)
      have c0 : wr.cell? ⟨g, k * 8, none⟩ = some (.int .i64 s.kind) := hx 0 _ rfl
      have c1 := hx 1 _ rfl
      have c2 := hx 2 _ rfl
      have c3 := hx 3 _ rfl
      have c4 := hx 4 _ rfl
      have c5 := hx 5 _ rfl
      have c6 := hx 6 _ rfl
      have c7 := hx 7 _ rfl
      have hkd : decide ((k : Int) < (l.length : Int)) = true := by rw [decide_eq_true_iff]; omega
      have hk0 : (0 : Int) ≤ (k : Int) := by omega
      have HS := Lib.hid hs
      have HX := Lib.hid hx
      have HL := Lib.hid hlen
      generalize hn : (swapF t c (l.take k)).2 = n at hnx
      have HN := Lib.hid hn
      clear hget hx hs hd hsl hr9 hlen hn hv9
      go_wp2_with fail
      refine (to_c s t _).mono ?_
      rintro e y ⟨rfl, hby⟩
      have hbwy : Below w.heap.size w y := hbr.trans (hby.mono hbr.size)
      have hown1 := own_below hown hby
      have hg := hown.lt g rfl
      have e5 := hown1.frozenAt (k * 8 + 5)
      have e6 := hown1.frozenAt (k * 8 + 6)
      have e7 := hown1.frozenAt (k * 8 + 7)
      have hY := HX.out.below hby
      have d5 := hY 5 _ rfl
      have d6 := hY 6 _ rfl
      have d7 := hY 7 _ rfl
      clear c0 c1 c2 c3 c4 c5 c6 c7 hf5 hf6 hf7 hown
      cases hto : toB s t
      · have hs2 : swapF t c (l.take (k + 1)) = ((swapF t c (l.take k)).1 ++ [s], n) := by rw [HS.out]; unfold swapStep; rw [hto, HN.out]; rfl
        have H2 := Lib.hid hs2
        clear hs2
        go_wp2
        go_roundw
        case rel => exact ⟨k + 1, by omega, by go_num, by rw [H2.out], by rw [H2.out]; simpa using hown1, hbwy⟩
        case measure => simp [intOf]; omega
      · have hs2 : swapF t c (l.take (k + 1)) = ((swapF t c (l.take k)).1 ++ [s.with (cmdAt c n)], n + 1) := by rw [HS.out]; unfold swapStep; rw [hto, HN.out]; rfl
        have H2 := Lib.hid hs2
        have hcg := (HC.out _ _ (cmdAt_get hc0 n)).below (hbwy.mono (Nat.le_refl _))
        have hmod : n % c.length < c.length := Nat.mod_lt _ hc0
        generalize cmdAt c n = x at hcg H2
        have hz0 : (0 : Int) ≤ (n : Int) % (c.length : Int) := Int.emod_nonneg _ (by omega)
        have hz1 : (n : Int) % (c.length : Int) < (c.length : Int) := Int.emod_lt_of_pos _ (by omega)
        have q0 : y.cell? ⟨gc, oc + n % c.length * 3, none⟩ = some (.int .i64 x.op) := hcg 0 _ rfl
        have q1 := hcg 1 _ rfl
        have q2 := hcg 2 _ rfl
        have hst := stored_cmd (c := x) hown1 HL.out
        have HST := Lib.hid hst
        have hn0 : (0 : Int) ≤ (n : Int) := by omega
        have hcp : (0 : Int) < (c.length : Int) := by omega
        clear hs2 hst hcg hmod
        go_wp2
        go_roundw
        case rel => exact ⟨k + 1, by omega, by go_num, by rw [H2.out]; go_num, by rw [H2.out]; simpa using HST.out, below_set (below_set (below_set hbwy hg.1 _ _) hg.1 _ _) hg.1 _ _⟩
        case measure => simp [intOf]; omega
    · obtain rfl : k = l.length := by omega
      rw [List.take_length, List.drop_length, List.append_nil] at hown
      go_wp2
      go_ret
      exact ⟨_, rfl, hown, hbr⟩
end Go.Proofs.Ytppndeoiifkkkaa
