/- Layer 42 (turn): the law TurnWaits, walked. -/
import Derived.Test.YtppndeoiifkkkaaTurnG
import Derived.Deep.RegionHeld3
import Derived.Deep.DeepCutAuto
namespace Go.Proofs.Ytppndeoiifkkkaa
open Go.RowKit
set_option linter.unusedVariables false
theorem keep_below {W W' : World} {a : Addr} {v : Value} (hb : Below W.heap.size W W') (h : W.cell? a = some v) : W'.cell? a = some v := (hb.cell (World.block_lt_of_cell? _ _ h)).trans h
theorem keep_alloc {W : World} {a : Addr} {v : Value} {o : Obj} (h : W.cell? a = some v) : (W.alloc o).cell? a = some v := (World.cell?_alloc_lt _ _ _ (World.block_lt_of_cell? _ _ h)).trans h
theorem keep_realloc {W : World} {a : Addr} {v : Value} {o o' : Obj} (hlt : a.block < W.heap.size) (h : (W.alloc o).cell? a = some v) : (W.alloc o').cell? a = some v := ((World.cell?_alloc_lt _ _ _ hlt).trans (World.cell?_alloc_lt _ _ _ hlt).symm).trans h
theorem lt_below {W W' : World} {n : Nat} (hb : Below W.heap.size W W') (h : n < W.heap.size) : n < W'.heap.size := Nat.lt_of_lt_of_le h hb.size
theorem keep_frozen {W W' : World} {a : Addr} {v : Value} (hb : Below W.heap.size W W') (h : W.cell? a = some v) (hf : W.frozen? a = false) : W'.frozen? a = false := (hb.frozen (World.block_lt_of_cell? _ _ h)).trans hf
theorem blk_after {W y : World} {g T : Nat} {v0 v1 v2 v3 : Value} (hb : Below W.heap.size W y) (h : W.heap[g]? = some (.cells #[v0, v1, v2, v3] T (0, 0))) :
    y.cell? ⟨g, 0, none⟩ = some v0 ∧ y.cell? ⟨g, 1, none⟩ = some v1 ∧ y.cell? ⟨g, 2, none⟩ = some v2 ∧ y.cell? ⟨g, 3, none⟩ = some v3 ∧
      y.frozen? ⟨g, 0, none⟩ = false ∧ y.frozen? ⟨g, 1, none⟩ = false ∧ y.frozen? ⟨g, 2, none⟩ = false ∧ y.frozen? ⟨g, 3, none⟩ = false := by
  have hlt : g < W.heap.size := (Array.getElem?_eq_some_iff.1 h).1
  have h' : y.heap[g]? = some (.cells #[v0, v1, v2, v3] T (0, 0)) := (hb.block g hlt).trans h
  refine ⟨?_, ?_, ?_, ?_, frozen_of_row _ _ _ _ _ h', frozen_of_row _ _ _ _ _ h', frozen_of_row _ _ _ _ _ h', frozen_of_row _ _ _ _ _ h'⟩
  all_goals rw [cell_of_row _ _ _ _ _ _ h']; rfl
theorem keep_set4 {W : World} {g : Nat} {a : Addr} {v v0 v1 v2 v3 : Value} (hne : a.block ≠ g) (h : W.cell? a = some v) :
    ((((W.setCell ⟨g, 0, none⟩ v0).setCell ⟨g, 1, none⟩ v1).setCell ⟨g, 2, none⟩ v2).setCell ⟨g, 3, none⟩ v3).cell? a = some v := by
  have e : ∀ (X : World) (i : Nat) (u : Value), (X.setCell ⟨g, i, none⟩ u).cell? a = X.cell? a := fun X i u => World.cell?_of_block (Below.heap_setCell X ⟨g, i, none⟩ u a.block hne)
  rw [e, e, e, e]; exact h
theorem set4_cells {W : World} {g : Nat} {u0 u1 u2 u3 v0 v1 v2 v3 : Value} (c0 : W.cell? ⟨g, 0, none⟩ = some u0) (c1 : W.cell? ⟨g, 1, none⟩ = some u1) (c2 : W.cell? ⟨g, 2, none⟩ = some u2) (c3 : W.cell? ⟨g, 3, none⟩ = some u3) :
    ((((W.setCell ⟨g, 0, none⟩ v0).setCell ⟨g, 1, none⟩ v1).setCell ⟨g, 2, none⟩ v2).setCell ⟨g, 3, none⟩ v3).cell? ⟨g, 0, none⟩ = some v0 ∧
    ((((W.setCell ⟨g, 0, none⟩ v0).setCell ⟨g, 1, none⟩ v1).setCell ⟨g, 2, none⟩ v2).setCell ⟨g, 3, none⟩ v3).cell? ⟨g, 1, none⟩ = some v1 ∧
    ((((W.setCell ⟨g, 0, none⟩ v0).setCell ⟨g, 1, none⟩ v1).setCell ⟨g, 2, none⟩ v2).setCell ⟨g, 3, none⟩ v3).cell? ⟨g, 2, none⟩ = some v2 ∧
    ((((W.setCell ⟨g, 0, none⟩ v0).setCell ⟨g, 1, none⟩ v1).setCell ⟨g, 2, none⟩ v2).setCell ⟨g, 3, none⟩ v3).cell? ⟨g, 3, none⟩ = some v3 := by
  have far : ∀ (X : World) (i j : Nat) (u : Value), i ≠ j → (X.setCell ⟨g, j, none⟩ u).cell? ⟨g, i, none⟩ = X.cell? ⟨g, i, none⟩ := fun X i j u h => World.cell?_setCell_other _ _ _ _ (by intro e; cases e; exact h rfl)
  refine ⟨?_, ?_, ?_, ?_⟩
  · rw [far _ _ _ _ (by omega), far _ _ _ _ (by omega), far _ _ _ _ (by omega)]
    exact World.cell?_setCell_same _ _ _ c0
  · rw [far _ _ _ _ (by omega), far _ _ _ _ (by omega)]
    exact World.cell?_setCell_same _ _ _ ((far _ _ _ _ (by omega)).trans c1)
  · rw [far _ _ _ _ (by omega)]
    exact World.cell?_setCell_same _ _ _ ((far _ _ _ _ (by omega)).trans ((far _ _ _ _ (by omega)).trans c2))
  · exact World.cell?_setCell_same _ _ _ ((far _ _ _ _ (by omega)).trans ((far _ _ _ _ (by omega)).trans ((far _ _ _ _ (by omega)).trans c3)))
theorem own_set4 {W : World} {base e size n g : Nat} {v v0 v1 v2 v3 : Value} {xs : List Value} (h : W.ownsRow base e size v n xs) (hg : g < base) :
    ((((W.setCell ⟨g, 0, none⟩ v0).setCell ⟨g, 1, none⟩ v1).setCell ⟨g, 2, none⟩ v2).setCell ⟨g, 3, none⟩ v3).ownsRow base e size v n xs :=
  setCell_own (setCell_own (setCell_own (setCell_own h hg _) hg _) hg _) hg _
def ordO (s a b c d : Int) : List Int := if slottedB s = true then preO s a b c d 32 else []
theorem with_fact {T G : Prop} (h : T) (k : T → G) : G := k h
theorem bcell {W w1 : World} (hb : Below W.heap.size W w1) : (∀ b o, b < W.heap.size → w1.cell? ⟨b, o, none⟩ = W.cell? ⟨b, o, none⟩) ∧ (∀ b o, b < W.heap.size → w1.frozen? ⟨b, o, none⟩ = W.frozen? ⟨b, o, none⟩) :=
  ⟨fun b o h => hb.cell (p := ⟨b, o, none⟩) h, fun b o h => hb.frozen (p := ⟨b, o, none⟩) h⟩
/-- A slice value of n elements, its cells read. -/
theorem own_reads {w : World} {base e n : Nat} {v : Value} {xs : List Value} (h : w.ownsRow base e 1 v n xs) :
    ∃ a cap, v = .slice a n cap ∧ ∀ (j : Nat) (u : Value), xs[j]? = some u → ∃ g, a = some ⟨g, 0, none⟩ ∧ g < w.heap.size ∧ w.cell? ⟨g, j, none⟩ = some u := by
  rcases Nat.eq_zero_or_pos n with h0 | h0
  · subst h0
    obtain ⟨a, cap, hv⟩ := own_none h
    refine ⟨a, cap, hv, fun j u hj => ?_⟩
    have := h.1
    have : xs = [] := List.length_eq_zero_iff.1 (by omega)
    rw [this] at hj; simp at hj
  · obtain ⟨g, cap, hv, _, hg, _, hc⟩ := own_some h h0
    exact ⟨_, cap, hv, fun j u hj => ⟨g, rfl, hg, hc j u hj⟩⟩

set_option maxHeartbeats 1600000 in
set_option maxRecDepth 100000 in
theorem turnWaits_w (s a b c d : Int) (w : World) : Calls Try.prog 5 #[.int .i64 s, .agg #[.int .i64 a, .int .i64 b, .int .i64 c, .int .i64 d]] w fun e w' => e = .returned (.bool true) ∧ Below w.heap.size w w' := by
  have EN := fun w => neq36 (wait1 s 0 a) (wait1 s 1 b) (wait1 s 2 c) (wait1 s 3 d) (wait1 s 0 a) (wait1 s 1 b) (wait1 s 2 c) (wait1 s 3 d) w
  rw [show ([wait1 s 0 a, wait1 s 1 b, wait1 s 2 c, wait1 s 3 d] == [wait1 s 0 a, wait1 s 1 b, wait1 s 2 c, wait1 s 3 d]) = true by simp] at EN
  go_enter Try.func5, Try.ntmps5
  go_wp2_with fail
  refine (fixed42_c _).mono ?_
  rintro e x1 ⟨rfl, hb1⟩
  have c0 : x1.cell? ⟨w.heap.size, 0, none⟩ = some (.int .i64 a) := (hb1.cell (p := ⟨w.heap.size, 0, none⟩) (by simp)).trans (by rw [World.cell?_alloc_at _ _ _ _ rfl]; rfl)
  have c1 : x1.cell? ⟨w.heap.size, 1, none⟩ = some (.int .i64 b) := (hb1.cell (p := ⟨w.heap.size, 1, none⟩) (by simp)).trans (by rw [World.cell?_alloc_at _ _ _ _ rfl]; rfl)
  have c2 : x1.cell? ⟨w.heap.size, 2, none⟩ = some (.int .i64 c) := (hb1.cell (p := ⟨w.heap.size, 2, none⟩) (by simp)).trans (by rw [World.cell?_alloc_at _ _ _ _ rfl]; rfl)
  have c3 : x1.cell? ⟨w.heap.size, 3, none⟩ = some (.int .i64 d) := (hb1.cell (p := ⟨w.heap.size, 3, none⟩) (by simp)).trans (by rw [World.cell?_alloc_at _ _ _ _ rfl]; rfl)
  have hsz := hb1.size
  simp at hsz
  have hlt : w.heap.size < x1.heap.size := by omega
  have hne : w.heap.size ≠ x1.heap.size := by omega
  have hne' : x1.heap.size ≠ w.heap.size := by omega
  go_wp2_with fail
  go_cut [5, 6] (fun p o wc => ∃ g : Nat, p = .pointer (some ⟨g, 0, none⟩) ∧ g < wc.heap.size ∧ wc.cell? ⟨g, 0, none⟩ = some (.int .i64 (wait1 s 0 a)) ∧ wc.cell? ⟨g, 1, none⟩ = some (.int .i64 (wait1 s 1 b)) ∧ wc.cell? ⟨g, 2, none⟩ = some (.int .i64 (wait1 s 2 c)) ∧ wc.cell? ⟨g, 3, none⟩ = some (.int .i64 (wait1 s 3 d)) ∧
      wc.ownsRow w.heap.size 3 1 o (ordO s a b c d).length ((ordO s a b c d).map (Value.int .i64)) ∧ Below x1.heap.size x1 wc)
  case first =>
    go_region_held3 (fun W' => W'.cell? ⟨w.heap.size, 0, none⟩ = some (.int .i64 a) ∧ W'.cell? ⟨w.heap.size, 1, none⟩ = some (.int .i64 b) ∧ W'.cell? ⟨w.heap.size, 2, none⟩ = some (.int .i64 c) ∧ W'.cell? ⟨w.heap.size, 3, none⟩ = some (.int .i64 d))
      (((try dsimp only); (try go_split_ands); (repeat' apply And.intro); all_goals (first | (with_reducible assumption) | (with_reducible refine keep_below hy ?_; with_reducible assumption) | (with_reducible refine keep_alloc ?_; with_reducible assumption) | (with_reducible apply keep_realloc (a := ⟨w.heap.size, _, none⟩) hlt; with_reducible assumption) | (with_reducible apply keep_realloc (a := ⟨w.heap.size, _, none⟩) hz1; with_reducible assumption) | (with_reducible apply keep_realloc (a := ⟨w.heap.size, _, none⟩) hz2; with_reducible assumption) | (with_reducible apply keep_set4 (a := ⟨w.heap.size, _, none⟩) hne; with_reducible assumption) | (with_reducible apply keep_set4 (a := ⟨w.heap.size, _, none⟩) hne1; with_reducible assumption) | (go_keep; done))))
      (first
        | (go_at_call 29; refine (waits_c s a b c d _).mono ?_; rintro e y1 ⟨rfl, hy⟩; have hz1 : w.heap.size < y1.heap.size := (by have h5 := hy.size; (try simp at h5); omega); have hle1 : x1.heap.size ≤ y1.heap.size := (by have h5 := hy.size; (try simp at h5); omega); have hne1 : w.heap.size ≠ y1.heap.size := Nat.ne_of_lt hz1; have hy1 := hy; try obtain ⟨b0, b1, b2, b3, g0, g1, g2, g3⟩ := blk_after hy (heap_alloc_new _ _))
        | (go_at_call 30; refine (order_c s a b c d _).mono ?_; rintro e y2 ⟨v, rfl, hown, hy⟩; have hz2 : w.heap.size < y2.heap.size := (by have h5 := hy.size; (try simp at h5); omega); have hle2 : y1.heap.size ≤ y2.heap.size := (by have h5 := hy.size; (try simp at h5); omega); have hy2 := hy; (first | (obtain ⟨b0', b1', b2', b3', g0', g1', g2', g3'⟩ := blk_after hy (heap_alloc_new _ _)) | (have b0' := keep_below hy b0; have b1' := keep_below hy b1; have b2' := keep_below hy b2; have b3' := keep_below hy b3; have g0' := keep_frozen hy b0 g0; have g1' := keep_frozen hy b1 g1; have g2' := keep_frozen hy b2 g2; have g3' := keep_frozen hy b3 g3) | skip)))
    all_goals (go_wp2_with fail; go_meet)
    all_goals rw [← ordO] at hown
    · have hB1 : Below x1.heap.size x1 y1 := (Below.refl _ x1).drew.trans hy1
      have hB2 : Below x1.heap.size x1 y2 := hB1.trans (Below.mono hy hle1)
      exact ⟨_, rfl, by simp, by rw [World.cell?_alloc_at _ _ _ _ rfl]; rfl, by rw [World.cell?_alloc_at _ _ _ _ rfl]; rfl, by rw [World.cell?_alloc_at _ _ _ _ rfl]; rfl, by rw [World.cell?_alloc_at _ _ _ _ rfl]; rfl, (own_mono hown (Nat.le_of_lt hz1)).alloc _, hB2.alloc hB2.size _⟩
    · have hB1 : Below x1.heap.size x1 y1 := (Below.refl _ x1).drew.trans hy1
      have hB2 : Below x1.heap.size x1 y2 := (hB1.alloc hle1 _).trans (Below.mono hy (by simp; omega))
      have hlt2 := World.block_lt_of_cell? _ _ b0'
      obtain ⟨p0, p1, p2, p3⟩ := set4_cells (v0 := .int .i64 (wait1 s 0 a)) (v1 := .int .i64 (wait1 s 1 b)) (v2 := .int .i64 (wait1 s 2 c)) (v3 := .int .i64 (wait1 s 3 d)) b0' b1' b2' b3'
      have own4 := own_set4 (g := y1.heap.size) (v0 := .int .i64 (wait1 s 0 a)) (v1 := .int .i64 (wait1 s 1 b)) (v2 := .int .i64 (wait1 s 2 c)) (v3 := .int .i64 (wait1 s 3 d)) hown (by simp)
      refine ⟨_, rfl, by simpa using hlt2, p0, p1, p2, p3, own_mono own4 (by simp; omega), (((hB2.setCell (p := ⟨_, 0, none⟩) hle1 _).setCell (p := ⟨_, 1, none⟩) hle1 _).setCell (p := ⟨_, 2, none⟩) hle1 _).setCell (p := ⟨_, 3, none⟩) hle1 _⟩
    · have hB1 : Below x1.heap.size x1 y1 := ((Below.refl _ x1).alloc (Nat.le_refl _) _).drew.trans (Below.mono hy1 (by simp))
      have hB2 : Below x1.heap.size x1 y2 := hB1.trans (Below.mono hy hle1)
      have hs1 : x1.heap.size < y1.heap.size := by have := hy1.size; simp at this; omega
      have hlt2 := World.block_lt_of_cell? _ _ b0'
      obtain ⟨p0, p1, p2, p3⟩ := set4_cells (v0 := .int .i64 (wait1 s 0 a)) (v1 := .int .i64 (wait1 s 1 b)) (v2 := .int .i64 (wait1 s 2 c)) (v3 := .int .i64 (wait1 s 3 d)) b0' b1' b2' b3'
      have own4 := own_set4 (g := x1.heap.size) (v0 := .int .i64 (wait1 s 0 a)) (v1 := .int .i64 (wait1 s 1 b)) (v2 := .int .i64 (wait1 s 2 c)) (v3 := .int .i64 (wait1 s 3 d)) hown hs1
      refine ⟨_, rfl, by simpa using hlt2, p0, p1, p2, p3, own_mono own4 (Nat.le_of_lt hz1), (((hB2.setCell (p := ⟨_, 0, none⟩) (Nat.le_refl _) _).setCell (p := ⟨_, 1, none⟩) (Nat.le_refl _) _).setCell (p := ⟨_, 2, none⟩) (Nat.le_refl _) _).setCell (p := ⟨_, 3, none⟩) (Nat.le_refl _) _⟩
  case rest =>
    obtain ⟨g, rfl, hg, k0, k1, k2, k3, hown, hbx⟩ := hcut
    have e0 := keep_below hbx c0
    have e1 := keep_below hbx c1
    have e2 := keep_below hbx c2
    have e3 := keep_below hbx c3
    clear c0 c1 c2 c3
    by_cases hs : slottedB s = true
    · obtain ⟨h1, h2⟩ := (slottedB_iff s).1 hs
      rw [ordO, if_pos hs] at hown
      clear hs
      have h2' : decide (1099511627776 < s) = false := by rw [decide_eq_false_iff_not]; omega
      have h1' : decide (s < 0) = false := by rw [decide_eq_false_iff_not]; omega
      obtain ⟨a1, cap1, rfl, hr1⟩ := own_reads hown
      go_wp2_with fail
      refine (refOrder_c s a b c d _ h1 h2).mono ?_
      rintro e x3 ⟨v2, rfl, hown2, hb3⟩
      obtain ⟨a2, cap2, rfl, hr2⟩ := own_reads hown2
      have f0 := keep_below hb3 k0
      have f1 := keep_below hb3 k1
      have f2 := keep_below hb3 k2
      have f3 := keep_below hb3 k3
      have hg3 : g < x3.heap.size := Nat.lt_of_lt_of_le hg hb3.size
      have hle : (preO s a b c d 32).length ≤ 32 := preO_le s a b c d 32
      clear k0 k1 k2 k3 e0 e1 e2 e3 hown hown2
      generalize preO s a b c d 32 = L at *
      go_wp2_with fail
      have hbs := hb3.size
      go_loopw [50] (fun i wr => ∃ k : Nat, k ≤ L.length ∧ i = .int .i64 k ∧ Below x3.heap.size x3 wr) (fun i _ => L.length - (intOf i).toNat)
      case atStart => exact ⟨0, by omega, rfl, (Below.refl _ _).alloc (Nat.le_refl _) _⟩
      case round =>
        obtain ⟨k, hk, rfl, hbr⟩ := hrel
        by_cases hlt : k < L.length
        · have hL : (L.map (Value.int .i64))[k]? = some (.int .i64 (L[k])) := by simp [hlt]
          obtain ⟨g1, rfl, hg1, hc1⟩ := hr1 k _ hL
          obtain ⟨g2, rfl, hg2, hc2⟩ := hr2 k _ hL
          have d1 : wr.cell? ⟨g1, k, none⟩ = some (.int .i64 (L[k])) := keep_below hbr (keep_below hb3 hc1)
          have d2 : wr.cell? ⟨g2, k, none⟩ = some (.int .i64 (L[k])) := keep_below hbr hc2
          generalize L[k] = z at *
          have hlt' : (k : Int) < (L.length : Int) := by omega
          have hk0 : (0 : Int) ≤ (k : Int) := by omega
          clear hL hc1 hc2 hr1 hr2
          go_wp2
          go_quiet (fail)
          go_wp2
          go_roundw
          case rel => exact ⟨k + 1, by omega, by go_num, below_drewN hbr _⟩
          case measure => simp [intOf]; omega
        · obtain rfl : k = L.length := by omega
          clear hr1 hr2
          go_wp2
          go_ret
          refine ⟨rfl, ((((Below.refl _ w).alloc (Nat.le_refl _) _).trans (hb1.mono (by simp))).trans (hbx.mono (by omega))).trans (?_)⟩
          exact (hb3.trans (hbr.mono (by omega))).mono (by have := hbx.size; omega)
    · have hs' : slottedB s = false := by simpa using hs
      have g1 := (slottedB_not s).1 hs'
      rw [ordO, if_neg hs] at hown
      obtain ⟨a1, cap1, rfl⟩ := own_none hown
      rw [wait1_no 0 a hs'] at k0
      rw [wait1_no 1 b hs'] at k1
      rw [wait1_no 2 c hs'] at k2
      rw [wait1_no 3 d hs'] at k3
      clear hs hs' EN e0 e1 e2 e3
      have EQ := fun w => eql36 (-1) (-1) (-1) (-1) (-1) (-1) (-1) (-1) w
      rw [show (([-1, -1, -1, -1] : List Int) == [-1, -1, -1, -1]) = true by rfl] at EQ
      have fin : Below w.heap.size w wc := (((Below.refl _ w).alloc (Nat.le_refl _) _).trans (hb1.mono (by simp))).trans (hbx.mono (by omega))
      by_cases hneg : s < 0
      · have hneg' : decide (s < 0) = true := by rw [decide_eq_true_iff]; exact hneg
        clear g1
        go_wp2
        go_ret
        exact ⟨rfl, fin⟩
      · have hneg' : decide (s < 0) = false := by rw [decide_eq_false_iff_not]; exact hneg
        have hbig : decide (1099511627776 < s) = true := by rw [decide_eq_true_iff]; omega
        clear g1
        go_wp2
        go_ret
        exact ⟨rfl, fin⟩
end Go.Proofs.Ytppndeoiifkkkaa
