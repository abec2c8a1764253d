/- Layer 13 (buffer): the other calls. -/
import Derived.Test.YtppndeoiifkkkaaBufB
namespace Go.Proofs.Ytppndeoiifkkkaa
open Go.RowKit Go.Proofs.YtppndeoiifkkkaaW.PrintWords
set_option linter.unusedVariables false
theorem BufAt.below {w w' : World} {g f n : Nat} {r : Nat → Chg} (h : BufAt w g r f n) (hb : Below w.heap.size w w') : BufAt w' g r f n := ⟨blk_below hb h.1, h.2⟩
theorem BufAt.of_block {w w' : World} {g f n : Nat} {r : Nat → Chg} (h : BufAt w g r f n) (hb : w'.heap[g]? = w.heap[g]?) : BufAt w' g r f n := ⟨hb.trans h.1, h.2⟩
theorem putNil_c (p kd : Int) (d : ByteArray) (w : World) : Calls Try.prog 35 #[.pointer none, .agg #[.int .i64 p, .int .i64 kd, .string d]] w fun e w' => e = .returned (.int .i64 1) ∧ Below w.heap.size w w' := by
  go_enter Try.func35, Try.ntmps35
  go_wp2
  go_ret
  exact ⟨rfl, (Below.refl _ _).alloc (Nat.le_refl _) _⟩
theorem put_bad (g f n : Nat) (r : Nat → Chg) (p kd : Int) (d : ByteArray) (w : World) (h : BufAt w g r f n) (h0 : ¬ chk3 p kd d.size = 0) : Calls Try.prog 35 #[.pointer (some ⟨g, 0, none⟩), .agg #[.int .i64 p, .int .i64 kd, .string d]] w fun e w' => e = .returned (.int .i64 (chk3 p kd d.size)) ∧ Below w.heap.size w w' := by
  have h0' : (chk3 p kd d.size != 0) = true := by rw [bne_iff_ne]; exact h0
  clear h0
  go_enter Try.func35, Try.ntmps35
  go_wp2_with fail
  refine (check_c p kd d _).mono ?_
  rintro e w1 ⟨rfl, hb1⟩
  go_wp2
  go_ret
  exact ⟨rfl, ((Below.refl _ _).alloc (Nat.le_refl _) _).trans (hb1.mono (by simp))⟩
theorem put_full (g f : Nat) (r : Nat → Chg) (p kd : Int) (d : ByteArray) (w : World) (h : BufAt w g r f 4) (h0 : chk3 p kd d.size = 0) : Calls Try.prog 35 #[.pointer (some ⟨g, 0, none⟩), .agg #[.int .i64 p, .int .i64 kd, .string d]] w fun e w' => e = .returned (.int .i64 8) ∧ Below w.heap.size w w' := by
  have h0' : (chk3 p kd d.size != 0) = false := by rw [h0]; rfl
  clear h0
  go_enter Try.func35, Try.ntmps35
  go_wp2_with fail
  refine (check_c p kd d _).mono ?_
  rintro e w1 ⟨rfl, hb1⟩
  go_wp2_with fail
  have B1 : BufAt w1 g r f 4 := ⟨blk_below hb1 ((Below.heap_alloc _ _ _ (blk_lt h.1)).trans h.1), h.2⟩
  refine (full_c g f 4 r _ B1).mono ?_
  rintro e w2 ⟨rfl, rfl⟩
  go_wp2
  go_ret
  exact ⟨rfl, ((Below.refl _ _).alloc (Nat.le_refl _) _).trans (hb1.mono (by simp))⟩
/-! ### Drop -/
theorem dropNil_c (w : World) : Calls Try.prog 36 #[.pointer none] w fun e w' => e = .returned (.bool false) ∧ w = w' := by
  go_enter Try.func36, Try.ntmps36
  go_wp2_with (go_at_call 39; refine (lenNil_c _).mono ?_; rintro e w' ⟨rfl, rfl⟩)
  go_ret
  exact ⟨rfl, rfl⟩
theorem drop_no (g f : Nat) (r : Nat → Chg) (w : World) (h : BufAt w g r f 0) : Calls Try.prog 36 #[.pointer (some ⟨g, 0, none⟩)] w fun e w' => e = .returned (.bool false) ∧ w = w' := by
  go_enter Try.func36, Try.ntmps36
  go_wp2_with (go_at_call 39; refine (len_c g f 0 r _ h).mono ?_; rintro e w' ⟨rfl, rfl⟩)
  go_ret
  exact ⟨rfl, rfl⟩
set_option maxHeartbeats 1600000 in
set_option maxRecDepth 100000 in
theorem drop_ok (g f n : Nat) (r : Nat → Chg) (w : World) (h : BufAt w g r f n) (hn : 0 < n) : Calls Try.prog 36 #[.pointer (some ⟨g, 0, none⟩)] w fun e w' => e = .returned (.bool true) ∧ w.grownBy w' (some g) ∧ BufAt w' g (upd r f Chg.zero) ((f + 1) % 4) (n - 1) := by
  have hn0 : ((n : Int) == 0) = false := by rw [beq_eq_false_iff_ne]; omega
  obtain ⟨hh, hf4, hn4⟩ := h
  have hg : g < w.heap.size := blk_lt hh
  have cf : w.cell? ⟨g, 12, none⟩ = some (.int .i64 f) := by rw [cell_of_row _ _ _ _ _ _ hh]; rfl
  have B : BufAt w g r f n := ⟨hh, hf4, hn4⟩
  have hj : f = 0 ∨ f = 1 ∨ f = 2 ∨ f = 3 := by omega
  rcases hj with rfl | rfl | rfl | rfl
  · go_enter Try.func36, Try.ntmps36
    go_wp2_with fail
    refine (len_c g 0 n r _ B).mono ?_
    rintro e w' ⟨rfl, rfl⟩
    go_wp2_with fail
    refine (at_c g 0 0 _ cf (by omega) (by omega) (by omega)).mono ?_
    rintro e y ⟨rfl, m, rfl⟩
    have q0 : w.cell? ⟨g, 0, none⟩ = some (.int .i64 (r 0).place) := by rw [cell_of_row _ _ _ _ _ _ hh]; rfl
    have q1 : w.cell? ⟨g, 1, none⟩ = some (.int .i64 (r 0).kind) := by rw [cell_of_row _ _ _ _ _ _ hh]; rfl
    have q2 : w.cell? ⟨g, 2, none⟩ = some (.string (r 0).data) := by rw [cell_of_row _ _ _ _ _ _ hh]; rfl
    have q12 : w.cell? ⟨g, 12, none⟩ = some (.int .i64 0) := cf
    have q13 : w.cell? ⟨g, 13, none⟩ = some (.int .i64 n) := by rw [cell_of_row _ _ _ _ _ _ hh]; rfl
    have fz : ∀ i, w.frozen? ⟨g, i, none⟩ = false := fun i => frozen_of_row _ _ _ _ _ hh
    have f0 := fz 0
    have f1 := fz 1
    have f2 := fz 2
    have f12 := fz 12
    have f13 := fz 13
    clear fz
    have n1 : (1 : Int) ≤ n := by omega
    have n4 : (n : Int) ≤ 4 := by omega
    go_wp2
    go_ret
    have gd : w.grownBy (w.drewN m) (some g) := ⟨rfl, rfl, rfl, Nat.le_refl _, fun _ _ _ => rfl⟩
    refine ⟨rfl, only_set (only_set (only_set (only_set (only_set gd _ _) _ _) _ _) _ _) _ _, ?_, by omega, by omega⟩
    have a1 := heap_setCell_same (w.drewN m) g 0 _ _ (.int .i64 0) hh
    have a2 := heap_setCell_same _ g 1 _ _ (.int .i64 0) a1
    have a3 := heap_setCell_same _ g 2 _ _ (.string ByteArray.empty) a2
    have a4 := heap_setCell_same _ g 12 _ _ (.int .i64 1) a3
    have a5 := heap_setCell_same _ g 13 _ _ (.int .i64 ((n : Int) - 1)) a4
    have en : ((n : Int) - 1) = ((n - 1 : Nat) : Int) := by omega
    rw [en] at a5
    rw [en]
    exact a5
  · go_enter Try.func36, Try.ntmps36
    go_wp2_with fail
    refine (len_c g 1 n r _ B).mono ?_
    rintro e w' ⟨rfl, rfl⟩
    go_wp2_with fail
    refine (at_c g 1 0 _ cf (by omega) (by omega) (by omega)).mono ?_
    rintro e y ⟨rfl, m, rfl⟩
    have q0 : w.cell? ⟨g, 3, none⟩ = some (.int .i64 (r 1).place) := by rw [cell_of_row _ _ _ _ _ _ hh]; rfl
    have q1 : w.cell? ⟨g, 4, none⟩ = some (.int .i64 (r 1).kind) := by rw [cell_of_row _ _ _ _ _ _ hh]; rfl
    have q2 : w.cell? ⟨g, 5, none⟩ = some (.string (r 1).data) := by rw [cell_of_row _ _ _ _ _ _ hh]; rfl
    have q12 : w.cell? ⟨g, 12, none⟩ = some (.int .i64 1) := cf
    have q13 : w.cell? ⟨g, 13, none⟩ = some (.int .i64 n) := by rw [cell_of_row _ _ _ _ _ _ hh]; rfl
    have fz : ∀ i, w.frozen? ⟨g, i, none⟩ = false := fun i => frozen_of_row _ _ _ _ _ hh
    have f0 := fz 3
    have f1 := fz 4
    have f2 := fz 5
    have f12 := fz 12
    have f13 := fz 13
    clear fz
    have n1 : (1 : Int) ≤ n := by omega
    have n4 : (n : Int) ≤ 4 := by omega
    go_wp2
    go_ret
    have gd : w.grownBy (w.drewN m) (some g) := ⟨rfl, rfl, rfl, Nat.le_refl _, fun _ _ _ => rfl⟩
    refine ⟨rfl, only_set (only_set (only_set (only_set (only_set gd _ _) _ _) _ _) _ _) _ _, ?_, by omega, by omega⟩
    have a1 := heap_setCell_same (w.drewN m) g 3 _ _ (.int .i64 0) hh
    have a2 := heap_setCell_same _ g 4 _ _ (.int .i64 0) a1
    have a3 := heap_setCell_same _ g 5 _ _ (.string ByteArray.empty) a2
    have a4 := heap_setCell_same _ g 12 _ _ (.int .i64 2) a3
    have a5 := heap_setCell_same _ g 13 _ _ (.int .i64 ((n : Int) - 1)) a4
    have en : ((n : Int) - 1) = ((n - 1 : Nat) : Int) := by omega
    rw [en] at a5
    rw [en]
    exact a5
  · go_enter Try.func36, Try.ntmps36
    go_wp2_with fail
    refine (len_c g 2 n r _ B).mono ?_
    rintro e w' ⟨rfl, rfl⟩
    go_wp2_with fail
    refine (at_c g 2 0 _ cf (by omega) (by omega) (by omega)).mono ?_
    rintro e y ⟨rfl, m, rfl⟩
    have q0 : w.cell? ⟨g, 6, none⟩ = some (.int .i64 (r 2).place) := by rw [cell_of_row _ _ _ _ _ _ hh]; rfl
    have q1 : w.cell? ⟨g, 7, none⟩ = some (.int .i64 (r 2).kind) := by rw [cell_of_row _ _ _ _ _ _ hh]; rfl
    have q2 : w.cell? ⟨g, 8, none⟩ = some (.string (r 2).data) := by rw [cell_of_row _ _ _ _ _ _ hh]; rfl
    have q12 : w.cell? ⟨g, 12, none⟩ = some (.int .i64 2) := cf
    have q13 : w.cell? ⟨g, 13, none⟩ = some (.int .i64 n) := by rw [cell_of_row _ _ _ _ _ _ hh]; rfl
    have fz : ∀ i, w.frozen? ⟨g, i, none⟩ = false := fun i => frozen_of_row _ _ _ _ _ hh
    have f0 := fz 6
    have f1 := fz 7
    have f2 := fz 8
    have f12 := fz 12
    have f13 := fz 13
    clear fz
    have n1 : (1 : Int) ≤ n := by omega
    have n4 : (n : Int) ≤ 4 := by omega
    go_wp2
    go_ret
    have gd : w.grownBy (w.drewN m) (some g) := ⟨rfl, rfl, rfl, Nat.le_refl _, fun _ _ _ => rfl⟩
    refine ⟨rfl, only_set (only_set (only_set (only_set (only_set gd _ _) _ _) _ _) _ _) _ _, ?_, by omega, by omega⟩
    have a1 := heap_setCell_same (w.drewN m) g 6 _ _ (.int .i64 0) hh
    have a2 := heap_setCell_same _ g 7 _ _ (.int .i64 0) a1
    have a3 := heap_setCell_same _ g 8 _ _ (.string ByteArray.empty) a2
    have a4 := heap_setCell_same _ g 12 _ _ (.int .i64 3) a3
    have a5 := heap_setCell_same _ g 13 _ _ (.int .i64 ((n : Int) - 1)) a4
    have en : ((n : Int) - 1) = ((n - 1 : Nat) : Int) := by omega
    rw [en] at a5
    rw [en]
    exact a5
  · go_enter Try.func36, Try.ntmps36
    go_wp2_with fail
    refine (len_c g 3 n r _ B).mono ?_
    rintro e w' ⟨rfl, rfl⟩
    go_wp2_with fail
    refine (at_c g 3 0 _ cf (by omega) (by omega) (by omega)).mono ?_
    rintro e y ⟨rfl, m, rfl⟩
    have q0 : w.cell? ⟨g, 9, none⟩ = some (.int .i64 (r 3).place) := by rw [cell_of_row _ _ _ _ _ _ hh]; rfl
    have q1 : w.cell? ⟨g, 10, none⟩ = some (.int .i64 (r 3).kind) := by rw [cell_of_row _ _ _ _ _ _ hh]; rfl
    have q2 : w.cell? ⟨g, 11, none⟩ = some (.string (r 3).data) := by rw [cell_of_row _ _ _ _ _ _ hh]; rfl
    have q12 : w.cell? ⟨g, 12, none⟩ = some (.int .i64 3) := cf
    have q13 : w.cell? ⟨g, 13, none⟩ = some (.int .i64 n) := by rw [cell_of_row _ _ _ _ _ _ hh]; rfl
    have fz : ∀ i, w.frozen? ⟨g, i, none⟩ = false := fun i => frozen_of_row _ _ _ _ _ hh
    have f0 := fz 9
    have f1 := fz 10
    have f2 := fz 11
    have f12 := fz 12
    have f13 := fz 13
    clear fz
    have n1 : (1 : Int) ≤ n := by omega
    have n4 : (n : Int) ≤ 4 := by omega
    go_wp2
    go_ret
    have gd : w.grownBy (w.drewN m) (some g) := ⟨rfl, rfl, rfl, Nat.le_refl _, fun _ _ _ => rfl⟩
    refine ⟨rfl, only_set (only_set (only_set (only_set (only_set gd _ _) _ _) _ _) _ _) _ _, ?_, by omega, by omega⟩
    have a1 := heap_setCell_same (w.drewN m) g 9 _ _ (.int .i64 0) hh
    have a2 := heap_setCell_same _ g 10 _ _ (.int .i64 0) a1
    have a3 := heap_setCell_same _ g 11 _ _ (.string ByteArray.empty) a2
    have a4 := heap_setCell_same _ g 12 _ _ (.int .i64 0) a3
    have a5 := heap_setCell_same _ g 13 _ _ (.int .i64 ((n : Int) - 1)) a4
    have en : ((n : Int) - 1) = ((n - 1 : Nat) : Int) := by omega
    rw [en] at a5
    rw [en]
    exact a5
end Go.Proofs.Ytppndeoiifkkkaa
