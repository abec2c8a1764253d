/- Layer 13 (buffer): Put. -/
import Derived.Test.YtppndeoiifkkkaaBufA
import Derived.Deep.RegionHeld3
namespace Go.Proofs.Ytppndeoiifkkkaa
open Go.RowKit Go.Proofs.YtppndeoiifkkkaaW.PrintWords
set_option linter.unusedVariables false
def upd (r : Nat → Chg) (j : Nat) (c : Chg) : Nat → Chg := fun k => if k = j then c else r k
def putF (c : Chg) (n : Nat) : Int := if chkF c ≠ 0 then chkF c else if n = 4 then 8 else 0
theorem keep_below {W W' : World} {a : Addr} {v : Value} (hb : Below W.heap.size W W') (h : W.cell? a = some v) : W'.cell? a = some v := (hb.cell (World.block_lt_of_cell? _ _ h)).trans h
theorem blk_below {W W' : World} {g : Nat} {o : Obj} (hb : Below W.heap.size W W') (h : W.heap[g]? = some o) : W'.heap[g]? = some o := (hb.block g (Array.getElem?_eq_some_iff.1 h).1).trans h
theorem keep_s3 {W : World} {g o0 o1 o2 : Nat} {a : Addr} {v v0 v1 v2 : Value} (hne : a.block ≠ g ∨ (a.off ≠ o0 ∧ a.off ≠ o1 ∧ a.off ≠ o2)) (h : W.cell? a = some v) :
    (((W.setCell ⟨g, o0, none⟩ v0).setCell ⟨g, o1, none⟩ v1).setCell ⟨g, o2, none⟩ v2).cell? a = some v := by
  have e : ∀ (X : World) (i : Nat) (u : Value), (a.block ≠ g ∨ a.off ≠ i) → (X.setCell ⟨g, i, none⟩ u).cell? a = X.cell? a := fun X i u hx => World.cell?_setCell_other _ _ _ _ (by
    rintro rfl
    rcases hx with hx | hx <;> exact hx rfl)
  rcases hne with hne | ⟨h1, h2, h3⟩
  · rw [e _ _ _ (.inl hne), e _ _ _ (.inl hne), e _ _ _ (.inl hne)]; exact h
  · rw [e _ _ _ (.inr h3), e _ _ _ (.inr h2), e _ _ _ (.inr h1)]; exact h
theorem only_set {a w : World} {g : Nat} (h : a.grownBy w (some g)) (j : Nat) (u : Value) : a.grownBy (w.setCell ⟨g, j, none⟩ u) (some g) :=
  ⟨h.os, h.tape, h.output, by simpa [World.setCell] using h.size, fun i hi hne => (Below.heap_setCell w ⟨g, j, none⟩ u i (fun e => hne (by rw [e]))).trans (h.block i hi hne)⟩
theorem put_grown {w w1 : World} {o : Obj} {g k j0 j1 j2 : Nat} {v0 v1 v2 : Value} (hb : Below (w.alloc o).heap.size (w.alloc o) w1) (hg : g < w.heap.size) :
    w.grownBy ((((w1.drewN k).setCell ⟨g, j0, none⟩ v0).setCell ⟨g, j1, none⟩ v1).setCell ⟨g, j2, none⟩ v2) (some g) := by
  have h0 : Below w.heap.size w w1 := ((Below.refl _ w).alloc (Nat.le_refl _) o).trans (hb.mono (by simp))
  have h1 : w.grownBy (w1.drewN k) (some g) := ⟨h0.os, h0.tape, h0.output, h0.size, fun i hi _ => h0.block i hi⟩
  exact only_set (only_set (only_set h1 _ _) _ _) _ _
set_option maxHeartbeats 1600000 in
set_option maxRecDepth 100000 in
theorem put_ok (g f n : Nat) (r : Nat → Chg) (p kd : Int) (d : ByteArray) (w : World) (h : BufAt w g r f n) (h0 : chk3 p kd d.size = 0) (h4 : n < 4) : Calls Try.prog 35 #[.pointer (some ⟨g, 0, none⟩), .agg #[.int .i64 p, .int .i64 kd, .string d]] w fun e w' => e = .returned (.int .i64 0) ∧ w.grownBy w' (some g) ∧
    BufAt w' g (upd r ((f + n) % 4) ⟨p, kd, d⟩) f (n + 1) := by
  obtain ⟨hh, hf4, hn4⟩ := h
  have hg : g < w.heap.size := blk_lt hh
  have h0' : (chk3 p kd d.size != 0) = false := by rw [h0]; rfl
  have hd4 : decide (n = 4) = false := decide_eq_false (by omega)
  have H0 := Lib.hid h0
  clear h0
  go_enter Try.func35, Try.ntmps35
  go_wp2_with fail
  refine (check_c p kd d _).mono ?_
  rintro e w1 ⟨rfl, hb1⟩
  go_wp2_with fail
  have hh1 := blk_below hb1 ((Below.heap_alloc _ _ _ hg).trans hh)
  have B1 : BufAt w1 g r f n := ⟨hh1, hf4, hn4⟩
  refine (full_c g f n r _ B1).mono ?_
  rintro e w2 ⟨rfl, rfl⟩
  rw [hd4]
  go_wp2_with fail
  have cn := B1.cn
  have cf := B1.cf
  have d0 : w1.cell? ⟨w.heap.size, 0, none⟩ = some (.int .i64 p) := keep_below hb1 (by rw [World.cell?_alloc_at _ _ _ _ rfl]; rfl)
  have d1 : w1.cell? ⟨w.heap.size, 1, none⟩ = some (.int .i64 kd) := keep_below hb1 (by rw [World.cell?_alloc_at _ _ _ _ rfl]; rfl)
  have d2 : w1.cell? ⟨w.heap.size, 2, none⟩ = some (.string d) := keep_below hb1 (by rw [World.cell?_alloc_at _ _ _ _ rfl]; rfl)
  have hne : w.heap.size ≠ g := by omega
  have hn0 : (0 : Int) ≤ (n : Int) := by omega
  have hn4' : (n : Int) ≤ 4 := by omega
  have hj : (f + n) % 4 = 0 ∨ (f + n) % 4 = 1 ∨ (f + n) % 4 = 2 ∨ (f + n) % 4 = 3 := by omega
  rcases hj with hj | hj | hj | hj
  · have q0 : w1.cell? ⟨g, 0, none⟩ = some (.int .i64 (r 0).place) := by rw [cell_of_row _ _ _ _ _ _ hh1]; rfl
    have q1 : w1.cell? ⟨g, 1, none⟩ = some (.int .i64 (r 0).kind) := by rw [cell_of_row _ _ _ _ _ _ hh1]; rfl
    have q2 : w1.cell? ⟨g, 2, none⟩ = some (.string (r 0).data) := by rw [cell_of_row _ _ _ _ _ _ hh1]; rfl
    have f0 : w1.frozen? ⟨g, 0, none⟩ = false := frozen_of_row _ _ _ _ _ hh1
    have f1 : w1.frozen? ⟨g, 1, none⟩ = false := frozen_of_row _ _ _ _ _ hh1
    have f2 : w1.frozen? ⟨g, 2, none⟩ = false := frozen_of_row _ _ _ _ _ hh1
    have fa12 : (⟨g, 12, none⟩ : Addr).block ≠ g ∨ ((⟨g, 12, none⟩ : Addr).off ≠ 0 ∧ (⟨g, 12, none⟩ : Addr).off ≠ 1 ∧ (⟨g, 12, none⟩ : Addr).off ≠ 2) := Or.inr ⟨by simp, by simp, by simp⟩
    have fa13 : (⟨g, 13, none⟩ : Addr).block ≠ g ∨ ((⟨g, 13, none⟩ : Addr).off ≠ 0 ∧ (⟨g, 13, none⟩ : Addr).off ≠ 1 ∧ (⟨g, 13, none⟩ : Addr).off ≠ 2) := Or.inr ⟨by simp, by simp, by simp⟩
    go_region_held3 (fun W' => W'.cell? ⟨g, 12, none⟩ = some (.int .i64 f) ∧ W'.cell? ⟨g, 13, none⟩ = some (.int .i64 n) ∧ W'.cell? ⟨w.heap.size, 0, none⟩ = some (.int .i64 p) ∧ W'.cell? ⟨w.heap.size, 1, none⟩ = some (.int .i64 kd) ∧ W'.cell? ⟨w.heap.size, 2, none⟩ = some (.string d))
      (first | (go_keep; done) | ((try dsimp only); (try go_split_ands); (repeat' apply And.intro); all_goals (first | (with_reducible apply keep_s3 (a := ⟨g, 12, none⟩) fa12; with_reducible assumption) | (with_reducible apply keep_s3 (a := ⟨g, 13, none⟩) fa13; with_reducible assumption) | (with_reducible apply keep_s3 (a := ⟨w.heap.size, _, none⟩) (Or.inl hne); with_reducible assumption))))
      (first
        | (go_at_call 97; refine (at_c g f n _ (by assumption) hf4 hn0 hn4').mono ?_; rintro e y ⟨rfl, m, rfl⟩))
    have HB : ((((w1.drewN (1 + m)).setCell ⟨g, 0, none⟩ (.int .i64 p)).setCell ⟨g, 1, none⟩ (.int .i64 kd)).setCell ⟨g, 2, none⟩ (.string d)).heap[g]? = some (.cells (bufC (upd r 0 ⟨p, kd, d⟩) f n) 155 (0, 0)) := by
      have a1 := heap_setCell_same (w1.drewN (1 + m)) g 0 _ _ (.int .i64 p) hh1
      have a2 := heap_setCell_same _ g 1 _ _ (.int .i64 kd) a1
      exact heap_setCell_same _ g 2 _ _ (.string d) a2
    have HG : Below w1.heap.size w1 w1 → w.grownBy ((((w1.drewN (1 + m)).setCell ⟨g, 0, none⟩ (.int .i64 p)).setCell ⟨g, 1, none⟩ (.int .i64 kd)).setCell ⟨g, 2, none⟩ (.string d)) (some g) := fun _ => put_grown hb1 hg
    have HG := HG (Below.refl _ _)
    generalize ((((w1.drewN (1 + m)).setCell ⟨g, 0, none⟩ (.int .i64 p)).setCell ⟨g, 1, none⟩ (.int .i64 kd)).setCell ⟨g, 2, none⟩ (.string d)) = W2 at HB HG ⊢
    have HC : W2.cell? ⟨g, 13, none⟩ = some (.int .i64 n) := by rw [cell_of_row _ _ _ _ _ _ HB]; rfl
    have HF : W2.frozen? ⟨g, 13, none⟩ = false := frozen_of_row _ _ _ _ _ HB
    have HH := Lib.hid HB
    have HJ := Lib.hid hj
    clear HB hj
    go_wp2
    go_ret
    refine ⟨rfl, only_set HG _ _, ?_, hf4, by omega⟩
    rw [HJ.out, heap_setCell_same _ g 13 _ _ _ HH.out]
    rfl
  · have q0 : w1.cell? ⟨g, 3, none⟩ = some (.int .i64 (r 1).place) := by rw [cell_of_row _ _ _ _ _ _ hh1]; rfl
    have q1 : w1.cell? ⟨g, 4, none⟩ = some (.int .i64 (r 1).kind) := by rw [cell_of_row _ _ _ _ _ _ hh1]; rfl
    have q2 : w1.cell? ⟨g, 5, none⟩ = some (.string (r 1).data) := by rw [cell_of_row _ _ _ _ _ _ hh1]; rfl
    have f0 : w1.frozen? ⟨g, 3, none⟩ = false := frozen_of_row _ _ _ _ _ hh1
    have f1 : w1.frozen? ⟨g, 4, none⟩ = false := frozen_of_row _ _ _ _ _ hh1
    have f2 : w1.frozen? ⟨g, 5, none⟩ = false := frozen_of_row _ _ _ _ _ hh1
    have fa12 : (⟨g, 12, none⟩ : Addr).block ≠ g ∨ ((⟨g, 12, none⟩ : Addr).off ≠ 3 ∧ (⟨g, 12, none⟩ : Addr).off ≠ 4 ∧ (⟨g, 12, none⟩ : Addr).off ≠ 5) := Or.inr ⟨by simp, by simp, by simp⟩
    have fa13 : (⟨g, 13, none⟩ : Addr).block ≠ g ∨ ((⟨g, 13, none⟩ : Addr).off ≠ 3 ∧ (⟨g, 13, none⟩ : Addr).off ≠ 4 ∧ (⟨g, 13, none⟩ : Addr).off ≠ 5) := Or.inr ⟨by simp, by simp, by simp⟩
    go_region_held3 (fun W' => W'.cell? ⟨g, 12, none⟩ = some (.int .i64 f) ∧ W'.cell? ⟨g, 13, none⟩ = some (.int .i64 n) ∧ W'.cell? ⟨w.heap.size, 0, none⟩ = some (.int .i64 p) ∧ W'.cell? ⟨w.heap.size, 1, none⟩ = some (.int .i64 kd) ∧ W'.cell? ⟨w.heap.size, 2, none⟩ = some (.string d))
      (first | (go_keep; done) | ((try dsimp only); (try go_split_ands); (repeat' apply And.intro); all_goals (first | (with_reducible apply keep_s3 (a := ⟨g, 12, none⟩) fa12; with_reducible assumption) | (with_reducible apply keep_s3 (a := ⟨g, 13, none⟩) fa13; with_reducible assumption) | (with_reducible apply keep_s3 (a := ⟨w.heap.size, _, none⟩) (Or.inl hne); with_reducible assumption))))
      (first
        | (go_at_call 97; refine (at_c g f n _ (by assumption) hf4 hn0 hn4').mono ?_; rintro e y ⟨rfl, m, rfl⟩))
    have HB : ((((w1.drewN (1 + m)).setCell ⟨g, 3, none⟩ (.int .i64 p)).setCell ⟨g, 4, none⟩ (.int .i64 kd)).setCell ⟨g, 5, none⟩ (.string d)).heap[g]? = some (.cells (bufC (upd r 1 ⟨p, kd, d⟩) f n) 155 (0, 0)) := by
      have a1 := heap_setCell_same (w1.drewN (1 + m)) g 3 _ _ (.int .i64 p) hh1
      have a2 := heap_setCell_same _ g 4 _ _ (.int .i64 kd) a1
      exact heap_setCell_same _ g 5 _ _ (.string d) a2
    have HG : Below w1.heap.size w1 w1 → w.grownBy ((((w1.drewN (1 + m)).setCell ⟨g, 3, none⟩ (.int .i64 p)).setCell ⟨g, 4, none⟩ (.int .i64 kd)).setCell ⟨g, 5, none⟩ (.string d)) (some g) := fun _ => put_grown hb1 hg
    have HG := HG (Below.refl _ _)
    generalize ((((w1.drewN (1 + m)).setCell ⟨g, 3, none⟩ (.int .i64 p)).setCell ⟨g, 4, none⟩ (.int .i64 kd)).setCell ⟨g, 5, none⟩ (.string d)) = W2 at HB HG ⊢
    have HC : W2.cell? ⟨g, 13, none⟩ = some (.int .i64 n) := by rw [cell_of_row _ _ _ _ _ _ HB]; rfl
    have HF : W2.frozen? ⟨g, 13, none⟩ = false := frozen_of_row _ _ _ _ _ HB
    have HH := Lib.hid HB
    have HJ := Lib.hid hj
    clear HB hj
    go_wp2
    go_ret
    refine ⟨rfl, only_set HG _ _, ?_, hf4, by omega⟩
    rw [HJ.out, heap_setCell_same _ g 13 _ _ _ HH.out]
    rfl
  · have q0 : w1.cell? ⟨g, 6, none⟩ = some (.int .i64 (r 2).place) := by rw [cell_of_row _ _ _ _ _ _ hh1]; rfl
    have q1 : w1.cell? ⟨g, 7, none⟩ = some (.int .i64 (r 2).kind) := by rw [cell_of_row _ _ _ _ _ _ hh1]; rfl
    have q2 : w1.cell? ⟨g, 8, none⟩ = some (.string (r 2).data) := by rw [cell_of_row _ _ _ _ _ _ hh1]; rfl
    have f0 : w1.frozen? ⟨g, 6, none⟩ = false := frozen_of_row _ _ _ _ _ hh1
    have f1 : w1.frozen? ⟨g, 7, none⟩ = false := frozen_of_row _ _ _ _ _ hh1
    have f2 : w1.frozen? ⟨g, 8, none⟩ = false := frozen_of_row _ _ _ _ _ hh1
    have fa12 : (⟨g, 12, none⟩ : Addr).block ≠ g ∨ ((⟨g, 12, none⟩ : Addr).off ≠ 6 ∧ (⟨g, 12, none⟩ : Addr).off ≠ 7 ∧ (⟨g, 12, none⟩ : Addr).off ≠ 8) := Or.inr ⟨by simp, by simp, by simp⟩
    have fa13 : (⟨g, 13, none⟩ : Addr).block ≠ g ∨ ((⟨g, 13, none⟩ : Addr).off ≠ 6 ∧ (⟨g, 13, none⟩ : Addr).off ≠ 7 ∧ (⟨g, 13, none⟩ : Addr).off ≠ 8) := Or.inr ⟨by simp, by simp, by simp⟩
    go_region_held3 (fun W' => W'.cell? ⟨g, 12, none⟩ = some (.int .i64 f) ∧ W'.cell? ⟨g, 13, none⟩ = some (.int .i64 n) ∧ W'.cell? ⟨w.heap.size, 0, none⟩ = some (.int .i64 p) ∧ W'.cell? ⟨w.heap.size, 1, none⟩ = some (.int .i64 kd) ∧ W'.cell? ⟨w.heap.size, 2, none⟩ = some (.string d))
      (first | (go_keep; done) | ((try dsimp only); (try go_split_ands); (repeat' apply And.intro); all_goals (first | (with_reducible apply keep_s3 (a := ⟨g, 12, none⟩) fa12; with_reducible assumption) | (with_reducible apply keep_s3 (a := ⟨g, 13, none⟩) fa13; with_reducible assumption) | (with_reducible apply keep_s3 (a := ⟨w.heap.size, _, none⟩) (Or.inl hne); with_reducible assumption))))
      (first
        | (go_at_call 97; refine (at_c g f n _ (by assumption) hf4 hn0 hn4').mono ?_; rintro e y ⟨rfl, m, rfl⟩))
    have HB : ((((w1.drewN (1 + m)).setCell ⟨g, 6, none⟩ (.int .i64 p)).setCell ⟨g, 7, none⟩ (.int .i64 kd)).setCell ⟨g, 8, none⟩ (.string d)).heap[g]? = some (.cells (bufC (upd r 2 ⟨p, kd, d⟩) f n) 155 (0, 0)) := by
      have a1 := heap_setCell_same (w1.drewN (1 + m)) g 6 _ _ (.int .i64 p) hh1
      have a2 := heap_setCell_same _ g 7 _ _ (.int .i64 kd) a1
      exact heap_setCell_same _ g 8 _ _ (.string d) a2
    have HG : Below w1.heap.size w1 w1 → w.grownBy ((((w1.drewN (1 + m)).setCell ⟨g, 6, none⟩ (.int .i64 p)).setCell ⟨g, 7, none⟩ (.int .i64 kd)).setCell ⟨g, 8, none⟩ (.string d)) (some g) := fun _ => put_grown hb1 hg
    have HG := HG (Below.refl _ _)
    generalize ((((w1.drewN (1 + m)).setCell ⟨g, 6, none⟩ (.int .i64 p)).setCell ⟨g, 7, none⟩ (.int .i64 kd)).setCell ⟨g, 8, none⟩ (.string d)) = W2 at HB HG ⊢
    have HC : W2.cell? ⟨g, 13, none⟩ = some (.int .i64 n) := by rw [cell_of_row _ _ _ _ _ _ HB]; rfl
    have HF : W2.frozen? ⟨g, 13, none⟩ = false := frozen_of_row _ _ _ _ _ HB
    have HH := Lib.hid HB
    have HJ := Lib.hid hj
    clear HB hj
    go_wp2
    go_ret
    refine ⟨rfl, only_set HG _ _, ?_, hf4, by omega⟩
    rw [HJ.out, heap_setCell_same _ g 13 _ _ _ HH.out]
    rfl
  · have q0 : w1.cell? ⟨g, 9, none⟩ = some (.int .i64 (r 3).place) := by rw [cell_of_row _ _ _ _ _ _ hh1]; rfl
    have q1 : w1.cell? ⟨g, 10, none⟩ = some (.int .i64 (r 3).kind) := by rw [cell_of_row _ _ _ _ _ _ hh1]; rfl
    have q2 : w1.cell? ⟨g, 11, none⟩ = some (.string (r 3).data) := by rw [cell_of_row _ _ _ _ _ _ hh1]; rfl
    have f0 : w1.frozen? ⟨g, 9, none⟩ = false := frozen_of_row _ _ _ _ _ hh1
    have f1 : w1.frozen? ⟨g, 10, none⟩ = false := frozen_of_row _ _ _ _ _ hh1
    have f2 : w1.frozen? ⟨g, 11, none⟩ = false := frozen_of_row _ _ _ _ _ hh1
    have fa12 : (⟨g, 12, none⟩ : Addr).block ≠ g ∨ ((⟨g, 12, none⟩ : Addr).off ≠ 9 ∧ (⟨g, 12, none⟩ : Addr).off ≠ 10 ∧ (⟨g, 12, none⟩ : Addr).off ≠ 11) := Or.inr ⟨by simp, by simp, by simp⟩
    have fa13 : (⟨g, 13, none⟩ : Addr).block ≠ g ∨ ((⟨g, 13, none⟩ : Addr).off ≠ 9 ∧ (⟨g, 13, none⟩ : Addr).off ≠ 10 ∧ (⟨g, 13, none⟩ : Addr).off ≠ 11) := Or.inr ⟨by simp, by simp, by simp⟩
    go_region_held3 (fun W' => W'.cell? ⟨g, 12, none⟩ = some (.int .i64 f) ∧ W'.cell? ⟨g, 13, none⟩ = some (.int .i64 n) ∧ W'.cell? ⟨w.heap.size, 0, none⟩ = some (.int .i64 p) ∧ W'.cell? ⟨w.heap.size, 1, none⟩ = some (.int .i64 kd) ∧ W'.cell? ⟨w.heap.size, 2, none⟩ = some (.string d))
      (first | (go_keep; done) | ((try dsimp only); (try go_split_ands); (repeat' apply And.intro); all_goals (first | (with_reducible apply keep_s3 (a := ⟨g, 12, none⟩) fa12; with_reducible assumption) | (with_reducible apply keep_s3 (a := ⟨g, 13, none⟩) fa13; with_reducible assumption) | (with_reducible apply keep_s3 (a := ⟨w.heap.size, _, none⟩) (Or.inl hne); with_reducible assumption))))
      (first
        | (go_at_call 97; refine (at_c g f n _ (by assumption) hf4 hn0 hn4').mono ?_; rintro e y ⟨rfl, m, rfl⟩))
    have HB : ((((w1.drewN (1 + m)).setCell ⟨g, 9, none⟩ (.int .i64 p)).setCell ⟨g, 10, none⟩ (.int .i64 kd)).setCell ⟨g, 11, none⟩ (.string d)).heap[g]? = some (.cells (bufC (upd r 3 ⟨p, kd, d⟩) f n) 155 (0, 0)) := by
      have a1 := heap_setCell_same (w1.drewN (1 + m)) g 9 _ _ (.int .i64 p) hh1
      have a2 := heap_setCell_same _ g 10 _ _ (.int .i64 kd) a1
      exact heap_setCell_same _ g 11 _ _ (.string d) a2
    have HG : Below w1.heap.size w1 w1 → w.grownBy ((((w1.drewN (1 + m)).setCell ⟨g, 9, none⟩ (.int .i64 p)).setCell ⟨g, 10, none⟩ (.int .i64 kd)).setCell ⟨g, 11, none⟩ (.string d)) (some g) := fun _ => put_grown hb1 hg
    have HG := HG (Below.refl _ _)
    generalize ((((w1.drewN (1 + m)).setCell ⟨g, 9, none⟩ (.int .i64 p)).setCell ⟨g, 10, none⟩ (.int .i64 kd)).setCell ⟨g, 11, none⟩ (.string d)) = W2 at HB HG ⊢
    have HC : W2.cell? ⟨g, 13, none⟩ = some (.int .i64 n) := by rw [cell_of_row _ _ _ _ _ _ HB]; rfl
    have HF : W2.frozen? ⟨g, 13, none⟩ = false := frozen_of_row _ _ _ _ _ HB
    have HH := Lib.hid HB
    have HJ := Lib.hid hj
    clear HB hj
    go_wp2
    go_ret
    refine ⟨rfl, only_set HG _ _, ?_, hf4, by omega⟩
    rw [HJ.out, heap_setCell_same _ g 13 _ _ _ HH.out]
    rfl
end Go.Proofs.Ytppndeoiifkkkaa
