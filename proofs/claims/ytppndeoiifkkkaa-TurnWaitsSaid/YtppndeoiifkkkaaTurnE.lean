/- Layer 42 (turn): the document's order, walked. -/
import Derived.Test.YtppndeoiifkkkaaTurnD
namespace Go.Proofs.Ytppndeoiifkkkaa
open Go.RowKit
set_option linter.unusedVariables false

def Z4 : Obj := .cells #[.int .i64 0, .int .i64 0, .int .i64 0, .int .i64 0] 36
/-- The loop's relation, at slot i. -/
structure OrdRel (w : World) (s a b c d : Int) (i : Nat) (v : Value) (wr : World) : Prop where
  own : wr.ownsRow (w.heap.size + 3) 3 1 v (preO s a b c d i).length ((preO s a b c d i).map (Value.int .i64))
  below : Below w.heap.size w wr
  size : w.heap.size + 3 ≤ wr.heap.size
  q : wr.heap[w.heap.size]? = some (.cells #[.int .i64 (qv s a 0 i), .int .i64 (qv s b 1 i), .int .i64 (qv s c 2 i), .int .i64 (qv s d 3 i)] 36 (0, 0))
  z : wr.heap[w.heap.size + 1]? = some (.cells #[.int .i64 0, .int .i64 0, .int .i64 0, .int .i64 0] 36 (0, 0))
  x : wr.heap[w.heap.size + 2]? = some (.cells #[.int .i64 (xv s a 0 i), .int .i64 (xv s b 1 i), .int .i64 (xv s c 2 i), .int .i64 (xv s d 3 i)] 36 (0, 0))
def leftO (s a b c d : Int) (i : Nat) : Int := qv s a 0 i + qv s b 1 i + qv s c 2 i + qv s d 3 i
theorem ordHit0 {w : World} {s a b c d : Int} {i : Nat} {v v' : Value} {wr w1 : World} {o : Obj} (R : OrdRel w s a b c d i v wr) (h : 0 ≤ s) (e : (s + i) % 4 = 0) (hq : 0 < qv s a 0 i)
    (hown : w1.ownsRow (w.heap.size + 3) 3 1 v' ((preO s a b c d i).length + 1) ((preO s a b c d i).map (Value.int .i64) ++ [.int .i64 0]))
    (hg : ((wr.setCell ⟨w.heap.size, 0, none⟩ (.int .i64 (qv s a 0 i - 1))).alloc o).grownBy w1 v.ownBlock) :
    OrdRel w s a b c d (i + 1) v' (w1.setCell ⟨w.heap.size + 2, 0, none⟩ (.int .i64 ((i : Int) + 1))) ∧ leftO s a b c d (i + 1) = leftO s a b c d i - 1 := by
  obtain ⟨h1, h2, h3⟩ := hit_some h (by omega) (by omega) (by omega) e hq
  have hp := preO_hit (hitB_of e (by rw [(qsel_t a b c d).1]; exact h3))
  rw [e] at hp
  have hn : ∀ k, k < w.heap.size + 3 → some k ≠ v.ownBlock := fun k hk hh => by have := (R.own.lt k hh.symm).1; omega
  have hsz := R.size
  have hb : ∀ k, k < w.heap.size + 3 → w1.heap[k]? = (wr.setCell ⟨w.heap.size, 0, none⟩ (.int .i64 (qv s a 0 i - 1))).heap[k]? := fun k hk => by
    rw [hg.block k (by simp; omega) (hn k hk), Below.heap_alloc _ _ _ (by simp; omega)]
  have hq1 := hb w.heap.size (by omega)
  rw [heap_setCell_same _ _ _ _ _ _ R.q] at hq1
  have hz1 := hb (w.heap.size + 1) (by omega)
  rw [heap_setCell_other _ _ _ _ (by simp), R.z] at hz1
  have hx1 := hb (w.heap.size + 2) (by omega)
  rw [heap_setCell_other _ _ _ _ (by simp), R.x] at hx1
  have hw1 : w.heap.size + 3 ≤ w1.heap.size := by have := hg.size; simp at this; omega
  have m1 := qv_miss (q := b) (t := 1) h (i := (i : Int)) (by omega) (by omega) (by omega) (by omega)
  have y1 := xv_miss (q := b) (t := 1) h (i := (i : Int)) (by omega) (by omega) (by omega) (by omega)
  have m2 := qv_miss (q := c) (t := 2) h (i := (i : Int)) (by omega) (by omega) (by omega) (by omega)
  have y2 := xv_miss (q := c) (t := 2) h (i := (i : Int)) (by omega) (by omega) (by omega) (by omega)
  have m3 := qv_miss (q := d) (t := 3) h (i := (i : Int)) (by omega) (by omega) (by omega) (by omega)
  have y3 := xv_miss (q := d) (t := 3) h (i := (i : Int)) (by omega) (by omega) (by omega) (by omega)
  have ec : ((i + 1 : Nat) : Int) = (i : Int) + 1 := by omega
  refine ⟨⟨?_, ?_, by simpa using hw1, ?_, ?_, ?_⟩, ?_⟩
  · rw [hp]
    exact setCell_own (by simpa using hown) (by omega) _
  · exact ((((R.below.setCell (p := ⟨w.heap.size, 0, none⟩) (Nat.le_refl _) _).alloc (by simp; omega) o).grown hg (by simp; omega) (fun k hk => by have := (R.own.lt k hk).1; omega)).setCell (by show w.heap.size ≤ w.heap.size + 2; omega) _)
  · rw [heap_setCell_other _ _ _ _ (by simp), hq1, ec, h1, m1, m2, m3]
    rfl
  · rw [heap_setCell_other _ _ _ _ (by simp), hz1]
  · rw [heap_setCell_same _ _ _ _ _ _ hx1, ec, h2, y1, y2, y3]
    rfl
  · unfold leftO
    rw [ec, h1, m1, m2, m3]
    omega
theorem ordMiss0 {w : World} {s a b c d : Int} {i : Nat} {v : Value} {wr : World} (R : OrdRel w s a b c d i v wr) (h : 0 ≤ s) (e : (s + i) % 4 = 0) (hq : ¬ 0 < qv s a 0 i) :
    OrdRel w s a b c d (i + 1) v wr ∧ leftO s a b c d (i + 1) = leftO s a b c d i := by
  obtain ⟨h1, h2, h3⟩ := hit_none h (by omega) (by omega) (by omega) e hq
  have hp := preO_miss (hitB_not e (by rw [(qsel_t a b c d).1]; exact h3))
  have m1 := qv_miss (q := b) (t := 1) h (i := (i : Int)) (by omega) (by omega) (by omega) (by omega)
  have y1 := xv_miss (q := b) (t := 1) h (i := (i : Int)) (by omega) (by omega) (by omega) (by omega)
  have m2 := qv_miss (q := c) (t := 2) h (i := (i : Int)) (by omega) (by omega) (by omega) (by omega)
  have y2 := xv_miss (q := c) (t := 2) h (i := (i : Int)) (by omega) (by omega) (by omega) (by omega)
  have m3 := qv_miss (q := d) (t := 3) h (i := (i : Int)) (by omega) (by omega) (by omega) (by omega)
  have y3 := xv_miss (q := d) (t := 3) h (i := (i : Int)) (by omega) (by omega) (by omega) (by omega)
  have ec : ((i + 1 : Nat) : Int) = (i : Int) + 1 := by omega
  refine ⟨⟨by rw [hp]; exact R.own, R.below, R.size, ?_, R.z, ?_⟩, ?_⟩
  · rw [ec, h1, m1, m2, m3]; exact R.q
  · rw [ec, h2, y1, y2, y3]; exact R.x
  · unfold leftO; rw [ec, h1, m1, m2, m3]

theorem ordHit1 {w : World} {s a b c d : Int} {i : Nat} {v v' : Value} {wr w1 : World} {o : Obj} (R : OrdRel w s a b c d i v wr) (h : 0 ≤ s) (e : (s + i) % 4 = 1) (hq : 0 < qv s b 1 i)
    (hown : w1.ownsRow (w.heap.size + 3) 3 1 v' ((preO s a b c d i).length + 1) ((preO s a b c d i).map (Value.int .i64) ++ [.int .i64 1]))
    (hg : ((wr.setCell ⟨w.heap.size, 1, none⟩ (.int .i64 (qv s b 1 i - 1))).alloc o).grownBy w1 v.ownBlock) :
    OrdRel w s a b c d (i + 1) v' (w1.setCell ⟨w.heap.size + 2, 1, none⟩ (.int .i64 ((i : Int) + 1))) ∧ leftO s a b c d (i + 1) = leftO s a b c d i - 1 := by
  obtain ⟨h1, h2, h3⟩ := hit_some h (by omega) (by omega) (by omega) e hq
  have hp := preO_hit (hitB_of e (by rw [(qsel_t a b c d).2.1]; exact h3))
  rw [e] at hp
  have hn : ∀ k, k < w.heap.size + 3 → some k ≠ v.ownBlock := fun k hk hh => by have := (R.own.lt k hh.symm).1; omega
  have hsz := R.size
  have hb : ∀ k, k < w.heap.size + 3 → w1.heap[k]? = (wr.setCell ⟨w.heap.size, 1, none⟩ (.int .i64 (qv s b 1 i - 1))).heap[k]? := fun k hk => by
    rw [hg.block k (by simp; omega) (hn k hk), Below.heap_alloc _ _ _ (by simp; omega)]
  have hq1 := hb w.heap.size (by omega)
  rw [heap_setCell_same _ _ _ _ _ _ R.q] at hq1
  have hz1 := hb (w.heap.size + 1) (by omega)
  rw [heap_setCell_other _ _ _ _ (by simp), R.z] at hz1
  have hx1 := hb (w.heap.size + 2) (by omega)
  rw [heap_setCell_other _ _ _ _ (by simp), R.x] at hx1
  have hw1 : w.heap.size + 3 ≤ w1.heap.size := by have := hg.size; simp at this; omega
  have m0 := qv_miss (q := a) (t := 0) h (i := (i : Int)) (by omega) (by omega) (by omega) (by omega)
  have y0 := xv_miss (q := a) (t := 0) h (i := (i : Int)) (by omega) (by omega) (by omega) (by omega)
  have m2 := qv_miss (q := c) (t := 2) h (i := (i : Int)) (by omega) (by omega) (by omega) (by omega)
  have y2 := xv_miss (q := c) (t := 2) h (i := (i : Int)) (by omega) (by omega) (by omega) (by omega)
  have m3 := qv_miss (q := d) (t := 3) h (i := (i : Int)) (by omega) (by omega) (by omega) (by omega)
  have y3 := xv_miss (q := d) (t := 3) h (i := (i : Int)) (by omega) (by omega) (by omega) (by omega)
  have ec : ((i + 1 : Nat) : Int) = (i : Int) + 1 := by omega
  refine ⟨⟨?_, ?_, by simpa using hw1, ?_, ?_, ?_⟩, ?_⟩
  · rw [hp]
    exact setCell_own (by simpa using hown) (by omega) _
  · exact ((((R.below.setCell (p := ⟨w.heap.size, 1, none⟩) (Nat.le_refl _) _).alloc (by simp; omega) o).grown hg (by simp; omega) (fun k hk => by have := (R.own.lt k hk).1; omega)).setCell (by show w.heap.size ≤ w.heap.size + 2; omega) _)
  · rw [heap_setCell_other _ _ _ _ (by simp), hq1, ec, h1, m0, m2, m3]
    rfl
  · rw [heap_setCell_other _ _ _ _ (by simp), hz1]
  · rw [heap_setCell_same _ _ _ _ _ _ hx1, ec, h2, y0, y2, y3]
    rfl
  · unfold leftO
    rw [ec, h1, m0, m2, m3]
    omega
theorem ordMiss1 {w : World} {s a b c d : Int} {i : Nat} {v : Value} {wr : World} (R : OrdRel w s a b c d i v wr) (h : 0 ≤ s) (e : (s + i) % 4 = 1) (hq : ¬ 0 < qv s b 1 i) :
    OrdRel w s a b c d (i + 1) v wr ∧ leftO s a b c d (i + 1) = leftO s a b c d i := by
  obtain ⟨h1, h2, h3⟩ := hit_none h (by omega) (by omega) (by omega) e hq
  have hp := preO_miss (hitB_not e (by rw [(qsel_t a b c d).2.1]; exact h3))
  have m0 := qv_miss (q := a) (t := 0) h (i := (i : Int)) (by omega) (by omega) (by omega) (by omega)
  have y0 := xv_miss (q := a) (t := 0) h (i := (i : Int)) (by omega) (by omega) (by omega) (by omega)
  have m2 := qv_miss (q := c) (t := 2) h (i := (i : Int)) (by omega) (by omega) (by omega) (by omega)
  have y2 := xv_miss (q := c) (t := 2) h (i := (i : Int)) (by omega) (by omega) (by omega) (by omega)
  have m3 := qv_miss (q := d) (t := 3) h (i := (i : Int)) (by omega) (by omega) (by omega) (by omega)
  have y3 := xv_miss (q := d) (t := 3) h (i := (i : Int)) (by omega) (by omega) (by omega) (by omega)
  have ec : ((i + 1 : Nat) : Int) = (i : Int) + 1 := by omega
  refine ⟨⟨by rw [hp]; exact R.own, R.below, R.size, ?_, R.z, ?_⟩, ?_⟩
  · rw [ec, h1, m0, m2, m3]; exact R.q
  · rw [ec, h2, y0, y2, y3]; exact R.x
  · unfold leftO; rw [ec, h1, m0, m2, m3]

theorem ordHit2 {w : World} {s a b c d : Int} {i : Nat} {v v' : Value} {wr w1 : World} {o : Obj} (R : OrdRel w s a b c d i v wr) (h : 0 ≤ s) (e : (s + i) % 4 = 2) (hq : 0 < qv s c 2 i)
    (hown : w1.ownsRow (w.heap.size + 3) 3 1 v' ((preO s a b c d i).length + 1) ((preO s a b c d i).map (Value.int .i64) ++ [.int .i64 2]))
    (hg : ((wr.setCell ⟨w.heap.size, 2, none⟩ (.int .i64 (qv s c 2 i - 1))).alloc o).grownBy w1 v.ownBlock) :
    OrdRel w s a b c d (i + 1) v' (w1.setCell ⟨w.heap.size + 2, 2, none⟩ (.int .i64 ((i : Int) + 1))) ∧ leftO s a b c d (i + 1) = leftO s a b c d i - 1 := by
  obtain ⟨h1, h2, h3⟩ := hit_some h (by omega) (by omega) (by omega) e hq
  have hp := preO_hit (hitB_of e (by rw [(qsel_t a b c d).2.2.1]; exact h3))
  rw [e] at hp
  have hn : ∀ k, k < w.heap.size + 3 → some k ≠ v.ownBlock := fun k hk hh => by have := (R.own.lt k hh.symm).1; omega
  have hsz := R.size
  have hb : ∀ k, k < w.heap.size + 3 → w1.heap[k]? = (wr.setCell ⟨w.heap.size, 2, none⟩ (.int .i64 (qv s c 2 i - 1))).heap[k]? := fun k hk => by
    rw [hg.block k (by simp; omega) (hn k hk), Below.heap_alloc _ _ _ (by simp; omega)]
  have hq1 := hb w.heap.size (by omega)
  rw [heap_setCell_same _ _ _ _ _ _ R.q] at hq1
  have hz1 := hb (w.heap.size + 1) (by omega)
  rw [heap_setCell_other _ _ _ _ (by simp), R.z] at hz1
  have hx1 := hb (w.heap.size + 2) (by omega)
  rw [heap_setCell_other _ _ _ _ (by simp), R.x] at hx1
  have hw1 : w.heap.size + 3 ≤ w1.heap.size := by have := hg.size; simp at this; omega
  have m0 := qv_miss (q := a) (t := 0) h (i := (i : Int)) (by omega) (by omega) (by omega) (by omega)
  have y0 := xv_miss (q := a) (t := 0) h (i := (i : Int)) (by omega) (by omega) (by omega) (by omega)
  have m1 := qv_miss (q := b) (t := 1) h (i := (i : Int)) (by omega) (by omega) (by omega) (by omega)
  have y1 := xv_miss (q := b) (t := 1) h (i := (i : Int)) (by omega) (by omega) (by omega) (by omega)
  have m3 := qv_miss (q := d) (t := 3) h (i := (i : Int)) (by omega) (by omega) (by omega) (by omega)
  have y3 := xv_miss (q := d) (t := 3) h (i := (i : Int)) (by omega) (by omega) (by omega) (by omega)
  have ec : ((i + 1 : Nat) : Int) = (i : Int) + 1 := by omega
  refine ⟨⟨?_, ?_, by simpa using hw1, ?_, ?_, ?_⟩, ?_⟩
  · rw [hp]
    exact setCell_own (by simpa using hown) (by omega) _
  · exact ((((R.below.setCell (p := ⟨w.heap.size, 2, none⟩) (Nat.le_refl _) _).alloc (by simp; omega) o).grown hg (by simp; omega) (fun k hk => by have := (R.own.lt k hk).1; omega)).setCell (by show w.heap.size ≤ w.heap.size + 2; omega) _)
  · rw [heap_setCell_other _ _ _ _ (by simp), hq1, ec, h1, m0, m1, m3]
    rfl
  · rw [heap_setCell_other _ _ _ _ (by simp), hz1]
  · rw [heap_setCell_same _ _ _ _ _ _ hx1, ec, h2, y0, y1, y3]
    rfl
  · unfold leftO
    rw [ec, h1, m0, m1, m3]
    omega
theorem ordMiss2 {w : World} {s a b c d : Int} {i : Nat} {v : Value} {wr : World} (R : OrdRel w s a b c d i v wr) (h : 0 ≤ s) (e : (s + i) % 4 = 2) (hq : ¬ 0 < qv s c 2 i) :
    OrdRel w s a b c d (i + 1) v wr ∧ leftO s a b c d (i + 1) = leftO s a b c d i := by
  obtain ⟨h1, h2, h3⟩ := hit_none h (by omega) (by omega) (by omega) e hq
  have hp := preO_miss (hitB_not e (by rw [(qsel_t a b c d).2.2.1]; exact h3))
  have m0 := qv_miss (q := a) (t := 0) h (i := (i : Int)) (by omega) (by omega) (by omega) (by omega)
  have y0 := xv_miss (q := a) (t := 0) h (i := (i : Int)) (by omega) (by omega) (by omega) (by omega)
  have m1 := qv_miss (q := b) (t := 1) h (i := (i : Int)) (by omega) (by omega) (by omega) (by omega)
  have y1 := xv_miss (q := b) (t := 1) h (i := (i : Int)) (by omega) (by omega) (by omega) (by omega)
  have m3 := qv_miss (q := d) (t := 3) h (i := (i : Int)) (by omega) (by omega) (by omega) (by omega)
  have y3 := xv_miss (q := d) (t := 3) h (i := (i : Int)) (by omega) (by omega) (by omega) (by omega)
  have ec : ((i + 1 : Nat) : Int) = (i : Int) + 1 := by omega
  refine ⟨⟨by rw [hp]; exact R.own, R.below, R.size, ?_, R.z, ?_⟩, ?_⟩
  · rw [ec, h1, m0, m1, m3]; exact R.q
  · rw [ec, h2, y0, y1, y3]; exact R.x
  · unfold leftO; rw [ec, h1, m0, m1, m3]

theorem ordHit3 {w : World} {s a b c d : Int} {i : Nat} {v v' : Value} {wr w1 : World} {o : Obj} (R : OrdRel w s a b c d i v wr) (h : 0 ≤ s) (e : (s + i) % 4 = 3) (hq : 0 < qv s d 3 i)
    (hown : w1.ownsRow (w.heap.size + 3) 3 1 v' ((preO s a b c d i).length + 1) ((preO s a b c d i).map (Value.int .i64) ++ [.int .i64 3]))
    (hg : ((wr.setCell ⟨w.heap.size, 3, none⟩ (.int .i64 (qv s d 3 i - 1))).alloc o).grownBy w1 v.ownBlock) :
    OrdRel w s a b c d (i + 1) v' (w1.setCell ⟨w.heap.size + 2, 3, none⟩ (.int .i64 ((i : Int) + 1))) ∧ leftO s a b c d (i + 1) = leftO s a b c d i - 1 := by
  obtain ⟨h1, h2, h3⟩ := hit_some h (by omega) (by omega) (by omega) e hq
  have hp := preO_hit (hitB_of e (by rw [(qsel_t a b c d).2.2.2]; exact h3))
  rw [e] at hp
  have hn : ∀ k, k < w.heap.size + 3 → some k ≠ v.ownBlock := fun k hk hh => by have := (R.own.lt k hh.symm).1; omega
  have hsz := R.size
  have hb : ∀ k, k < w.heap.size + 3 → w1.heap[k]? = (wr.setCell ⟨w.heap.size, 3, none⟩ (.int .i64 (qv s d 3 i - 1))).heap[k]? := fun k hk => by
    rw [hg.block k (by simp; omega) (hn k hk), Below.heap_alloc _ _ _ (by simp; omega)]
  have hq1 := hb w.heap.size (by omega)
  rw [heap_setCell_same _ _ _ _ _ _ R.q] at hq1
  have hz1 := hb (w.heap.size + 1) (by omega)
  rw [heap_setCell_other _ _ _ _ (by simp), R.z] at hz1
  have hx1 := hb (w.heap.size + 2) (by omega)
  rw [heap_setCell_other _ _ _ _ (by simp), R.x] at hx1
  have hw1 : w.heap.size + 3 ≤ w1.heap.size := by have := hg.size; simp at this; omega
  have m0 := qv_miss (q := a) (t := 0) h (i := (i : Int)) (by omega) (by omega) (by omega) (by omega)
  have y0 := xv_miss (q := a) (t := 0) h (i := (i : Int)) (by omega) (by omega) (by omega) (by omega)
  have m1 := qv_miss (q := b) (t := 1) h (i := (i : Int)) (by omega) (by omega) (by omega) (by omega)
  have y1 := xv_miss (q := b) (t := 1) h (i := (i : Int)) (by omega) (by omega) (by omega) (by omega)
  have m2 := qv_miss (q := c) (t := 2) h (i := (i : Int)) (by omega) (by omega) (by omega) (by omega)
  have y2 := xv_miss (q := c) (t := 2) h (i := (i : Int)) (by omega) (by omega) (by omega) (by omega)
  have ec : ((i + 1 : Nat) : Int) = (i : Int) + 1 := by omega
  refine ⟨⟨?_, ?_, by simpa using hw1, ?_, ?_, ?_⟩, ?_⟩
  · rw [hp]
    exact setCell_own (by simpa using hown) (by omega) _
  · exact ((((R.below.setCell (p := ⟨w.heap.size, 3, none⟩) (Nat.le_refl _) _).alloc (by simp; omega) o).grown hg (by simp; omega) (fun k hk => by have := (R.own.lt k hk).1; omega)).setCell (by show w.heap.size ≤ w.heap.size + 2; omega) _)
  · rw [heap_setCell_other _ _ _ _ (by simp), hq1, ec, h1, m0, m1, m2]
    rfl
  · rw [heap_setCell_other _ _ _ _ (by simp), hz1]
  · rw [heap_setCell_same _ _ _ _ _ _ hx1, ec, h2, y0, y1, y2]
    rfl
  · unfold leftO
    rw [ec, h1, m0, m1, m2]
    omega
theorem ordMiss3 {w : World} {s a b c d : Int} {i : Nat} {v : Value} {wr : World} (R : OrdRel w s a b c d i v wr) (h : 0 ≤ s) (e : (s + i) % 4 = 3) (hq : ¬ 0 < qv s d 3 i) :
    OrdRel w s a b c d (i + 1) v wr ∧ leftO s a b c d (i + 1) = leftO s a b c d i := by
  obtain ⟨h1, h2, h3⟩ := hit_none h (by omega) (by omega) (by omega) e hq
  have hp := preO_miss (hitB_not e (by rw [(qsel_t a b c d).2.2.2]; exact h3))
  have m0 := qv_miss (q := a) (t := 0) h (i := (i : Int)) (by omega) (by omega) (by omega) (by omega)
  have y0 := xv_miss (q := a) (t := 0) h (i := (i : Int)) (by omega) (by omega) (by omega) (by omega)
  have m1 := qv_miss (q := b) (t := 1) h (i := (i : Int)) (by omega) (by omega) (by omega) (by omega)
  have y1 := xv_miss (q := b) (t := 1) h (i := (i : Int)) (by omega) (by omega) (by omega) (by omega)
  have m2 := qv_miss (q := c) (t := 2) h (i := (i : Int)) (by omega) (by omega) (by omega) (by omega)
  have y2 := xv_miss (q := c) (t := 2) h (i := (i : Int)) (by omega) (by omega) (by omega) (by omega)
  have ec : ((i + 1 : Nat) : Int) = (i : Int) + 1 := by omega
  refine ⟨⟨by rw [hp]; exact R.own, R.below, R.size, ?_, R.z, ?_⟩, ?_⟩
  · rw [ec, h1, m0, m1, m2]; exact R.q
  · rw [ec, h2, y0, y1, y2]; exact R.x
  · unfold leftO; rw [ec, h1, m0, m1, m2]

end Go.Proofs.Ytppndeoiifkkkaa
