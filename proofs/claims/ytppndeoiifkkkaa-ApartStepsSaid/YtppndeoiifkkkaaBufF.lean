/- Layer 13 (buffer): the fixed calls; a nil buffer. -/
import Derived.Test.YtppndeoiifkkkaaBufE
namespace Go.Proofs.Ytppndeoiifkkkaa
open Go.RowKit Go.Proofs.YtppndeoiifkkkaaW.PrintWords
set_option linter.unusedVariables false
def cX : Chg := ⟨3, 1, ⟨#[120]⟩⟩
def cY : Chg := ⟨3, 2, ByteArray.empty⟩
theorem below_of_grown {w w1 w2 : World} {g : Nat} (h : Below w.heap.size w w1) (hg : w1.grownBy w2 (some g)) (hB : w.heap.size ≤ g) : Below w.heap.size w w2 :=
  h.grown hg h.size (fun k hk => by injection hk with hk; omega)
set_option maxHeartbeats 1600000 in
set_option maxRecDepth 100000 in
theorem fixed13_c (w : World) : Calls Try.prog 32 #[] w fun e w' => e = .returned (.bool true) ∧ Below w.heap.size w w' := by
  have k1 : chk3 3 1 (ByteArray.size ⟨#[120]⟩) = 0 := by decide
  have k2 : chk3 3 2 ByteArray.empty.size = 0 := by decide
  have k3 : ¬ chk3 0 0 ByteArray.empty.size = 0 := by decide
  have k4 : chk3 0 0 ByteArray.empty.size = 1 := by decide
  have K1 := Lib.hid k1
  have K2 := Lib.hid k2
  have K3 := Lib.hid k3
  have K4 := Lib.hid k4
  clear k1 k2 k3 k4
  go_enter Try.func32, Try.ntmps32
  go_wp2_with fail
  refine (new_c _).mono ?_
  rintro e w1 ⟨rfl, B1, hb1⟩
  go_wp2_with fail
  refine (put_ok w.heap.size 0 0 _ 3 1 ⟨#[120]⟩ _ B1 K1.out (by omega)).mono ?_
  rintro e w2 ⟨rfl, g2, B2⟩
  have hb2 := below_of_grown hb1 g2 (Nat.le_refl _)
  go_wp2_with fail
  refine (put_ok w.heap.size 0 1 _ 3 2 ByteArray.empty _ B2 K2.out (by omega)).mono ?_
  rintro e w3 ⟨rfl, g3, B3⟩
  have hb3 := below_of_grown hb2 g3 (Nat.le_refl _)
  clear hb1 hb2 B1 B2 g2 g3
  go_wp2_with fail
  have F := first_ok w.heap.size 0 2 _ _ B3 (by omega)
  rw [show (upd (upd (fun _ => Chg.zero) ((0 + 0) % 4) ⟨3, 1, ⟨#[120]⟩⟩) ((0 + 1) % 4) ⟨3, 2, ByteArray.empty⟩ 0).val = .agg #[.int .i64 3, .int .i64 1, .string ⟨#[120]⟩] from rfl] at F
  refine F.mono ?_
  rintro e w4 ⟨rfl, h4⟩
  have B4 := B3.below h4
  have hb4 : Below w.heap.size w w4 := hb3.trans (h4.mono hb3.size)
  clear B3 hb3 h4
  have s4 := hb4.size
  go_wp2_with fail
  have B5 := B4.below ((Below.refl w4.heap.size w4).alloc (Nat.le_refl _) (.cells #[.int .i64 3, .int .i64 1, .string ⟨#[120]⟩] 48))
  have L := last_c w.heap.size 0 2 _ 3 _ B5
  rw [show lastV (lastOf (upd (upd (fun _ => Chg.zero) ((0 + 0) % 4) ⟨3, 1, ⟨#[120]⟩⟩) ((0 + 1) % 4) ⟨3, 2, ByteArray.empty⟩) 0 3 2) = .tuple #[.agg #[.int .i64 3, .int .i64 2, .string ByteArray.empty], .bool true] from rfl] at L
  refine L.mono ?_
  rintro e w5 ⟨rfl, h5⟩
  have B6 := B5.below h5
  have q2 : w5.cell? ⟨w4.heap.size, 2, none⟩ = some (.string ⟨#[120]⟩) := keep_below h5 (by rw [World.cell?_alloc_at _ _ _ _ rfl]; rfl)
  have hb5 : Below w.heap.size w w5 := (hb4.alloc hb4.size _).trans (h5.mono (by simp; omega))
  have s5 := h5.size
  simp at s5
  have ne5 : w4.heap.size < w5.heap.size := by omega
  clear h5 hb4 B4 B5
  go_wp2_with fail
  have B7 := B6.below ((Below.refl w5.heap.size w5).alloc (Nat.le_refl _) (.cells #[.int .i64 3, .int .i64 2, .string ByteArray.empty] 48))
  refine (len_c w.heap.size 0 2 _ _ B7).mono ?_
  rintro e w6 ⟨rfl, rfl⟩
  go_wp2_with fail
  refine (full_c w.heap.size 0 2 _ _ B7).mono ?_
  rintro e w6 ⟨rfl, rfl⟩
  go_wp2_with fail
  have P := put_bad w.heap.size 0 2 _ 0 0 ByteArray.empty _ B7 K3.out
  rw [K4.out] at P
  refine P.mono ?_
  rintro e w6 ⟨rfl, h6⟩
  go_wp2
  go_ret
  exact ⟨rfl, (hb5.alloc hb5.size _).trans (h6.mono (by simp; omega))⟩
theorem bufferNone_w (p kd : Int) (d : ByteArray) (place : Int) (w : World) : Calls Try.prog 7 #[.agg #[.int .i64 p, .int .i64 kd, .string d], .int .i64 place] w fun e w' => e = .returned (.bool true) ∧ Below w.heap.size w w' := by
  go_enter Try.func7, Try.ntmps7
  go_wp2_with fail
  refine (fixed13_c _).mono ?_
  rintro e w1 ⟨rfl, hb1⟩
  have c0 : w1.cell? ⟨w.heap.size, 0, none⟩ = some (.int .i64 p) := keep_below hb1 (by rw [World.cell?_alloc_at _ _ _ _ rfl]; rfl)
  have c1 : w1.cell? ⟨w.heap.size, 1, none⟩ = some (.int .i64 kd) := keep_below hb1 (by rw [World.cell?_alloc_at _ _ _ _ rfl]; rfl)
  have c2 : w1.cell? ⟨w.heap.size, 2, none⟩ = some (.string d) := keep_below hb1 (by rw [World.cell?_alloc_at _ _ _ _ rfl]; rfl)
  have s1 := hb1.size
  simp at s1
  have ne1 : w.heap.size < w1.heap.size := by omega
  go_wp2_with fail
  have F := firstNil_c w1
  rw [show Chg.zero.val = .agg #[.int .i64 0, .int .i64 0, .string ByteArray.empty] from rfl] at F
  refine F.mono ?_
  rintro e w2 ⟨rfl, hb2⟩
  have d0 := keep_below hb2 c0
  have d1 := keep_below hb2 c1
  have d2 := keep_below hb2 c2
  have ne2 : w.heap.size < w2.heap.size := by have := hb2.size; omega
  clear c0 c1 c2
  go_wp2_with fail
  have L := lastNil_c place (w2.alloc (.cells #[.int .i64 0, .int .i64 0, .string ByteArray.empty] 48))
  rw [show Chg.zero.val = .agg #[.int .i64 0, .int .i64 0, .string ByteArray.empty] from rfl] at L
  refine L.mono ?_
  rintro e w3 ⟨rfl, hb3⟩
  have e0 : w3.cell? ⟨w.heap.size, 0, none⟩ = some (.int .i64 p) := keep_below hb3 (by rw [World.cell?_alloc_past _ _ _ ne2]; exact d0)
  have e1 : w3.cell? ⟨w.heap.size, 1, none⟩ = some (.int .i64 kd) := keep_below hb3 (by rw [World.cell?_alloc_past _ _ _ ne2]; exact d1)
  have e2 : w3.cell? ⟨w.heap.size, 2, none⟩ = some (.string d) := keep_below hb3 (by rw [World.cell?_alloc_past _ _ _ ne2]; exact d2)
  have s3 := hb3.size
  simp at s3
  have ne3 : w.heap.size < w3.heap.size := by omega
  clear d0 d1 d2
  go_wp2_with fail
  refine (putNil_c p kd d _).mono ?_
  rintro e w4 ⟨rfl, hb4⟩
  go_wp2_with (first | (go_at_call 36; refine (dropNil_c _).mono ?_; rintro e w' ⟨rfl, rfl⟩) | (go_at_call 39; refine (lenNil_c _).mono ?_; rintro e w' ⟨rfl, rfl⟩) | (go_at_call 40; refine (fullNil_c _).mono ?_; rintro e w' ⟨rfl, rfl⟩) | (go_at_call 38; refine (allNil_c _).mono ?_; rintro e w' ⟨rfl, rfl⟩))
  go_ret
  have b1 : Below w.heap.size w w1 := ((Below.refl _ _).alloc (Nat.le_refl _) _).trans (hb1.mono (by simp))
  have b2 : Below w.heap.size w w2 := b1.trans (hb2.mono (by omega))
  have b3 : Below w.heap.size w w3 := (b2.alloc (by omega) _).trans (hb3.mono (by simp; omega))
  exact ⟨rfl, (b3.alloc (by omega) _).trans (hb4.mono (by simp; omega))⟩
end Go.Proofs.Ytppndeoiifkkkaa
