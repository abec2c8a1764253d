/- Layer 13 (buffer): First, Last, All. -/
import Derived.Test.YtppndeoiifkkkaaBufC
namespace Go.Proofs.Ytppndeoiifkkkaa
open Go.RowKit Go.Proofs.YtppndeoiifkkkaaW.PrintWords
set_option linter.unusedVariables false
theorem below_set {B g : Nat} {a w : World} (h : Below B a w) (hB : B ≤ g) (j : Nat) (u : Value) : Below B a (w.setCell ⟨g, j, none⟩ u) := h.setCell (p := ⟨g, j, none⟩) hB u
def zeroChg : Value := .agg #[.int .i64 0, .int .i64 0, .string ByteArray.empty]
theorem firstNil_c (w : World) : Calls Try.prog 37 #[.pointer none] w fun e w' => e = .returned (.tuple #[Chg.zero.val, .bool false]) ∧ Below w.heap.size w w' := by
  go_enter Try.func37, Try.ntmps37
  go_wp2_with (go_at_call 39; refine (lenNil_c _).mono ?_; rintro e w' ⟨rfl, rfl⟩)
  exact bodyPost_ret (v := .tuple #[Chg.zero.val, .bool false]) (by simp [results, Try.results37, go_sem, Chg.val, Chg.zero]; rfl) rfl ⟨rfl, (Below.refl _ _).alloc (Nat.le_refl _) _⟩
theorem first_no (g f : Nat) (r : Nat → Chg) (w : World) (h : BufAt w g r f 0) : Calls Try.prog 37 #[.pointer (some ⟨g, 0, none⟩)] w fun e w' => e = .returned (.tuple #[Chg.zero.val, .bool false]) ∧ Below w.heap.size w w' := by
  have hg : g < w.heap.size := blk_lt h.1
  go_enter Try.func37, Try.ntmps37
  go_wp2_with fail
  refine (len_c g f 0 r _ (h.below ((Below.refl _ _).alloc (Nat.le_refl _) _))).mono ?_
  rintro e w' ⟨rfl, rfl⟩
  go_wp2
  exact bodyPost_ret (v := .tuple #[Chg.zero.val, .bool false]) (by simp [results, Try.results37, go_sem, Chg.val, Chg.zero]; rfl) rfl ⟨rfl, (Below.refl _ _).alloc (Nat.le_refl _) _⟩
/-- The cells of one change of the ring. -/
theorem BufAt.at {w : World} {g f n : Nat} {r : Nat → Chg} (h : BufAt w g r f n) {j : Nat} (hj : j < 4) : w.cell? ⟨g, j * 3, none⟩ = some (.int .i64 (r j).place) ∧ w.cell? ⟨g, j * 3 + 1, none⟩ = some (.int .i64 (r j).kind) ∧ w.cell? ⟨g, j * 3 + 2, none⟩ = some (.string (r j).data) := by
  have h4 : j = 0 ∨ j = 1 ∨ j = 2 ∨ j = 3 := by omega
  rcases h4 with rfl | rfl | rfl | rfl <;> exact ⟨by rw [cell_of_row _ _ _ _ _ _ h.1]; rfl, by rw [cell_of_row _ _ _ _ _ _ h.1]; rfl, by rw [cell_of_row _ _ _ _ _ _ h.1]; rfl⟩
set_option maxRecDepth 100000 in
theorem first_ok (g f n : Nat) (r : Nat → Chg) (w : World) (h : BufAt w g r f n) (hn : 0 < n) : Calls Try.prog 37 #[.pointer (some ⟨g, 0, none⟩)] w fun e w' => e = .returned (.tuple #[(r f).val, .bool true]) ∧ Below w.heap.size w w' := by
  have hn0 : ((n : Int) == 0) = false := by rw [beq_eq_false_iff_ne]; omega
  have hg : g < w.heap.size := blk_lt h.1
  have hf4 := h.2.1
  have hb : ∀ o, BufAt (w.alloc o) g r f n := fun o => h.below ((Below.refl _ _).alloc (Nat.le_refl _) _)
  obtain ⟨p0, p1, p2⟩ := h.at hf4
  go_enter Try.func37, Try.ntmps37
  go_wp2_with fail
  refine (len_c g f n r _ (hb _)).mono ?_
  rintro e w' ⟨rfl, rfl⟩
  go_wp2_with fail
  refine (at_c g f 0 _ (hb _).cf hf4 (by omega) (by omega)).mono ?_
  rintro e y ⟨rfl, m, rfl⟩
  have em : (f + (0 : Int).toNat) % 4 = f := by simp; omega
  rw [em]
  go_wp2
  exact bodyPost_ret (v := .tuple #[(r f).val, .bool true]) (by simp [results, Try.results37, go_sem, Chg.val]) rfl ⟨rfl, below_set (below_set (below_set (below_drewN ((Below.refl _ _).alloc (Nat.le_refl _) _) _) (Nat.le_refl _) _ _) (Nat.le_refl _) _ _) (Nat.le_refl _) _ _⟩

def lastOf (r : Nat → Chg) (f : Nat) (p : Int) : Nat → Option Chg
  | 0 => none
  | n + 1 => if (r ((f + n) % 4)).place = p then some (r ((f + n) % 4)) else lastOf r f p n
def lastV (o : Option Chg) : Value := .tuple #[(o.getD Chg.zero).val, .bool o.isSome]
theorem lastNil_c (p : Int) (w : World) : Calls Try.prog 41 #[.pointer none, .int .i64 p] w fun e w' => e = .returned (.tuple #[Chg.zero.val, .bool false]) ∧ Below w.heap.size w w' := by
  go_enter Try.func41, Try.ntmps41
  go_wp2_with (go_at_call 39; refine (lenNil_c _).mono ?_; rintro e w' ⟨rfl, rfl⟩)
  refine wp_loop_rounds 1 ?_
  rw [rounds_succ]
  go_wp2
  exact bodyPost_ret (v := .tuple #[Chg.zero.val, .bool false]) (by simp [results, Try.results41, go_sem, Chg.val, Chg.zero]; rfl) rfl ⟨rfl, (Below.refl _ _).alloc (Nat.le_refl _) _⟩
set_option maxHeartbeats 1600000 in
set_option maxRecDepth 100000 in
theorem last_c (g f n : Nat) (r : Nat → Chg) (p : Int) (w : World) (h : BufAt w g r f n) : Calls Try.prog 41 #[.pointer (some ⟨g, 0, none⟩), .int .i64 p] w fun e w' => e = .returned (lastV (lastOf r f p n)) ∧ Below w.heap.size w w' := by
  have hg : g < w.heap.size := blk_lt h.1
  have hf4 := h.2.1
  have hn4 := h.2.2
  have hb : ∀ o, BufAt (w.alloc o) g r f n := fun o => h.below ((Below.refl _ _).alloc (Nat.le_refl _) _)
  generalize hL : lastOf r f p n = L
  have HL := Lib.hid hL
  clear hL
  go_enter Try.func41, Try.ntmps41
  go_wp2_with fail
  refine (len_c g f n r _ (hb _)).mono ?_
  rintro e w' ⟨rfl, rfl⟩
  have hn0 : (0 : Int) ≤ (n : Int) := by omega
  have hn4' : (n : Int) ≤ 4 := by omega
  go_wp2_with fail
  go_loopw [6] (fun i wr => ∃ k : Nat, k ≤ n ∧ i = .int .i64 ((k : Int) - 1) ∧ Hid (lastOf r f p k = L) ∧ Below (w.heap.size + 1) (w.alloc (.cells #[.int .i64 0, .int .i64 0, .string ByteArray.empty] 48)) wr) (fun i _ => (intOf i + 1).toNat)
  case atStart => exact ⟨n, Nat.le_refl _, rfl, HL, Below.refl _ _⟩
  case round =>
    obtain ⟨k, hk, rfl, hl, hbr⟩ := hrel
    have hsz := hbr.size
    simp at hsz
    have hbw : Below w.heap.size w wr := ((Below.refl _ _).alloc (Nat.le_refl _) _).trans (hbr.mono (by omega))
    have hblk : wr.heap[w.heap.size]? = some (.cells #[.int .i64 0, .int .i64 0, .string ByteArray.empty] 48 (0, 0)) := (hbr.block w.heap.size (by omega)).trans (heap_alloc_new _ _)
    have z0 : wr.cell? ⟨w.heap.size, 0, none⟩ = some (.int .i64 0) := by rw [cell_of_row _ _ _ _ _ _ hblk]; rfl
    have z1 : wr.cell? ⟨w.heap.size, 1, none⟩ = some (.int .i64 0) := by rw [cell_of_row _ _ _ _ _ _ hblk]; rfl
    have z2 : wr.cell? ⟨w.heap.size, 2, none⟩ = some (.string ByteArray.empty) := by rw [cell_of_row _ _ _ _ _ _ hblk]; rfl
    have y0 : wr.frozen? ⟨w.heap.size, 0, none⟩ = false := frozen_of_row _ _ _ _ _ hblk
    have y1 : wr.frozen? ⟨w.heap.size, 1, none⟩ = false := frozen_of_row _ _ _ _ _ hblk
    have y2 : wr.frozen? ⟨w.heap.size, 2, none⟩ = false := frozen_of_row _ _ _ _ _ hblk
    have Bk : BufAt wr g r f n := h.below (((Below.refl _ _).alloc (Nat.le_refl _) _).trans (hbr.mono (by omega)))
    match k, hk, hl with
    | 0, hk, hl =>
      go_wp2
      exact bodyPost_ret (v := lastV L) (by rw [← hl.out]; simp [results, Try.results41, go_sem, lastV, lastOf, Chg.val, Chg.zero, z0, z1, z2]; rfl) rfl ⟨rfl, below_set (below_set (below_set hbw (Nat.le_refl _) _ _) (Nat.le_refl _) _ _) (Nat.le_refl _) _ _⟩
    | k + 1, hk, hl =>
      have hk0 : (0 : Int) ≤ ((k + 1 : Nat) : Int) - 1 := by omega
      have hk4 : ((k + 1 : Nat) : Int) - 1 ≤ 4 := by omega
      have hk3 : ((k + 1 : Nat) : Int) - 1 = (k : Int) := by omega
      rw [hk3] at hk0 hk4 ⊢
      have hj4 : (f + k) % 4 < 4 := by omega
      obtain ⟨p0, p1, p2⟩ := Bk.at hj4
      have cf := Bk.cf
      have hkd : decide ((0 : Int) ≤ (k : Int)) = true := by rw [decide_eq_true_iff]; exact hk0
      clear hk3
      go_wp2_with fail
      refine (at_c g f (k : Int) _ cf hf4 hk0 hk4).mono ?_
      rintro e y ⟨rfl, m, hy⟩
      have hby : Below wr.heap.size wr y := by rw [hy]; exact below_drewN (Below.refl _ _) _
      have hys : w.heap.size < y.heap.size := by have := hby.size; omega
      have hblk2 := blk_below hby hblk
      have x0 := keep_below hby p0
      have x1 := keep_below hby p1
      have x2 := keep_below hby p2
      have z0' := keep_below hby z0
      have z1' := keep_below hby z1
      have z2' := keep_below hby z2
      have v0 : y.frozen? ⟨w.heap.size, 0, none⟩ = false := frozen_of_row _ _ _ _ _ hblk2
      have v1 : y.frozen? ⟨w.heap.size, 1, none⟩ = false := frozen_of_row _ _ _ _ _ hblk2
      have v2 : y.frozen? ⟨w.heap.size, 2, none⟩ = false := frozen_of_row _ _ _ _ _ hblk2
      clear hy p0 p1 p2 z0 z1 z2 y0 y1 y2 hblk hblk2 cf
      have hbwy : Below w.heap.size w y := hbw.trans (hby.mono (by omega))
      have hbry : Below (w.heap.size + 1) (w.alloc (.cells #[.int .i64 0, .int .i64 0, .string ByteArray.empty] 48)) y := hbr.trans (hby.mono hsz)
      rw [Int.toNat_natCast]
      by_cases hp : (r ((f + k) % 4)).place = p
      · have hpb : ((r ((f + k) % 4)).place == p) = true := by rw [beq_iff_eq]; exact hp
        have HP := Lib.hid hp
        clear hp
        go_wp2
        exact bodyPost_ret (v := lastV L) (by rw [← hl.out]; simp [results, Try.results41, go_sem, lastV, lastOf, Chg.val, HP.out, z0', z1', z2', hys]) rfl ⟨rfl, (below_set (below_set (below_set hbwy (Nat.le_refl _) _ _) (Nat.le_refl _) _ _) (Nat.le_refl _) _ _).alloc (by simp; omega) _⟩
      · have hpb : ((r ((f + k) % 4)).place == p) = false := by rw [beq_eq_false_iff_ne]; exact hp
        have HP := Lib.hid hp
        clear hp
        go_wp2
        go_roundw
        case rel => exact ⟨k, by omega, rfl, Lib.hid (by rw [← hl.out]; simp [lastOf, HP.out]), hbry.alloc (by omega) _⟩
        case measure => simp [intOf]
end Go.Proofs.Ytppndeoiifkkkaa
