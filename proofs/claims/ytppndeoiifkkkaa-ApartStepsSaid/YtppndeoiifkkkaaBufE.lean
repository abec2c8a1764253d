/- Layer 13 (buffer): All; the fixed calls; a nil buffer. -/
import Derived.Test.YtppndeoiifkkkaaBufD
namespace Go.Proofs.Ytppndeoiifkkkaa
open Go.RowKit Go.Proofs.YtppndeoiifkkkaaW.PrintWords
set_option linter.unusedVariables false
def Chg.cs (c : Chg) : List Value := [.int .i64 c.place, .int .i64 c.kind, .string c.data]
def rowOf (r : Nat → Chg) (f n : Nat) : List Chg := (List.range n).map fun i => r ((f + i) % 4)
def chgCells (l : List Chg) : List Value := l.flatMap Chg.cs
theorem rowOf_succ (r : Nat → Chg) (f n : Nat) : rowOf r f (n + 1) = rowOf r f n ++ [r ((f + n) % 4)] := by simp [rowOf, List.range_succ]
theorem rowOf_len (r : Nat → Chg) (f n : Nat) : (rowOf r f n).length = n := by simp [rowOf]
theorem chgCells_app (a b : List Chg) : chgCells (a ++ b) = chgCells a ++ chgCells b := by simp [chgCells]
theorem Try.infos48 : (Try.prog.info? 48).map (fun i => (i.zero, i.size, i.bytes)) = some (some (.agg #[.int .i64 0, .int .i64 0, .string ByteArray.empty]), 3, 32) := by kernel_rfl
theorem new_three {w : World} {n T : Nat} {u0 u1 u2 : Value} (h : n = w.heap.size) : ∀ (j : Nat) (x : Value), [u0, u1, u2][j]? = some x → (w.alloc (.cells #[u0, u1, u2] T)).cell? ((⟨n, 0, none⟩ : Addr).add j) = some x := by
  subst h
  intro j x hj
  have hb : (w.alloc (.cells #[u0, u1, u2] T)).heap[w.heap.size]? = some (.cells #[u0, u1, u2] T (0, 0)) := heap_alloc_new _ _
  rw [show (⟨w.heap.size, 0, none⟩ : Addr).add j = ⟨w.heap.size, j, none⟩ by unfold Addr.add; split <;> simp_all, cell_of_row _ _ _ _ _ _ hb]
  simpa using hj
theorem allNil_c (w : World) : Calls Try.prog 38 #[.pointer none] w fun e w' => e = .returned (.slice none 0 0) ∧ w = w' := by
  go_enter Try.func38, Try.ntmps38
  go_wp2_with (go_at_call 39; refine (lenNil_c _).mono ?_; rintro e w' ⟨rfl, rfl⟩)
  refine wp_loop_rounds 1 ?_
  rw [rounds_succ]
  go_wp2
  go_ret
  exact ⟨rfl, rfl⟩
set_option maxHeartbeats 1600000 in
set_option maxRecDepth 100000 in
theorem all_c (g f n : Nat) (r : Nat → Chg) (w : World) (h : BufAt w g r f n) : Calls Try.prog 38 #[.pointer (some ⟨g, 0, none⟩)] w fun e w' => ∃ v, e = .returned v ∧ w'.ownsRow w.heap.size 48 3 v n (chgCells (rowOf r f n)) ∧ Below w.heap.size w w' := by
  obtain ⟨i0, hi, hz0, hz1, hz2⟩ := info_parts Try.infos48
  have hg : g < w.heap.size := blk_lt h.1
  have hf4 := h.2.1
  have hn4 := h.2.2
  go_enter Try.func38, Try.ntmps38
  go_wp2_with fail
  refine (len_c g f n r _ h).mono ?_
  rintro e w' ⟨rfl, rfl⟩
  go_wp2_with fail
  go_loopw [3, 7] (fun v i wr => ∃ k : Nat, k ≤ n ∧ i = .int .i64 k ∧ wr.ownsRow w.heap.size 48 3 v k (chgCells (rowOf r f k)) ∧ Below w.heap.size w wr) (fun _ i _ => n - (intOf i).toNat)
  case atStart => exact ⟨0, by omega, rfl, World.ownsRow_nil _ _ _ _, Below.refl _ _⟩
  case round =>
    obtain ⟨k, hk, rfl, hown, hbr⟩ := hrel
    by_cases hlt : k < n
    · have Bk : BufAt wr g r f n := h.below hbr
      have hk0 : (0 : Int) ≤ (k : Int) := by omega
      have hk4 : (k : Int) ≤ 4 := by omega
      have hj4 : (f + k) % 4 < 4 := by omega
      obtain ⟨p0, p1, p2⟩ := Bk.at hj4
      have cf := Bk.cf
      have hsz := hbr.size
      go_wp2_with fail
      refine (at_c g f (k : Int) _ cf hf4 hk0 hk4).mono ?_
      rintro e y ⟨rfl, m, hy⟩
      have hby : Below wr.heap.size wr y := by rw [hy]; exact below_drewN (Below.refl _ _) _
      have x0 := keep_below hby p0
      have x1 := keep_below hby p1
      have x2 := keep_below hby p2
      have hown : y.ownsRow w.heap.size 48 3 u3 k (chgCells (rowOf r f k)) := by rw [hy]; exact hown
      have hbr : Below w.heap.size w y := by rw [hy]; exact below_drewN hbr _
      have hsz := hbr.size
      have hrow := Lib.hid (rowOf_succ r f k)
      clear hy p0 p1 p2 cf Bk
      rw [Int.toNat_natCast]
      generalize r ((f + k) % 4) = c at *
      go_wp2_with (at_builtin; refine wpList_append_own _ rfl _ _ 46 rfl w.heap.size 48 i0 _ 3 32 Try.underlying46 hi hz0 hz1 hz2 rfl (by decide) _ _ _ rfl (hown.alloc _) ⟨y.heap.size, 0, none⟩ 1 1 [.int .i64 c.place, .int .i64 c.kind, .string c.data] rfl rfl ?c1 ?c2 ?c3 ?c4 ?c5 ?_)
      case c1 => exact new_three rfl
      case c2 => intro u hu; simp at hu; rcases hu with rfl | rfl | rfl <;> rfl
      case c3 => unfold maxLen; omega
      case c4 => omega
      case c5 => simp; omega
      intro v' w1 hown' hgrow _
      have hn1 := below_app hbr (Nat.le_refl _) hsz hown hgrow
      clear hgrow hown hbr x0 x1 x2
      go_wp2
      go_roundw
      case rel => exact ⟨k + 1, by omega, by go_num, by rw [hrow.out, chgCells_app]; exact hown', hn1⟩
      case measure => simp [intOf]; omega
    · obtain rfl : k = n := by omega
      go_wp2
      go_ret
      exact ⟨_, rfl, hown, hbr⟩
end Go.Proofs.Ytppndeoiifkkkaa
