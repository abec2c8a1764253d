/- Layer 42 (turn): the order. -/
import Derived.Test.YtppndeoiifkkkaaTurnB
namespace Go.Proofs.Ytppndeoiifkkkaa
open Go.RowKit

def qsel (a b c d t : Int) : Int := if t = 0 then a else if t = 1 then b else if t = 2 then c else d
def hitB (s a b c d : Int) (i : Nat) : Bool := decide (((i / 4 : Nat) : Int) < lenF (qsel a b c d ((s + i) % 4)))
def preO (s a b c d : Int) (m : Nat) : List Int := ((List.range m).filter (hitB s a b c d)).map fun i => (s + (i : Nat)) % 4
theorem preO_hit {s a b c d : Int} {m : Nat} (h : hitB s a b c d m = true) : preO s a b c d (m + 1) = preO s a b c d m ++ [(s + m) % 4] := by
  simp [preO, List.range_succ, List.filter_append, h]
theorem preO_miss {s a b c d : Int} {m : Nat} (h : hitB s a b c d m = false) : preO s a b c d (m + 1) = preO s a b c d m := by
  simp [preO, List.range_succ, List.filter_append, h]
theorem preO_le (s a b c d : Int) (m : Nat) : (preO s a b c d m).length ≤ m := by
  unfold preO; rw [List.length_map]; exact Nat.le_trans (List.length_filter_le _ _) (by simp)
theorem cell_arr4 {w wr : World} (a b c d t : Int) (T : Nat) (h : Below (w.heap.size + 1) (w.alloc (.cells #[.int .i64 a, .int .i64 b, .int .i64 c, .int .i64 d] T)) wr) (h0 : 0 ≤ t) (h4 : t < 4) :
    wr.cell? ⟨w.heap.size, t.toNat, none⟩ = some (.int .i64 (qsel a b c d t)) := by
  rw [h.cell (p := ⟨w.heap.size, t.toNat, none⟩) (by simp), World.cell?_alloc_at _ _ _ _ rfl]
  have h5 : t = 0 ∨ t = 1 ∨ t = 2 ∨ t = 3 := by omega
  rcases h5 with rfl | rfl | rfl | rfl <;> rfl

set_option maxRecDepth 100000 in
theorem order_c (s a b c d : Int) (w : World) : Calls Try.prog 30 #[.int .i64 s, .agg #[.int .i64 a, .int .i64 b, .int .i64 c, .int .i64 d]] w fun e w' =>
    ∃ v, e = .returned v ∧ w'.ownsRow w.heap.size 3 1 v (if slottedB s = true then preO s a b c d 32 else []).length ((if slottedB s = true then preO s a b c d 32 else []).map (Value.int .i64)) ∧ Below w.heap.size w w' := by
  by_cases hs : slottedB s = true
  · rw [if_pos hs]
    have hb := (slottedB_iff s).1 hs
    obtain ⟨hb1, hb2⟩ := hb
    obtain ⟨i0, hi, hz0, hz1, hz2⟩ := info_parts Try.infos3
    go_enter Try.func30, Try.ntmps30
    go_wp2_with (go_at_call 94; refine (slotted_c _ _).mono ?_; rintro e w' ⟨rfl, rfl⟩)
    go_loopw [5, 12] (fun v i wr => ∃ k : Nat, k ≤ 8 ∧ i = .int .i64 k ∧ wr.ownsRow (w.heap.size + 1) 3 1 v (preO s a b c d (4 * k)).length ((preO s a b c d (4 * k)).map (Value.int .i64)) ∧
        Below (w.heap.size + 1) (w.alloc (.cells #[.int .i64 a, .int .i64 b, .int .i64 c, .int .i64 d] 36)) wr) (fun _ i _ => 8 - (intOf i).toNat)
    case atStart => exact ⟨0, by omega, rfl, World.ownsRow_nil _ _ _ _, Below.refl _ _⟩
    case round =>
      obtain ⟨k, hk, rfl, hown, hnx⟩ := hrel
      by_cases hlt : k < 8
      · have hsz := hnx.size
        simp at hsz
        have hkd : decide ((k : Int) < 8) = true := by rw [decide_eq_true_iff]; omega
        go_wp2
        clear hkd
        obtain ⟨wo, rfl⟩ : ∃ wo : World, wo = wr := ⟨_, rfl⟩
        go_loopw [5, 15] (fun v i wr => ∃ j : Nat, j ≤ 4 ∧ i = .int .i64 j ∧ wr.ownsRow (w.heap.size + 1) 3 1 v (preO s a b c d (4 * k + j)).length ((preO s a b c d (4 * k + j)).map (Value.int .i64)) ∧
            Below (w.heap.size + 1) (w.alloc (.cells #[.int .i64 a, .int .i64 b, .int .i64 c, .int .i64 d] 36)) wr) (fun _ i _ => 4 - (intOf i).toNat)
        case atStart => exact ⟨0, by omega, rfl, by simpa using hown, hnx⟩
        case round =>
          clear hown hnx
          obtain ⟨j, hj, rfl, hown, hnx⟩ := hrel
          by_cases hjlt : j < 4
          · have t0 : 0 ≤ (s + j) % 4 := by omega
            have t4 : (s + j) % 4 < 4 := by omega
            have hcell := cell_arr4 a b c d ((s + j) % 4) 36 hnx t0 t4
            have hl := lenF_bd (qsel a b c d ((s + j) % 4))
            by_cases hh : (k : Int) < lenF (qsel a b c d ((s + j) % 4))
            · have hit : hitB s a b c d (4 * k + j) = true := by
                unfold hitB
                rw [decide_eq_true_iff, show (4 * k + j) / 4 = k by omega, show (s + ((4 * k + j : Nat) : Int)) % 4 = (s + j) % 4 by omega]
                exact hh
              have hp := preO_hit hit
              rw [show (s + ((4 * k + j : Nat) : Int)) % 4 = (s + j) % 4 by omega] at hp
              have HP := Lib.hid hp
              clear hp hit
              go_wp2_with (first
                | (go_at_call 95; refine (length_c _ _).mono ?_; rintro e w' ⟨rfl, rfl⟩)
                | (at_builtin; refine wpList_append_own _ rfl _ _ 38 rfl (w.heap.size + 1) 3 i0 (.int .i64 0) 1 8 Try.underlying38 hi hz0 hz1 hz2 rfl (by decide) _ _ _ rfl (hown.alloc _) ⟨wr.heap.size, 0, none⟩ 1 1 [.int .i64 ((s + j) % 4)] rfl rfl ?c1 ?c2 ?c3 ?c4 ?c5 ?_))
              case c1 =>
                intro j u hj
                match j, hj with
                | 0, hj => simp at hj; subst hj; simp [Addr.add]
              case c2 => intro u hu; simp at hu; subst hu; rfl
              case c3 => have := preO_le s a b c d (4 * k + j); unfold maxLen; omega
              case c4 => have := preO_le s a b c d (4 * k + j); omega
              case c5 => have := hnx.size; simp; simp at this; omega
              intro v' w1 hown' hgrow _
              have hn1 := below_app hnx (Nat.le_refl _) (by have := hnx.size; simp at this; exact this) hown hgrow
              clear hgrow hown hnx hcell
              go_wp2
              go_roundw
              case rel =>
                have hown2 : w1.ownsRow (w.heap.size + 1) 3 1 v' (preO s a b c d (4 * k + (j + 1))).length ((preO s a b c d (4 * k + (j + 1))).map (Value.int .i64)) := by
                  rw [show 4 * k + (j + 1) = 4 * k + j + 1 by omega, HP.out]; simpa using hown'
                exact ⟨j + 1, by omega, by go_num, hown2, hn1⟩
              case measure => simp [intOf]; omega
            · have hit : hitB s a b c d (4 * k + j) = false := by
                unfold hitB
                rw [decide_eq_false_iff_not, show (4 * k + j) / 4 = k by omega, show (s + ((4 * k + j : Nat) : Int)) % 4 = (s + j) % 4 by omega]
                exact hh
              have HP := Lib.hid (preO_miss hit)
              clear hit
              go_wp2_with (go_at_call 95; refine (length_c _ _).mono ?_; rintro e w' ⟨rfl, rfl⟩)
              go_roundw
              case rel =>
                have hown2 : wr.ownsRow (w.heap.size + 1) 3 1 u5 (preO s a b c d (4 * k + (j + 1))).length ((preO s a b c d (4 * k + (j + 1))).map (Value.int .i64)) := by
                  rw [show 4 * k + (j + 1) = 4 * k + j + 1 by omega, HP.out]; exact hown
                exact ⟨j + 1, by omega, by go_num, hown2, hnx⟩
              case measure => simp [intOf]; omega
          · obtain rfl : j = 4 := by omega
            go_wp2
            go_roundw
            case rel => exact ⟨k + 1, by omega, by go_num, hown, hnx⟩
            case measure => simp [intOf]; omega
      · obtain rfl : k = 8 := by omega
        go_wp2
        go_ret
        exact ⟨_, rfl, ⟨hown.1, hown.2.imp id (fun ⟨g, cap, cur, h1, h2, h3⟩ => ⟨g, cap, cur, h1, by omega, h3⟩)⟩, ((Below.refl _ _).alloc (Nat.le_refl _) _).trans (hnx.mono (by simp))⟩
  · rw [if_neg hs]
    have hs' : slottedB s = false := by simpa using hs
    clear hs
    go_enter Try.func30, Try.ntmps30
    go_wp2_with (go_at_call 94; refine (slotted_c _ _).mono ?_; rintro e w' ⟨rfl, rfl⟩)
    go_ret
    exact ⟨_, rfl, World.ownsRow_nil _ _ _ _, (Below.refl _ _).alloc (Nat.le_refl _) _⟩
end Go.Proofs.Ytppndeoiifkkkaa
