/- Layer 42 (turn): the document's order, its contract. -/
import Derived.Test.YtppndeoiifkkkaaTurnE
namespace Go.Proofs.Ytppndeoiifkkkaa
open Go.RowKit
set_option linter.unusedVariables false

def ordQ (a b c d : Int) (k : Nat) : Array Value := #[.int .i64 (if 0 < k then lenF a else a), .int .i64 (if 1 < k then lenF b else b), .int .i64 (if 2 < k then lenF c else c), .int .i64 (if 3 < k then lenF d else d)]
def ordL (a b c d : Int) (k : Nat) : Int := (if 0 < k then lenF a else 0) + (if 1 < k then lenF b else 0) + (if 2 < k then lenF c else 0) + (if 3 < k then lenF d else 0)
theorem lenF_lo {n : Int} (h : n < 0) : lenF n = 0 := if_pos h
theorem lenF_hi {n : Int} (h : ¬ n < 0) (h8 : 8 < n) : lenF n = 8 := by unfold lenF; rw [if_neg h, if_pos h8]
theorem lenF_in {n : Int} (h : ¬ n < 0) (h8 : ¬ 8 < n) : lenF n = n := by unfold lenF; rw [if_neg h, if_neg h8]

set_option maxHeartbeats 1600000 in
set_option maxRecDepth 100000 in
theorem refOrder_c (s a b c d : Int) (w : World) (hb1 : 0 ≤ s) (hb2 : s ≤ 1099511627776) : Calls Try.prog 31 #[.int .i64 s, .agg #[.int .i64 a, .int .i64 b, .int .i64 c, .int .i64 d]] w fun e w' =>
    ∃ v, e = .returned (.tuple #[v, .agg #[.int .i64 (wait1 s 0 a), .int .i64 (wait1 s 1 b), .int .i64 (wait1 s 2 c), .int .i64 (wait1 s 3 d)]]) ∧ w'.ownsRow w.heap.size 3 1 v (preO s a b c d 32).length ((preO s a b c d 32).map (Value.int .i64)) ∧ Below w.heap.size w w' := by
  obtain ⟨i0, hi, hz0, hz1, hz2⟩ := info_parts Try.infos3
  have i0' := fun w => idx36_0 (.int .i64 a) (.int .i64 b) (.int .i64 c) (.int .i64 d) w
  have i1 := fun w => idx36_1 (.int .i64 a) (.int .i64 b) (.int .i64 c) (.int .i64 d) w
  have i2 := fun w => idx36_2 (.int .i64 a) (.int .i64 b) (.int .i64 c) (.int .i64 d) w
  have i3 := fun w => idx36_3 (.int .i64 a) (.int .i64 b) (.int .i64 c) (.int .i64 d) w
  have la := lenF_bd a
  have lb := lenF_bd b
  have lc := lenF_bd c
  have ld := lenF_bd d
  go_enter Try.func31, Try.ntmps31
  go_wp2
  go_loopw [8, 14] (fun l i wr => ∃ k : Nat, k ≤ 4 ∧ i = .int .i64 k ∧ l = .int .i64 (ordL a b c d k) ∧ wr = ((w.alloc (.cells (ordQ a b c d k) 36)).alloc (.cells #[.int .i64 0, .int .i64 0, .int .i64 0, .int .i64 0] 36)).alloc (.cells #[.int .i64 0, .int .i64 0, .int .i64 0, .int .i64 0] 36)) (fun _ i _ => 4 - (intOf i).toNat)
  case atStart => exact ⟨0, by omega, rfl, rfl, rfl⟩
  case round =>
    obtain ⟨k, hk, rfl, rfl, rfl⟩ := hrel
    have hk5 : k = 0 ∨ k = 1 ∨ k = 2 ∨ k = 3 ∨ k = 4 := by omega
    rcases hk5 with rfl | rfl | rfl | rfl | rfl
    · have hq : ordQ a b c d 0 = #[.int .i64 a, .int .i64 b, .int .i64 c, .int .i64 d] := rfl
      have hl : ordL a b c d 0 = 0 := by unfold ordL; simp
      rw [hq, hl]
      clear hq hl
      by_cases hn : a < 0
      · have HE := Lib.hid (lenF_lo hn)
        go_wp2
        go_roundw
        case rel => exact ⟨1, by omega, by go_num, by congr 1; have := HE.out; unfold ordL; simp; omega, by have := HE.out; simp [ordQ, this]⟩
        case measure => simp [intOf]
      · by_cases h8 : 8 < a
        · have HE := Lib.hid (lenF_hi hn h8)
          go_wp2
          go_roundw
          case rel => exact ⟨1, by omega, by go_num, by congr 1; have := HE.out; unfold ordL; simp; omega, by have := HE.out; simp [ordQ, this]⟩
          case measure => simp [intOf]
        · have HE := Lib.hid (lenF_in hn h8)
          go_wp2
          go_roundw
          case rel => exact ⟨1, by omega, by go_num, by congr 1; have := HE.out; unfold ordL; simp; omega, by have := HE.out; simp [ordQ, this]⟩
          case measure => simp [intOf]
    · have hq : ordQ a b c d 1 = #[.int .i64 (lenF a), .int .i64 b, .int .i64 c, .int .i64 d] := rfl
      have hl : ordL a b c d 1 = lenF a := by unfold ordL; simp
      rw [hq, hl]
      clear hq hl
      by_cases hn : b < 0
      · have HE := Lib.hid (lenF_lo hn)
        go_wp2
        go_roundw
        case rel => exact ⟨2, by omega, by go_num, by congr 1; have := HE.out; unfold ordL; simp; omega, by have := HE.out; simp [ordQ, this]⟩
        case measure => simp [intOf]
      · by_cases h8 : 8 < b
        · have HE := Lib.hid (lenF_hi hn h8)
          go_wp2
          go_roundw
          case rel => exact ⟨2, by omega, by go_num, by congr 1; have := HE.out; unfold ordL; simp; omega, by have := HE.out; simp [ordQ, this]⟩
          case measure => simp [intOf]
        · have HE := Lib.hid (lenF_in hn h8)
          go_wp2
          go_roundw
          case rel => exact ⟨2, by omega, by go_num, by congr 1; have := HE.out; unfold ordL; simp; omega, by have := HE.out; simp [ordQ, this]⟩
          case measure => simp [intOf]
    · have hq : ordQ a b c d 2 = #[.int .i64 (lenF a), .int .i64 (lenF b), .int .i64 c, .int .i64 d] := rfl
      have hl : ordL a b c d 2 = lenF a + lenF b := by unfold ordL; simp
      rw [hq, hl]
      clear hq hl
      by_cases hn : c < 0
      · have HE := Lib.hid (lenF_lo hn)
        go_wp2
        go_roundw
        case rel => exact ⟨3, by omega, by go_num, by congr 1; have := HE.out; unfold ordL; simp; omega, by have := HE.out; simp [ordQ, this]⟩
        case measure => simp [intOf]
      · by_cases h8 : 8 < c
        · have HE := Lib.hid (lenF_hi hn h8)
          go_wp2
          go_roundw
          case rel => exact ⟨3, by omega, by go_num, by congr 1; have := HE.out; unfold ordL; simp; omega, by have := HE.out; simp [ordQ, this]⟩
          case measure => simp [intOf]
        · have HE := Lib.hid (lenF_in hn h8)
          go_wp2
          go_roundw
          case rel => exact ⟨3, by omega, by go_num, by congr 1; have := HE.out; unfold ordL; simp; omega, by have := HE.out; simp [ordQ, this]⟩
          case measure => simp [intOf]
    · have hq : ordQ a b c d 3 = #[.int .i64 (lenF a), .int .i64 (lenF b), .int .i64 (lenF c), .int .i64 d] := rfl
      have hl : ordL a b c d 3 = lenF a + lenF b + lenF c := by unfold ordL; simp
      rw [hq, hl]
      clear hq hl
      by_cases hn : d < 0
      · have HE := Lib.hid (lenF_lo hn)
        go_wp2
        go_roundw
        case rel => exact ⟨4, by omega, by go_num, by congr 1; have := HE.out; unfold ordL; simp; omega, by have := HE.out; simp [ordQ, this]⟩
        case measure => simp [intOf]
      · by_cases h8 : 8 < d
        · have HE := Lib.hid (lenF_hi hn h8)
          go_wp2
          go_roundw
          case rel => exact ⟨4, by omega, by go_num, by congr 1; have := HE.out; unfold ordL; simp; omega, by have := HE.out; simp [ordQ, this]⟩
          case measure => simp [intOf]
        · have HE := Lib.hid (lenF_in hn h8)
          go_wp2
          go_roundw
          case rel => exact ⟨4, by omega, by go_num, by congr 1; have := HE.out; unfold ordL; simp; omega, by have := HE.out; simp [ordQ, this]⟩
          case measure => simp [intOf]
    · have hq : ordQ a b c d 4 = #[.int .i64 (lenF a), .int .i64 (lenF b), .int .i64 (lenF c), .int .i64 (lenF d)] := rfl
      have hl : ordL a b c d 4 = lenF a + lenF b + lenF c + lenF d := by unfold ordL; simp
      rw [hq, hl, show ((4 : Nat) : Int) = 4 from rfl]
      clear hq hl i0' i1 i2 i3
      go_wp2
      clear la lb lc ld
      go_loopw [6, 8, 11] (fun v l i wr => ∃ k : Nat, k ≤ 32 ∧ i = .int .i64 k ∧ l = .int .i64 (leftO s a b c d k) ∧ OrdRel w s a b c d k v wr) (fun _ _ i _ => 32 - (intOf i).toNat)
      case atStart =>
        refine ⟨0, by omega, rfl, ?_, ⟨World.ownsRow_nil _ _ _ _, (((Below.refl _ _).alloc (Nat.le_refl _) _).alloc (by simp) _).alloc (by simp; omega) _, by simp, ?_, ?_, ?_⟩⟩
        · congr 1
          unfold leftO
          rw [show ((0 : Nat) : Int) = 0 from rfl, qv_0 hb1 (by omega) (by omega), qv_0 hb1 (by omega) (by omega), qv_0 hb1 (by omega) (by omega), qv_0 hb1 (by omega) (by omega)]
        · rw [show ((0 : Nat) : Int) = 0 from rfl, qv_0 hb1 (by omega) (by omega), qv_0 hb1 (by omega) (by omega), qv_0 hb1 (by omega) (by omega), qv_0 hb1 (by omega) (by omega), Below.heap_alloc _ _ _ (by simp; omega), Below.heap_alloc _ _ _ (by simp)]
          exact heap_alloc_new _ _
        · rw [Below.heap_alloc _ _ _ (by simp)]
          exact heap_alloc2_new _ _ _
        · rw [show ((0 : Nat) : Int) = 0 from rfl, xv_0 hb1 (by omega) (by omega), xv_0 hb1 (by omega) (by omega), xv_0 hb1 (by omega) (by omega), xv_0 hb1 (by omega) (by omega)]
          have := heap_alloc2_new (w.alloc (.cells #[.int .i64 (lenF a), .int .i64 (lenF b), .int .i64 (lenF c), .int .i64 (lenF d)] 36)) (.cells #[.int .i64 0, .int .i64 0, .int .i64 0, .int .i64 0] 36) (.cells #[.int .i64 0, .int .i64 0, .int .i64 0, .int .i64 0] 36)
          simpa using this
      case round =>
        obtain ⟨k, hk, rfl, rfl, R⟩ := hrel
        have n0 := qv_bd s a 0 k (by omega)
        have n1 := qv_bd s b 1 k (by omega)
        have n2 := qv_bd s c 2 k (by omega)
        have n3 := qv_bd s d 3 k (by omega)
        have hL : leftO s a b c d k ≤ 32 := by unfold leftO; omega
        by_cases hl : 0 < leftO s a b c d k
        · have hk32 : k < 32 := by
            rcases Nat.lt_or_ge k 32 with h | h
            · exact h
            · have m0 := qv_32 (q := a) (t := 0) (i := (k : Int)) hb1 (by omega) (by omega) (by omega)
              have m1 := qv_32 (q := b) (t := 1) (i := (k : Int)) hb1 (by omega) (by omega) (by omega)
              have m2 := qv_32 (q := c) (t := 2) (i := (k : Int)) hb1 (by omega) (by omega) (by omega)
              have m3 := qv_32 (q := d) (t := 3) (i := (k : Int)) hb1 (by omega) (by omega) (by omega)
              unfold leftO at hl; omega
          have h4 : (s + (k : Int)) % 4 = 0 ∨ (s + (k : Int)) % 4 = 1 ∨ (s + (k : Int)) % 4 = 2 ∨ (s + (k : Int)) % 4 = 3 := by omega
          have hsz := R.size
          have hown := R.own
          rcases h4 with e | e | e | e
          · have E := Lib.hid e
            have cq : wr.cell? ⟨w.heap.size, 0, none⟩ = some (.int .i64 (qv s a 0 k)) := by rw [cell_of_row _ _ _ _ _ _ R.q]; rfl
            have fq : wr.frozen? ⟨w.heap.size, 0, none⟩ = false := frozen_of_row _ _ _ _ _ R.q
            have cx : wr.cell? ⟨w.heap.size + 2, 0, none⟩ = some (.int .i64 (xv s a 0 k)) := by rw [cell_of_row _ _ _ _ _ _ R.x]; rfl
            have fx : wr.frozen? ⟨w.heap.size + 2, 0, none⟩ = false := frozen_of_row _ _ _ _ _ R.x
            by_cases hh : 0 < qv s a 0 k
            · go_wp2_with (at_builtin; refine wpList_append_own _ rfl _ _ 38 rfl (w.heap.size + 3) 3 i0 (.int .i64 0) 1 8 Try.underlying38 hi hz0 hz1 hz2 rfl (by decide) _ _ _ rfl ((setCell_own hown (by omega) _).alloc _) ⟨wr.heap.size, 0, none⟩ 1 1 [.int .i64 0] rfl rfl ?c1 ?c2 ?c3 ?c4 ?c5 ?_)
              case c1 => exact new_one (by simp)
              case c2 => intro u hu; simp at hu; subst hu; rfl
              case c3 => have := preO_le s a b c d k; unfold maxLen; omega
              case c4 => have := preO_le s a b c d k; omega
              case c5 => simp; omega
              intro v' w1 hown' hgrow _
              have T := ordHit0 R hb1 E.out hh hown' hgrow
              have cx1 : w1.cell? ⟨w.heap.size + 2, 0, none⟩ = some (.int .i64 (xv s a 0 k)) := by
                refine (World.cell?_of_block (hgrow.block (w.heap.size + 2) (by simp; omega) ?_)).trans ?_
                · intro hh2; have := (R.own.lt _ hh2.symm).1; omega
                · rw [World.cell?_alloc_past _ _ _ (by simp; omega), World.cell?_setCell_other _ _ _ _ (by simp)]; exact cx
              have fx1 : w1.frozen? ⟨w.heap.size + 2, 0, none⟩ = false := by
                refine (World.frozen?_of_block (hgrow.block (w.heap.size + 2) (by simp; omega) ?_)).trans ?_
                · intro hh2; have := (R.own.lt _ hh2.symm).1; omega
                · rw [World.frozen?_alloc_past _ _ _ (by simp; omega), World.frozen?_setCell]; exact fx
              clear hown' hgrow hown cq fq cx fx R
              have T2 := Lib.hid T.2
              have T1 := T.1
              clear T e
              go_wp2
              go_roundw
              case rel => exact ⟨k + 1, by omega, by go_num, by rw [T2.out], T1⟩
              case measure => simp [intOf]; omega
            · have T := ordMiss0 R hb1 E.out hh
              have T2 := Lib.hid T.2
              have T1 := T.1
              clear T
              go_wp2
              go_roundw
              case rel => exact ⟨k + 1, by omega, by go_num, by rw [T2.out], T1⟩
              case measure => simp [intOf]; omega
          · have E := Lib.hid e
            have cq : wr.cell? ⟨w.heap.size, 1, none⟩ = some (.int .i64 (qv s b 1 k)) := by rw [cell_of_row _ _ _ _ _ _ R.q]; rfl
            have fq : wr.frozen? ⟨w.heap.size, 1, none⟩ = false := frozen_of_row _ _ _ _ _ R.q
            have cx : wr.cell? ⟨w.heap.size + 2, 1, none⟩ = some (.int .i64 (xv s b 1 k)) := by rw [cell_of_row _ _ _ _ _ _ R.x]; rfl
            have fx : wr.frozen? ⟨w.heap.size + 2, 1, none⟩ = false := frozen_of_row _ _ _ _ _ R.x
            by_cases hh : 0 < qv s b 1 k
            · go_wp2_with (at_builtin; refine wpList_append_own _ rfl _ _ 38 rfl (w.heap.size + 3) 3 i0 (.int .i64 0) 1 8 Try.underlying38 hi hz0 hz1 hz2 rfl (by decide) _ _ _ rfl ((setCell_own hown (by omega) _).alloc _) ⟨wr.heap.size, 0, none⟩ 1 1 [.int .i64 1] rfl rfl ?c1 ?c2 ?c3 ?c4 ?c5 ?_)
              case c1 => exact new_one (by simp)
              case c2 => intro u hu; simp at hu; subst hu; rfl
              case c3 => have := preO_le s a b c d k; unfold maxLen; omega
              case c4 => have := preO_le s a b c d k; omega
              case c5 => simp; omega
              intro v' w1 hown' hgrow _
              have T := ordHit1 R hb1 E.out hh hown' hgrow
              have cx1 : w1.cell? ⟨w.heap.size + 2, 1, none⟩ = some (.int .i64 (xv s b 1 k)) := by
                refine (World.cell?_of_block (hgrow.block (w.heap.size + 2) (by simp; omega) ?_)).trans ?_
                · intro hh2; have := (R.own.lt _ hh2.symm).1; omega
                · rw [World.cell?_alloc_past _ _ _ (by simp; omega), World.cell?_setCell_other _ _ _ _ (by simp)]; exact cx
              have fx1 : w1.frozen? ⟨w.heap.size + 2, 1, none⟩ = false := by
                refine (World.frozen?_of_block (hgrow.block (w.heap.size + 2) (by simp; omega) ?_)).trans ?_
                · intro hh2; have := (R.own.lt _ hh2.symm).1; omega
                · rw [World.frozen?_alloc_past _ _ _ (by simp; omega), World.frozen?_setCell]; exact fx
              clear hown' hgrow hown cq fq cx fx R
              have T2 := Lib.hid T.2
              have T1 := T.1
              clear T e
              go_wp2
              go_roundw
              case rel => exact ⟨k + 1, by omega, by go_num, by rw [T2.out], T1⟩
              case measure => simp [intOf]; omega
            · have T := ordMiss1 R hb1 E.out hh
              have T2 := Lib.hid T.2
              have T1 := T.1
              clear T
              go_wp2
              go_roundw
              case rel => exact ⟨k + 1, by omega, by go_num, by rw [T2.out], T1⟩
              case measure => simp [intOf]; omega
          · have E := Lib.hid e
            have cq : wr.cell? ⟨w.heap.size, 2, none⟩ = some (.int .i64 (qv s c 2 k)) := by rw [cell_of_row _ _ _ _ _ _ R.q]; rfl
            have fq : wr.frozen? ⟨w.heap.size, 2, none⟩ = false := frozen_of_row _ _ _ _ _ R.q
            have cx : wr.cell? ⟨w.heap.size + 2, 2, none⟩ = some (.int .i64 (xv s c 2 k)) := by rw [cell_of_row _ _ _ _ _ _ R.x]; rfl
            have fx : wr.frozen? ⟨w.heap.size + 2, 2, none⟩ = false := frozen_of_row _ _ _ _ _ R.x
            by_cases hh : 0 < qv s c 2 k
            · go_wp2_with (at_builtin; refine wpList_append_own _ rfl _ _ 38 rfl (w.heap.size + 3) 3 i0 (.int .i64 0) 1 8 Try.underlying38 hi hz0 hz1 hz2 rfl (by decide) _ _ _ rfl ((setCell_own hown (by omega) _).alloc _) ⟨wr.heap.size, 0, none⟩ 1 1 [.int .i64 2] rfl rfl ?c1 ?c2 ?c3 ?c4 ?c5 ?_)
              case c1 => exact new_one (by simp)
              case c2 => intro u hu; simp at hu; subst hu; rfl
              case c3 => have := preO_le s a b c d k; unfold maxLen; omega
              case c4 => have := preO_le s a b c d k; omega
              case c5 => simp; omega
              intro v' w1 hown' hgrow _
              have T := ordHit2 R hb1 E.out hh hown' hgrow
              have cx1 : w1.cell? ⟨w.heap.size + 2, 2, none⟩ = some (.int .i64 (xv s c 2 k)) := by
                refine (World.cell?_of_block (hgrow.block (w.heap.size + 2) (by simp; omega) ?_)).trans ?_
                · intro hh2; have := (R.own.lt _ hh2.symm).1; omega
                · rw [World.cell?_alloc_past _ _ _ (by simp; omega), World.cell?_setCell_other _ _ _ _ (by simp)]; exact cx
              have fx1 : w1.frozen? ⟨w.heap.size + 2, 2, none⟩ = false := by
                refine (World.frozen?_of_block (hgrow.block (w.heap.size + 2) (by simp; omega) ?_)).trans ?_
                · intro hh2; have := (R.own.lt _ hh2.symm).1; omega
                · rw [World.frozen?_alloc_past _ _ _ (by simp; omega), World.frozen?_setCell]; exact fx
              clear hown' hgrow hown cq fq cx fx R
              have T2 := Lib.hid T.2
              have T1 := T.1
              clear T e
              go_wp2
              go_roundw
              case rel => exact ⟨k + 1, by omega, by go_num, by rw [T2.out], T1⟩
              case measure => simp [intOf]; omega
            · have T := ordMiss2 R hb1 E.out hh
              have T2 := Lib.hid T.2
              have T1 := T.1
              clear T
              go_wp2
              go_roundw
              case rel => exact ⟨k + 1, by omega, by go_num, by rw [T2.out], T1⟩
              case measure => simp [intOf]; omega
          · have E := Lib.hid e
            have cq : wr.cell? ⟨w.heap.size, 3, none⟩ = some (.int .i64 (qv s d 3 k)) := by rw [cell_of_row _ _ _ _ _ _ R.q]; rfl
            have fq : wr.frozen? ⟨w.heap.size, 3, none⟩ = false := frozen_of_row _ _ _ _ _ R.q
            have cx : wr.cell? ⟨w.heap.size + 2, 3, none⟩ = some (.int .i64 (xv s d 3 k)) := by rw [cell_of_row _ _ _ _ _ _ R.x]; rfl
            have fx : wr.frozen? ⟨w.heap.size + 2, 3, none⟩ = false := frozen_of_row _ _ _ _ _ R.x
            by_cases hh : 0 < qv s d 3 k
            · go_wp2_with (at_builtin; refine wpList_append_own _ rfl _ _ 38 rfl (w.heap.size + 3) 3 i0 (.int .i64 0) 1 8 Try.underlying38 hi hz0 hz1 hz2 rfl (by decide) _ _ _ rfl ((setCell_own hown (by omega) _).alloc _) ⟨wr.heap.size, 0, none⟩ 1 1 [.int .i64 3] rfl rfl ?c1 ?c2 ?c3 ?c4 ?c5 ?_)
              case c1 => exact new_one (by simp)
              case c2 => intro u hu; simp at hu; subst hu; rfl
              case c3 => have := preO_le s a b c d k; unfold maxLen; omega
              case c4 => have := preO_le s a b c d k; omega
              case c5 => simp; omega
              intro v' w1 hown' hgrow _
              have T := ordHit3 R hb1 E.out hh hown' hgrow
              have cx1 : w1.cell? ⟨w.heap.size + 2, 3, none⟩ = some (.int .i64 (xv s d 3 k)) := by
                refine (World.cell?_of_block (hgrow.block (w.heap.size + 2) (by simp; omega) ?_)).trans ?_
                · intro hh2; have := (R.own.lt _ hh2.symm).1; omega
                · rw [World.cell?_alloc_past _ _ _ (by simp; omega), World.cell?_setCell_other _ _ _ _ (by simp)]; exact cx
              have fx1 : w1.frozen? ⟨w.heap.size + 2, 3, none⟩ = false := by
                refine (World.frozen?_of_block (hgrow.block (w.heap.size + 2) (by simp; omega) ?_)).trans ?_
                · intro hh2; have := (R.own.lt _ hh2.symm).1; omega
                · rw [World.frozen?_alloc_past _ _ _ (by simp; omega), World.frozen?_setCell]; exact fx
              clear hown' hgrow hown cq fq cx fx R
              have T2 := Lib.hid T.2
              have T1 := T.1
              clear T e
              go_wp2
              go_roundw
              case rel => exact ⟨k + 1, by omega, by go_num, by rw [T2.out], T1⟩
              case measure => simp [intOf]; omega
            · have T := ordMiss3 R hb1 E.out hh
              have T2 := Lib.hid T.2
              have T1 := T.1
              clear T
              go_wp2
              go_roundw
              case rel => exact ⟨k + 1, by omega, by go_num, by rw [T2.out], T1⟩
              case measure => simp [intOf]; omega
        · have z0 : ¬ 0 < qv s a 0 k := by unfold leftO at hl; omega
          have z1 : ¬ 0 < qv s b 1 k := by unfold leftO at hl; omega
          have z2 : ¬ 0 < qv s c 2 k := by unfold leftO at hl; omega
          have z3 : ¬ 0 < qv s d 3 k := by unfold leftO at hl; omega
          have hst := preO_stays hb1 z0 z1 z2 z3 (32 - k)
          rw [show k + (32 - k) = 32 by omega] at hst
          have X := R.x
          rw [xv_end hb1 hb2 (by omega) (by omega) (by omega) z0, xv_end hb1 hb2 (by omega) (by omega) (by omega) z1, xv_end hb1 hb2 (by omega) (by omega) (by omega) z2, xv_end hb1 hb2 (by omega) (by omega) (by omega) z3] at X
          clear z0 z1 z2 z3
          have HST := Lib.hid hst
          clear hst n0 n1 n2 n3 hL
          have cx0 : wr.cell? ⟨w.heap.size + 1 + 1, 0, none⟩ = some (.int .i64 (wait1 s 0 a)) := by rw [cell_of_row _ _ _ _ _ _ X]; rfl
          have cx1 : wr.cell? ⟨w.heap.size + 1 + 1, 1, none⟩ = some (.int .i64 (wait1 s 1 b)) := by rw [cell_of_row _ _ _ _ _ _ X]; rfl
          have cx2 : wr.cell? ⟨w.heap.size + 1 + 1, 2, none⟩ = some (.int .i64 (wait1 s 2 c)) := by rw [cell_of_row _ _ _ _ _ _ X]; rfl
          have cx3 : wr.cell? ⟨w.heap.size + 1 + 1, 3, none⟩ = some (.int .i64 (wait1 s 3 d)) := by rw [cell_of_row _ _ _ _ _ _ X]; rfl
          have cz0 : wr.cell? ⟨w.heap.size + 1, 0, none⟩ = some (.int .i64 0) := by rw [cell_of_row _ _ _ _ _ _ R.z]; rfl
          have cz1 : wr.cell? ⟨w.heap.size + 1, 1, none⟩ = some (.int .i64 0) := by rw [cell_of_row _ _ _ _ _ _ R.z]; rfl
          have cz2 : wr.cell? ⟨w.heap.size + 1, 2, none⟩ = some (.int .i64 0) := by rw [cell_of_row _ _ _ _ _ _ R.z]; rfl
          have cz3 : wr.cell? ⟨w.heap.size + 1, 3, none⟩ = some (.int .i64 0) := by rw [cell_of_row _ _ _ _ _ _ R.z]; rfl
          have fz0 : wr.frozen? ⟨w.heap.size + 1, 0, none⟩ = false := frozen_of_row _ _ _ _ _ R.z
          have fz1 : wr.frozen? ⟨w.heap.size + 1, 1, none⟩ = false := frozen_of_row _ _ _ _ _ R.z
          have fz2 : wr.frozen? ⟨w.heap.size + 1, 2, none⟩ = false := frozen_of_row _ _ _ _ _ R.z
          have fz3 : wr.frozen? ⟨w.heap.size + 1, 3, none⟩ = false := frozen_of_row _ _ _ _ _ R.z
          go_wp2
          go_region
          all_goals
            go_wp2
            refine bodyPost_ret (v := .tuple #[u6, .agg #[.int .i64 (wait1 s 0 a), .int .i64 (wait1 s 1 b), .int .i64 (wait1 s 2 c), .int .i64 (wait1 s 3 d)]]) (by simp [results, Try.results31, go_sem, cz0, cz1, cz2, cz3]) rfl ⟨_, rfl, ?_, ?_⟩
            · refine own_drew (own_mono ?_ (show w.heap.size ≤ w.heap.size + 3 by omega))
              rw [HST.out]
              exact setCell_own (setCell_own (setCell_own (setCell_own R.own (by omega) _) (by omega) _) (by omega) _) (by omega) _
            · exact ((((R.below.setCell (p := ⟨w.heap.size + 1, 0, none⟩) (Nat.le_succ _) _).setCell (p := ⟨w.heap.size + 1, 1, none⟩) (Nat.le_succ _) _).setCell (p := ⟨w.heap.size + 1, 2, none⟩) (Nat.le_succ _) _).setCell (p := ⟨w.heap.size + 1, 3, none⟩) (Nat.le_succ _) _).drew
end Go.Proofs.Ytppndeoiifkkkaa
