/- Layer 42 (turn): queues. -/
import Derived.Test.YtppndeoiifkkkaaTurnA
namespace Go.Proofs.Ytppndeoiifkkkaa
open Go.RowKit

def lenF (n : Int) : Int := if n < 0 then 0 else if 8 < n then 8 else n
theorem lenF_bd (n : Int) : 0 ≤ lenF n ∧ lenF n ≤ 8 := by unfold lenF; split <;> (try split) <;> omega
theorem length_c (n : Int) (w : World) : Calls Try.prog 95 #[.int .i64 n] w fun e w' => e = .returned (.int .i64 (lenF n)) ∧ w = w' := by
  by_cases h : n < 0
  · go_enter Try.func95, Try.ntmps95
    go_wp2
    go_ret
    exact ⟨ret_int (by unfold lenF; rw [if_pos h]), rfl⟩
  · by_cases h8 : 8 < n
    · go_enter Try.func95, Try.ntmps95
      go_wp2
      go_ret
      exact ⟨ret_int (by unfold lenF; rw [if_neg (by omega), if_pos h8]), rfl⟩
    · go_enter Try.func95, Try.ntmps95
      go_wp2
      go_ret
      exact ⟨ret_int (by unfold lenF; rw [if_neg (by omega), if_neg (by omega)]), rfl⟩

def wait1 (s t x : Int) : Int := if slottedB s = true then (if lenF x = 0 then 0 else atF s t (lenF x - 1) - s + 1) else -1
theorem wait1_no {s : Int} (t x : Int) (h : slottedB s = false) : wait1 s t x = -1 := by unfold wait1; rw [if_neg (by simp [h])]
theorem wait1_zero {s : Int} (t x : Int) (h : slottedB s = true) (h0 : lenF x = 0) : wait1 s t x = 0 := by unfold wait1; rw [if_pos h, if_pos h0]
theorem wait1_at {s : Int} (t x : Int) (h : slottedB s = true) (h0 : ¬ lenF x = 0) : wait1 s t x = atF s t (lenF x - 1) - s + 1 := by unfold wait1; rw [if_pos h, if_neg h0]
theorem atF_bd (s t a : Int) (h : 0 ≤ s) (h' : s ≤ 1099511627776) : -1 ≤ atF s t a ∧ atF s t a ≤ 1099515822083 := by
  unfold atF; split <;> omega

set_option maxRecDepth 100000 in
theorem waits_c (s a b c d : Int) (w : World) : Calls Try.prog 29 #[.int .i64 s, .agg #[.int .i64 a, .int .i64 b, .int .i64 c, .int .i64 d]] w fun e w' => e = .returned (.agg #[.int .i64 (wait1 s 0 a), .int .i64 (wait1 s 1 b), .int .i64 (wait1 s 2 c), .int .i64 (wait1 s 3 d)]) ∧ Below w.heap.size w w' := by
  have E := fun w => eql36 a b c d 0 0 0 0 w
  by_cases hs : slottedB s = true
  · have hb := (slottedB_iff s).1 hs
    obtain ⟨hb1, hb2⟩ := hb
    by_cases hz : ([a, b, c, d] == [0, 0, 0, 0]) = true
    · rw [hz] at E
      simp at hz
      obtain ⟨rfl, rfl, rfl, rfl⟩ := hz
      go_enter Try.func29, Try.ntmps29
      go_wp2_with (go_at_call 94; refine (slotted_c _ _).mono ?_; rintro e w' ⟨rfl, rfl⟩)
      have hl : lenF 0 = 0 := rfl
      refine bodyPost_ret (v := .agg #[.int .i64 0, .int .i64 0, .int .i64 0, .int .i64 0]) (by simp [results, Try.results29, go_sem]) rfl ⟨?_, ?_⟩
      · rw [wait1_zero 0 0 hs hl, wait1_zero 1 0 hs hl, wait1_zero 2 0 hs hl, wait1_zero 3 0 hs hl]
      · exact (((Below.refl _ _).alloc (Nat.le_refl _) _).alloc (by simp) _)
    · have hz' : ([a, b, c, d] == [0, 0, 0, 0]) = false := by simpa using hz
      rw [hz'] at E
      clear hz hz'
      go_enter Try.func29, Try.ntmps29
      go_wp2_with (go_at_call 94; refine (slotted_c _ _).mono ?_; rintro e w' ⟨rfl, rfl⟩)
      clear E
      have i0 := fun w => idx36_0 (.int .i64 a) (.int .i64 b) (.int .i64 c) (.int .i64 d) w
      have i1 := fun w => idx36_1 (.int .i64 a) (.int .i64 b) (.int .i64 c) (.int .i64 d) w
      have i2 := fun w => idx36_2 (.int .i64 a) (.int .i64 b) (.int .i64 c) (.int .i64 d) w
      have i3 := fun w => idx36_3 (.int .i64 a) (.int .i64 b) (.int .i64 c) (.int .i64 d) w
      go_loopw [16] (fun i wr => ∃ k : Nat, k ≤ 4 ∧ i = .int .i64 k ∧ wr = (w.alloc (.cells #[.int .i64 (if 0 < k then wait1 s 0 a else a), .int .i64 (if 1 < k then wait1 s 1 b else b), .int .i64 (if 2 < k then wait1 s 2 c else c), .int .i64 (if 3 < k then wait1 s 3 d else d)] 36)).alloc (.cells #[.int .i64 0, .int .i64 0, .int .i64 0, .int .i64 0] 36)) (fun i _ => 4 - (intOf i).toNat)
      case atStart => exact ⟨0, by omega, rfl, rfl⟩
      case round =>
        obtain ⟨k, hk, rfl, rfl⟩ := hrel
        have hk5 : k = 0 ∨ k = 1 ∨ k = 2 ∨ k = 3 ∨ k = 4 := by omega
        rcases hk5 with rfl | rfl | rfl | rfl | rfl
        · have hl := lenF_bd a
          have ha := atF_bd s 0 (lenF a - 1) hb1 hb2
          by_cases h0 : (lenF a == 0) = true
          · go_wp2_with (first | (go_at_call 94; refine (slotted_c _ _).mono ?_; rintro e w' ⟨rfl, rfl⟩) | (go_at_call 95; refine (length_c _ _).mono ?_; rintro e w' ⟨rfl, rfl⟩))
            go_roundw
            case rel => exact ⟨1, by omega, by go_num, by simp [wait1_zero 0 a hs (by simpa using h0)]⟩
            case measure => simp [intOf]
          · have h0' : (lenF a == 0) = false := by simpa using h0
            have hl1 : 1 ≤ lenF a := by simp at h0'; omega
            clear h0
            go_wp2_with (first | (go_at_call 94; refine (slotted_c _ _).mono ?_; rintro e w' ⟨rfl, rfl⟩) | (go_at_call 95; refine (length_c _ _).mono ?_; rintro e w' ⟨rfl, rfl⟩) | (go_at_call 24; refine (at_c _ _ _ _).mono ?_; rintro e w' ⟨rfl, rfl⟩))
            go_roundw
            case rel => exact ⟨1, by omega, by go_num, by simp [wait1_at 0 a hs (by omega)]⟩
            case measure => simp [intOf]
        · have hl := lenF_bd b
          have ha := atF_bd s 1 (lenF b - 1) hb1 hb2
          by_cases h0 : (lenF b == 0) = true
          · go_wp2_with (first | (go_at_call 94; refine (slotted_c _ _).mono ?_; rintro e w' ⟨rfl, rfl⟩) | (go_at_call 95; refine (length_c _ _).mono ?_; rintro e w' ⟨rfl, rfl⟩))
            go_roundw
            case rel => exact ⟨2, by omega, by go_num, by simp [wait1_zero 1 b hs (by simpa using h0)]⟩
            case measure => simp [intOf]
          · have h0' : (lenF b == 0) = false := by simpa using h0
            have hl1 : 1 ≤ lenF b := by simp at h0'; omega
            clear h0
            go_wp2_with (first | (go_at_call 94; refine (slotted_c _ _).mono ?_; rintro e w' ⟨rfl, rfl⟩) | (go_at_call 95; refine (length_c _ _).mono ?_; rintro e w' ⟨rfl, rfl⟩) | (go_at_call 24; refine (at_c _ _ _ _).mono ?_; rintro e w' ⟨rfl, rfl⟩))
            go_roundw
            case rel => exact ⟨2, by omega, by go_num, by simp [wait1_at 1 b hs (by omega)]⟩
            case measure => simp [intOf]
        · have hl := lenF_bd c
          have ha := atF_bd s 2 (lenF c - 1) hb1 hb2
          by_cases h0 : (lenF c == 0) = true
          · go_wp2_with (first | (go_at_call 94; refine (slotted_c _ _).mono ?_; rintro e w' ⟨rfl, rfl⟩) | (go_at_call 95; refine (length_c _ _).mono ?_; rintro e w' ⟨rfl, rfl⟩))
            go_roundw
            case rel => exact ⟨3, by omega, by go_num, by simp [wait1_zero 2 c hs (by simpa using h0)]⟩
            case measure => simp [intOf]
          · have h0' : (lenF c == 0) = false := by simpa using h0
            have hl1 : 1 ≤ lenF c := by simp at h0'; omega
            clear h0
            go_wp2_with (first | (go_at_call 94; refine (slotted_c _ _).mono ?_; rintro e w' ⟨rfl, rfl⟩) | (go_at_call 95; refine (length_c _ _).mono ?_; rintro e w' ⟨rfl, rfl⟩) | (go_at_call 24; refine (at_c _ _ _ _).mono ?_; rintro e w' ⟨rfl, rfl⟩))
            go_roundw
            case rel => exact ⟨3, by omega, by go_num, by simp [wait1_at 2 c hs (by omega)]⟩
            case measure => simp [intOf]
        · have hl := lenF_bd d
          have ha := atF_bd s 3 (lenF d - 1) hb1 hb2
          by_cases h0 : (lenF d == 0) = true
          · go_wp2_with (first | (go_at_call 94; refine (slotted_c _ _).mono ?_; rintro e w' ⟨rfl, rfl⟩) | (go_at_call 95; refine (length_c _ _).mono ?_; rintro e w' ⟨rfl, rfl⟩))
            go_roundw
            case rel => exact ⟨4, by omega, by go_num, by simp [wait1_zero 3 d hs (by simpa using h0)]⟩
            case measure => simp [intOf]
          · have h0' : (lenF d == 0) = false := by simpa using h0
            have hl1 : 1 ≤ lenF d := by simp at h0'; omega
            clear h0
            go_wp2_with (first | (go_at_call 94; refine (slotted_c _ _).mono ?_; rintro e w' ⟨rfl, rfl⟩) | (go_at_call 95; refine (length_c _ _).mono ?_; rintro e w' ⟨rfl, rfl⟩) | (go_at_call 24; refine (at_c _ _ _ _).mono ?_; rintro e w' ⟨rfl, rfl⟩))
            go_roundw
            case rel => exact ⟨4, by omega, by go_num, by simp [wait1_at 3 d hs (by omega)]⟩
            case measure => simp [intOf]
        · go_wp2
          refine bodyPost_ret (v := .agg #[.int .i64 (wait1 s 0 a), .int .i64 (wait1 s 1 b), .int .i64 (wait1 s 2 c), .int .i64 (wait1 s 3 d)]) (by simp [results, Try.results29, go_sem]) rfl ⟨rfl, ?_⟩
          exact (((Below.refl _ _).alloc (Nat.le_refl _) _).alloc (by simp) _)
  · have hs' : slottedB s = false := by simpa using hs
    clear hs
    go_enter Try.func29, Try.ntmps29
    go_wp2_with (go_at_call 94; refine (slotted_c _ _).mono ?_; rintro e w' ⟨rfl, rfl⟩)
    clear E
    have i0 := fun w => idx36_0 (.int .i64 a) (.int .i64 b) (.int .i64 c) (.int .i64 d) w
    have i1 := fun w => idx36_1 (.int .i64 a) (.int .i64 b) (.int .i64 c) (.int .i64 d) w
    have i2 := fun w => idx36_2 (.int .i64 a) (.int .i64 b) (.int .i64 c) (.int .i64 d) w
    have i3 := fun w => idx36_3 (.int .i64 a) (.int .i64 b) (.int .i64 c) (.int .i64 d) w
    go_loopw [16] (fun i wr => ∃ k : Nat, k ≤ 4 ∧ i = .int .i64 k ∧ wr = (w.alloc (.cells #[.int .i64 (if 0 < k then wait1 s 0 a else a), .int .i64 (if 1 < k then wait1 s 1 b else b), .int .i64 (if 2 < k then wait1 s 2 c else c), .int .i64 (if 3 < k then wait1 s 3 d else d)] 36)).alloc (.cells #[.int .i64 0, .int .i64 0, .int .i64 0, .int .i64 0] 36)) (fun i _ => 4 - (intOf i).toNat)
    case atStart => exact ⟨0, by omega, rfl, rfl⟩
    case round =>
      obtain ⟨k, hk, rfl, rfl⟩ := hrel
      have hk5 : k = 0 ∨ k = 1 ∨ k = 2 ∨ k = 3 ∨ k = 4 := by omega
      rcases hk5 with rfl | rfl | rfl | rfl | rfl
      · go_wp2_with (first | (go_at_call 94; refine (slotted_c _ _).mono ?_; rintro e w' ⟨rfl, rfl⟩) | (go_at_call 95; refine (length_c _ _).mono ?_; rintro e w' ⟨rfl, rfl⟩))
        go_roundw
        case rel => exact ⟨1, by omega, by go_num, by simp [wait1_no 0 a hs']⟩
        case measure => simp [intOf]
      · go_wp2_with (first | (go_at_call 94; refine (slotted_c _ _).mono ?_; rintro e w' ⟨rfl, rfl⟩) | (go_at_call 95; refine (length_c _ _).mono ?_; rintro e w' ⟨rfl, rfl⟩))
        go_roundw
        case rel => exact ⟨2, by omega, by go_num, by simp [wait1_no 1 b hs']⟩
        case measure => simp [intOf]
      · go_wp2_with (first | (go_at_call 94; refine (slotted_c _ _).mono ?_; rintro e w' ⟨rfl, rfl⟩) | (go_at_call 95; refine (length_c _ _).mono ?_; rintro e w' ⟨rfl, rfl⟩))
        go_roundw
        case rel => exact ⟨3, by omega, by go_num, by simp [wait1_no 2 c hs']⟩
        case measure => simp [intOf]
      · go_wp2_with (first | (go_at_call 94; refine (slotted_c _ _).mono ?_; rintro e w' ⟨rfl, rfl⟩) | (go_at_call 95; refine (length_c _ _).mono ?_; rintro e w' ⟨rfl, rfl⟩))
        go_roundw
        case rel => exact ⟨4, by omega, by go_num, by simp [wait1_no 3 d hs']⟩
        case measure => simp [intOf]
      · go_wp2
        refine bodyPost_ret (v := .agg #[.int .i64 (wait1 s 0 a), .int .i64 (wait1 s 1 b), .int .i64 (wait1 s 2 c), .int .i64 (wait1 s 3 d)]) (by simp [results, Try.results29, go_sem]) rfl ⟨rfl, ?_⟩
        exact (((Below.refl _ _).alloc (Nat.le_refl _) _).alloc (by simp) _)
end Go.Proofs.Ytppndeoiifkkkaa
