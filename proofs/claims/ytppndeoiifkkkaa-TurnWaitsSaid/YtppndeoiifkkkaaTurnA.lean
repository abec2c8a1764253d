/- Layer 42 (turn): each function's contract, plain numbers alone. -/
import Derived.Test.YtppndeoiifkkkaaBase
namespace Go.Proofs.Ytppndeoiifkkkaa
open Go.RowKit

def slottedB (n : Int) : Bool := decide (0 ≤ n) && decide (n ≤ 1099511627776)
theorem slottedB_iff (n : Int) : slottedB n = true ↔ 0 ≤ n ∧ n ≤ 1099511627776 := by simp [slottedB]
theorem slottedB_not (n : Int) : slottedB n = false ↔ ¬ (0 ≤ n ∧ n ≤ 1099511627776) := by rw [← slottedB_iff]; simp
theorem slotted_c (n : Int) (w : World) : Calls Try.prog 94 #[.int .i64 n] w fun e w' => e = .returned (.bool (slottedB n)) ∧ w = w' := by
  by_cases h1 : 0 ≤ n
  · by_cases h2 : n ≤ 1099511627776
    · go_enter Try.func94, Try.ntmps94
      go_wp2
      go_ret
      exact ⟨ret_true ((slottedB_iff n).2 (by omega)), rfl⟩
    · go_enter Try.func94, Try.ntmps94
      go_wp2
      go_ret
      exact ⟨ret_false ((slottedB_not n).2 (by omega)), rfl⟩
  · go_enter Try.func94, Try.ntmps94
    go_wp2
    go_ret
    exact ⟨ret_false ((slottedB_not n).2 (by omega)), rfl⟩

def rightB (s t : Int) : Bool := slottedB s && (decide (0 ≤ t) && decide (t < 4))
theorem rightB_iff (s t : Int) : rightB s t = true ↔ (0 ≤ s ∧ s ≤ 1099511627776) ∧ 0 ≤ t ∧ t < 4 := by simp [rightB, slottedB]
theorem rightB_not (s t : Int) : rightB s t = false ↔ ¬ ((0 ≤ s ∧ s ≤ 1099511627776) ∧ 0 ≤ t ∧ t < 4) := by rw [← rightB_iff]; simp
theorem right_c (s t : Int) (w : World) : Calls Try.prog 93 #[.int .i64 s, .int .i64 t] w fun e w' => e = .returned (.bool (rightB s t)) ∧ w = w' := by
  by_cases h1 : slottedB s = true
  · have g1 := (slottedB_iff s).1 h1
    by_cases h2 : 0 ≤ t
    · by_cases h3 : t < 4
      · go_enter Try.func93, Try.ntmps93
        go_wp2_with (go_at_call 94; refine (slotted_c _ _).mono ?_; rintro e w' ⟨rfl, rfl⟩)
        go_ret
        exact ⟨ret_true ((rightB_iff s t).2 (by omega)), rfl⟩
      · go_enter Try.func93, Try.ntmps93
        go_wp2_with (go_at_call 94; refine (slotted_c _ _).mono ?_; rintro e w' ⟨rfl, rfl⟩)
        go_ret
        exact ⟨ret_bool (by rw [(rightB_not s t).2 (by omega)]; simp; omega), rfl⟩
    · go_enter Try.func93, Try.ntmps93
      go_wp2_with (go_at_call 94; refine (slotted_c _ _).mono ?_; rintro e w' ⟨rfl, rfl⟩)
      go_ret
      exact ⟨ret_false ((rightB_not s t).2 (by omega)), rfl⟩
  · have h1' : slottedB s = false := by simpa using h1
    have g1 := (slottedB_not s).1 h1'
    clear h1
    go_enter Try.func93, Try.ntmps93
    go_wp2_with (go_at_call 94; refine (slotted_c _ _).mono ?_; rintro e w' ⟨rfl, rfl⟩)
    go_ret
    exact ⟨ret_false ((rightB_not s t).2 (by omega)), rfl⟩

def nextF (s t : Int) : Int := if rightB s t = true then s + (t - s % 4 + 4) % 4 else -1
theorem nextF_pos {s t : Int} (h : rightB s t = true) : nextF s t = s + (t - s % 4 + 4) % 4 := if_pos h
theorem nextF_neg {s t : Int} (h : rightB s t = false) : nextF s t = -1 := if_neg (by simp [h])
theorem next_c (s t : Int) (w : World) : Calls Try.prog 23 #[.int .i64 s, .int .i64 t] w fun e w' => e = .returned (.int .i64 (nextF s t)) ∧ w = w' := by
  by_cases h : rightB s t = true
  · have hb := (rightB_iff s t).1 h
    obtain ⟨⟨h1, h2⟩, h3, h4⟩ := hb
    go_enter Try.func23, Try.ntmps23
    go_wp2_with (go_at_call 93; refine (right_c _ _ _).mono ?_; rintro e w' ⟨rfl, rfl⟩)
    go_ret
    exact ⟨ret_int (by rw [nextF_pos h]; omega), rfl⟩
  · have h' : rightB s t = false := by simpa using h
    clear h
    go_enter Try.func23, Try.ntmps23
    go_wp2_with (go_at_call 93; refine (right_c _ _ _).mono ?_; rintro e w' ⟨rfl, rfl⟩)
    go_ret
    exact ⟨ret_int (by rw [nextF_neg h']), rfl⟩

def atF (s t a : Int) : Int := if rightB s t = true ∧ 0 ≤ a ∧ a ≤ 1048576 then s + (t - s % 4 + 4) % 4 + a * 4 else -1
theorem at_c (s t a : Int) (w : World) : Calls Try.prog 24 #[.int .i64 s, .int .i64 t, .int .i64 a] w fun e w' => e = .returned (.int .i64 (atF s t a)) ∧ w = w' := by
  by_cases h : rightB s t = true
  · have hb := (rightB_iff s t).1 h
    obtain ⟨⟨h1, h2⟩, h3, h4⟩ := hb
    have hn := nextF_pos h
    have hn0 : (nextF s t == -1) = false := by rw [hn, beq_eq_false_iff_ne]; omega
    have hn1 : 0 ≤ nextF s t := by omega
    have hn2 : nextF s t ≤ 1099511627780 := by omega
    have HN := Lib.hid hn
    clear hn
    by_cases ha : 0 ≤ a
    · by_cases hb : a ≤ 1048576
      · go_enter Try.func24, Try.ntmps24
        go_wp2_with (go_at_call 23; refine (next_c _ _ _).mono ?_; rintro e w' ⟨rfl, rfl⟩)
        go_ret
        exact ⟨ret_int (by unfold atF; rw [if_pos ⟨h, ha, hb⟩]; have := HN.out; omega), rfl⟩
      · go_enter Try.func24, Try.ntmps24
        go_wp2_with (go_at_call 23; refine (next_c _ _ _).mono ?_; rintro e w' ⟨rfl, rfl⟩)
        go_ret
        exact ⟨ret_int (by unfold atF; rw [if_neg (by omega)]), rfl⟩
    · go_enter Try.func24, Try.ntmps24
      go_wp2_with (go_at_call 23; refine (next_c _ _ _).mono ?_; rintro e w' ⟨rfl, rfl⟩)
      go_ret
      exact ⟨ret_int (by unfold atF; rw [if_neg (by omega)]), rfl⟩
  · have h' : rightB s t = false := by simpa using h
    clear h
    have hn := nextF_neg h'
    have hn0 : (nextF s t == -1) = true := by rw [hn]; rfl
    clear hn
    go_enter Try.func24, Try.ntmps24
    go_wp2_with (go_at_call 23; refine (next_c _ _ _).mono ?_; rintro e w' ⟨rfl, rfl⟩)
    go_ret
    exact ⟨ret_int (by unfold atF; rw [if_neg (by simp [h'])]), rfl⟩

def servedF (s k t : Int) : Int := if rightB s t = true ∧ slottedB k = true then (if (t - s % 4 + 4) % 4 < k then (k - (t - s % 4 + 4) % 4 - 1) / 4 + 1 else 0) else -1
theorem served_c (s k t : Int) (w : World) : Calls Try.prog 25 #[.int .i64 s, .int .i64 k, .int .i64 t] w fun e w' => e = .returned (.int .i64 (servedF s k t)) ∧ w = w' := by
  by_cases h : rightB s t = true
  · have hb := (rightB_iff s t).1 h
    obtain ⟨⟨h1, h2⟩, h3, h4⟩ := hb
    have hn := nextF_pos h
    have hn1 : s ≤ nextF s t := by omega
    have hn2 : nextF s t ≤ s + 3 := by omega
    have HN := Lib.hid hn
    clear hn
    by_cases hk : slottedB k = true
    · have gk := (slottedB_iff k).1 hk
      obtain ⟨k1, k2⟩ := gk
      by_cases hf : nextF s t - s < k
      · go_enter Try.func25, Try.ntmps25
        go_wp2_with (first | (go_at_call 93; refine (right_c _ _ _).mono ?_; rintro e w' ⟨rfl, rfl⟩) | (go_at_call 94; refine (slotted_c _ _).mono ?_; rintro e w' ⟨rfl, rfl⟩) | (go_at_call 23; refine (next_c _ _ _).mono ?_; rintro e w' ⟨rfl, rfl⟩))
        go_ret
        exact ⟨ret_int (by unfold servedF; rw [if_pos ⟨h, hk⟩]; have := HN.out; rw [if_pos (by omega)]; omega), rfl⟩
      · go_enter Try.func25, Try.ntmps25
        go_wp2_with (first | (go_at_call 93; refine (right_c _ _ _).mono ?_; rintro e w' ⟨rfl, rfl⟩) | (go_at_call 94; refine (slotted_c _ _).mono ?_; rintro e w' ⟨rfl, rfl⟩) | (go_at_call 23; refine (next_c _ _ _).mono ?_; rintro e w' ⟨rfl, rfl⟩))
        go_ret
        exact ⟨ret_int (by unfold servedF; rw [if_pos ⟨h, hk⟩]; have := HN.out; rw [if_neg (by omega)]), rfl⟩
    · have hk' : slottedB k = false := by simpa using hk
      clear hk
      go_enter Try.func25, Try.ntmps25
      go_wp2_with (first | (go_at_call 93; refine (right_c _ _ _).mono ?_; rintro e w' ⟨rfl, rfl⟩) | (go_at_call 94; refine (slotted_c _ _).mono ?_; rintro e w' ⟨rfl, rfl⟩))
      go_ret
      exact ⟨ret_int (by unfold servedF; rw [if_neg (by simp [hk'])]), rfl⟩
  · have h' : rightB s t = false := by simpa using h
    clear h
    go_enter Try.func25, Try.ntmps25
    go_wp2_with (first | (go_at_call 93; refine (right_c _ _ _).mono ?_; rintro e w' ⟨rfl, rfl⟩) | (go_at_call 94; refine (slotted_c _ _).mono ?_; rintro e w' ⟨rfl, rfl⟩))
    go_ret
    exact ⟨ret_int (by unfold servedF; rw [if_neg (by simp [h'])]), rfl⟩

/-! ### The document's -/
theorem refRight_c (s t : Int) (w : World) : Calls Try.prog 26 #[.int .i64 s, .int .i64 t] w fun e w' => e = .returned (.bool (rightB s t)) ∧ w = w' := by
  by_cases h0 : 0 ≤ s
  · by_cases h1 : s ≤ 1099511627776
    · by_cases h2 : 0 ≤ t
      · by_cases h3 : t < 4
        · go_enter Try.func26, Try.ntmps26
          go_wp2
          go_ret
          exact ⟨ret_true ((rightB_iff s t).2 (by omega)), rfl⟩
        · go_enter Try.func26, Try.ntmps26
          go_wp2
          go_ret
          exact ⟨ret_false ((rightB_not s t).2 (by omega)), rfl⟩
      · go_enter Try.func26, Try.ntmps26
        go_wp2
        go_ret
        exact ⟨ret_false ((rightB_not s t).2 (by omega)), rfl⟩
    · go_enter Try.func26, Try.ntmps26
      go_wp2
      go_ret
      exact ⟨ret_false ((rightB_not s t).2 (by omega)), rfl⟩
  · go_enter Try.func26, Try.ntmps26
    go_wp2
    go_ret
    exact ⟨ret_false ((rightB_not s t).2 (by omega)), rfl⟩

theorem refAt_c (s t a : Int) (w : World) (h1 : 0 ≤ s) (h2 : s ≤ 1099511627776) (h3 : 0 ≤ t) (h4 : t < 4) (h5 : 0 ≤ a) (h6 : a ≤ 1048576) :
    Calls Try.prog 27 #[.int .i64 s, .int .i64 t, .int .i64 a] w fun e w' => e = .returned (.int .i64 (s + (t - s % 4 + 4) % 4 + a * 4)) ∧ w = w' := by
  generalize hr : s + (t - s % 4 + 4) % 4 + a * 4 = r
  have HR := Lib.hid hr
  clear hr
  go_enter Try.func27, Try.ntmps27
  go_wp2
  go_loop [0, 2] (fun x y => ∃ s' a' : Int, 0 ≤ s' ∧ 0 ≤ a' ∧ s' ≤ 1099515822084 ∧ a' ≤ 1048576 ∧ s' + (t - s' % 4 + 4) % 4 + a' * 4 = r ∧ x = .int .i64 s' ∧ y = .int .i64 a') (fun x _ => (r + 1 - intOf x).toNat)
  case atStart => exact ⟨s, a, h1, h5, by omega, h6, HR.out, rfl, rfl⟩
  case round =>
    obtain ⟨s', a', g1, g2, g3, g4, g5, rfl, rfl⟩ := hrel
    have hr := HR.out
    have b1 : s' ≤ 1099515822083 := by omega
    clear hr
    by_cases hs : s' % 4 = t
    · have hs' : (s' % 4 == t) = true := by simpa using hs
      have ht : (t - t + 4) % 4 = 0 := by omega
      by_cases ha : a' = 0
      · have ha' : (a' == 0) = true := by simpa using ha
        have G := Lib.hid g5
        have S := Lib.hid hs
        have A := Lib.hid ha
        clear g5 hs ha ht
        go_wp2
        go_ret
        exact ⟨ret_int (by have := G.out; have := S.out; have := A.out; omega), rfl⟩
      · have ha' : (a' == 0) = false := by simpa using ha
        have G := Lib.hid g5
        have S := Lib.hid hs
        have a1 : 1 ≤ a' := by omega
        clear g5 hs ha ht
        go_wp2
        go_round
        case rel => exact ⟨s' + 1, a' - 1, by omega, by omega, by omega, by omega, by have := G.out; have := S.out; omega, rfl, rfl⟩
        case measure => have := G.out; have := S.out; simp [intOf]; omega
    · have hs' : (s' % 4 == t) = false := by simpa using hs
      have G := Lib.hid g5
      have S := Lib.hid hs
      clear g5 hs
      go_wp2
      go_round
      case rel => exact ⟨s' + 1, a', by omega, by omega, by omega, by omega, by have := G.out; have := S.out; omega, rfl, rfl⟩
      case measure => have := G.out; have := S.out; simp [intOf]; omega

theorem refServed_c (s k t : Int) (w : World) (h1 : 0 ≤ s) (h2 : s ≤ 1099511627776) (h3 : 0 ≤ t) (h4 : t < 4) (h5 : 0 ≤ k) (h6 : k ≤ 2000) :
    Calls Try.prog 28 #[.int .i64 s, .int .i64 k, .int .i64 t] w fun e w' => e = .returned (.int .i64 ((k - (t - s % 4 + 4) % 4 + 3) / 4)) ∧ w = w' := by
  go_enter Try.func28, Try.ntmps28
  go_wp2
  go_loop [7, 8] (fun n i => ∃ j : Int, 0 ≤ j ∧ j ≤ k ∧ i = .int .i64 j ∧ n = .int .i64 ((j - (t - s % 4 + 4) % 4 + 3) / 4)) (fun _ i => (k - intOf i).toNat)
  case atStart => exact ⟨0, by omega, by omega, rfl, by congr 1; omega⟩
  case round =>
    obtain ⟨j, g1, g2, rfl, rfl⟩ := hrel
    by_cases hj : j < k
    · generalize hm : (j - (t - s % 4 + 4) % 4 + 3) / 4 = m
      have m0 : 0 ≤ m := by omega
      have m1 : m ≤ 2000 := by omega
      have M := Lib.hid hm
      clear hm
      by_cases hs : (s + j) % 4 = t
      · have hs' : ((s + j) % 4 == t) = true := by simpa using hs
        have S := Lib.hid hs
        clear hs
        go_wp2
        go_round
        case rel => exact ⟨j + 1, by omega, by omega, rfl, by congr 1; have := S.out; have := M.out; omega⟩
        case measure => simp [intOf]; omega
      · have hs' : ((s + j) % 4 == t) = false := by simpa using hs
        have S := Lib.hid hs
        clear hs
        go_wp2
        go_round
        case rel => exact ⟨j + 1, by omega, by omega, rfl, by congr 1; have := S.out; have := M.out; omega⟩
        case measure => simp [intOf]; omega
    · have hk : j = k := by omega
      have K := Lib.hid hk
      clear hk
      go_wp2
      go_ret
      exact ⟨ret_int (by rw [K.out]), rfl⟩
end Go.Proofs.Ytppndeoiifkkkaa
