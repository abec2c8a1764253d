/- Layer 42 (turn): the laws TurnTells and TurnWaits, walked. -/
import Derived.Test.YtppndeoiifkkkaaTurnG
namespace Go.Proofs.Ytppndeoiifkkkaa
open Go.RowKit
set_option linter.unusedVariables false
def refAtF (s t a : Int) : Int := s + (t - s % 4 + 4) % 4 + a * 4
def refServedF (s k t : Int) : Int := (k - (t - s % 4 + 4) % 4 + 3) / 4

set_option maxHeartbeats 4000000 in
theorem turnTells_w (s t a k : Int) (w : World) : Calls Try.prog 4 #[.int .i64 s, .int .i64 t, .int .i64 a, .int .i64 k] w fun e w' => e = .returned (.bool true) ∧ Below w.heap.size w w' := by
  by_cases hr : rightB s t = true
  · obtain ⟨⟨h1, h2⟩, h3, h4⟩ := (rightB_iff s t).1 hr
    have cA : ∀ (x : Int) (W : World), 0 ≤ x → x ≤ 1048576 → Calls Try.prog 27 #[.int .i64 s, .int .i64 t, .int .i64 x] W fun e w' => e = .returned (.int .i64 (refAtF s t x)) ∧ W = w' := fun x W g1 g2 => refAt_c s t x W h1 h2 h3 h4 g1 g2
    have cS : ∀ (W : World), 0 ≤ k → k ≤ 2000 → Calls Try.prog 28 #[.int .i64 s, .int .i64 k, .int .i64 t] W fun e w' => e = .returned (.int .i64 (refServedF s k t)) ∧ W = w' := fun W g1 g2 => refServed_c s k t W h1 h2 h3 h4 g1 g2
    have CA := Lib.hid cA
    have CS := Lib.hid cS
    clear cA cS
    have e1 : (nextF s t == refAtF s t 0) = true := by rw [nextF_pos hr, beq_iff_eq]; unfold refAtF; omega
    have e1' : (nextF s t != refAtF s t 0) = false := by rw [bne, e1]; rfl
    by_cases ha : 0 ≤ a
    · by_cases ha2 : a ≤ 1048576
      · have e2 : (atF s t a == refAtF s t a) = true := by unfold atF refAtF; rw [if_pos ⟨hr, ha, ha2⟩]; simp
        have e2' : (atF s t a != refAtF s t a) = false := by rw [bne, e2]; rfl
        by_cases ha3 : a ≤ 500
        · skip
          by_cases hk : 0 ≤ k
          · by_cases hk2 : k ≤ 1099511627776
            · by_cases hk3 : k ≤ 2000
              · have e3 : (servedF s k t == refServedF s k t) = true := by
                  rw [beq_iff_eq]; unfold servedF refServedF; rw [if_pos ⟨hr, (slottedB_iff k).2 ⟨hk, hk2⟩⟩]; split <;> omega
                go_enter Try.func4, Try.ntmps4
                go_wp2_with fail
                refine (fixed42_c _).mono ?_
                rintro e x1 ⟨rfl, hb1⟩
                go_wp2_with (first | (go_at_call 23; refine (next_c _ _ _).mono ?_; rintro e w' ⟨rfl, rfl⟩) | (go_at_call 24; refine (at_c _ _ _ _).mono ?_; rintro e w' ⟨rfl, rfl⟩) | (go_at_call 25; refine (served_c _ _ _ _).mono ?_; rintro e w' ⟨rfl, rfl⟩) | (go_at_call 26; refine (refRight_c _ _ _).mono ?_; rintro e w' ⟨rfl, rfl⟩) | (go_at_call 27; refine (CA.out _ _ (by omega) (by omega)).mono ?_; rintro e w' ⟨rfl, rfl⟩) | (go_at_call 28; refine (CS.out _ (by omega) (by omega)).mono ?_; rintro e w' ⟨rfl, rfl⟩))
                go_ret
                exact ⟨rfl, hb1⟩
              · go_enter Try.func4, Try.ntmps4
                go_wp2_with fail
                refine (fixed42_c _).mono ?_
                rintro e x1 ⟨rfl, hb1⟩
                go_wp2_with (first | (go_at_call 23; refine (next_c _ _ _).mono ?_; rintro e w' ⟨rfl, rfl⟩) | (go_at_call 24; refine (at_c _ _ _ _).mono ?_; rintro e w' ⟨rfl, rfl⟩) | (go_at_call 25; refine (served_c _ _ _ _).mono ?_; rintro e w' ⟨rfl, rfl⟩) | (go_at_call 26; refine (refRight_c _ _ _).mono ?_; rintro e w' ⟨rfl, rfl⟩) | (go_at_call 27; refine (CA.out _ _ (by omega) (by omega)).mono ?_; rintro e w' ⟨rfl, rfl⟩) | (go_at_call 28; refine (CS.out _ (by omega) (by omega)).mono ?_; rintro e w' ⟨rfl, rfl⟩))
                go_ret
                exact ⟨rfl, hb1⟩
            · have e3 : (servedF s k t == -1) = true := by rw [beq_iff_eq]; unfold servedF; rw [if_neg (fun h => by have := (slottedB_iff k).1 h.2; omega)]
              go_enter Try.func4, Try.ntmps4
              go_wp2_with fail
              refine (fixed42_c _).mono ?_
              rintro e x1 ⟨rfl, hb1⟩
              go_wp2_with (first | (go_at_call 23; refine (next_c _ _ _).mono ?_; rintro e w' ⟨rfl, rfl⟩) | (go_at_call 24; refine (at_c _ _ _ _).mono ?_; rintro e w' ⟨rfl, rfl⟩) | (go_at_call 25; refine (served_c _ _ _ _).mono ?_; rintro e w' ⟨rfl, rfl⟩) | (go_at_call 26; refine (refRight_c _ _ _).mono ?_; rintro e w' ⟨rfl, rfl⟩) | (go_at_call 27; refine (CA.out _ _ (by omega) (by omega)).mono ?_; rintro e w' ⟨rfl, rfl⟩) | (go_at_call 28; refine (CS.out _ (by omega) (by omega)).mono ?_; rintro e w' ⟨rfl, rfl⟩))
              go_ret
              exact ⟨rfl, hb1⟩
          · have e3 : (servedF s k t == -1) = true := by rw [beq_iff_eq]; unfold servedF; rw [if_neg (fun h => by have := (slottedB_iff k).1 h.2; omega)]
            go_enter Try.func4, Try.ntmps4
            go_wp2_with fail
            refine (fixed42_c _).mono ?_
            rintro e x1 ⟨rfl, hb1⟩
            go_wp2_with (first | (go_at_call 23; refine (next_c _ _ _).mono ?_; rintro e w' ⟨rfl, rfl⟩) | (go_at_call 24; refine (at_c _ _ _ _).mono ?_; rintro e w' ⟨rfl, rfl⟩) | (go_at_call 25; refine (served_c _ _ _ _).mono ?_; rintro e w' ⟨rfl, rfl⟩) | (go_at_call 26; refine (refRight_c _ _ _).mono ?_; rintro e w' ⟨rfl, rfl⟩) | (go_at_call 27; refine (CA.out _ _ (by omega) (by omega)).mono ?_; rintro e w' ⟨rfl, rfl⟩) | (go_at_call 28; refine (CS.out _ (by omega) (by omega)).mono ?_; rintro e w' ⟨rfl, rfl⟩))
            go_ret
            exact ⟨rfl, hb1⟩
        · skip
          by_cases hk : 0 ≤ k
          · by_cases hk2 : k ≤ 1099511627776
            · by_cases hk3 : k ≤ 2000
              · have e3 : (servedF s k t == refServedF s k t) = true := by
                  rw [beq_iff_eq]; unfold servedF refServedF; rw [if_pos ⟨hr, (slottedB_iff k).2 ⟨hk, hk2⟩⟩]; split <;> omega
                go_enter Try.func4, Try.ntmps4
                go_wp2_with fail
                refine (fixed42_c _).mono ?_
                rintro e x1 ⟨rfl, hb1⟩
                go_wp2_with (first | (go_at_call 23; refine (next_c _ _ _).mono ?_; rintro e w' ⟨rfl, rfl⟩) | (go_at_call 24; refine (at_c _ _ _ _).mono ?_; rintro e w' ⟨rfl, rfl⟩) | (go_at_call 25; refine (served_c _ _ _ _).mono ?_; rintro e w' ⟨rfl, rfl⟩) | (go_at_call 26; refine (refRight_c _ _ _).mono ?_; rintro e w' ⟨rfl, rfl⟩) | (go_at_call 27; refine (CA.out _ _ (by omega) (by omega)).mono ?_; rintro e w' ⟨rfl, rfl⟩) | (go_at_call 28; refine (CS.out _ (by omega) (by omega)).mono ?_; rintro e w' ⟨rfl, rfl⟩))
                go_ret
                exact ⟨rfl, hb1⟩
              · go_enter Try.func4, Try.ntmps4
                go_wp2_with fail
                refine (fixed42_c _).mono ?_
                rintro e x1 ⟨rfl, hb1⟩
                go_wp2_with (first | (go_at_call 23; refine (next_c _ _ _).mono ?_; rintro e w' ⟨rfl, rfl⟩) | (go_at_call 24; refine (at_c _ _ _ _).mono ?_; rintro e w' ⟨rfl, rfl⟩) | (go_at_call 25; refine (served_c _ _ _ _).mono ?_; rintro e w' ⟨rfl, rfl⟩) | (go_at_call 26; refine (refRight_c _ _ _).mono ?_; rintro e w' ⟨rfl, rfl⟩) | (go_at_call 27; refine (CA.out _ _ (by omega) (by omega)).mono ?_; rintro e w' ⟨rfl, rfl⟩) | (go_at_call 28; refine (CS.out _ (by omega) (by omega)).mono ?_; rintro e w' ⟨rfl, rfl⟩))
                go_ret
                exact ⟨rfl, hb1⟩
            · have e3 : (servedF s k t == -1) = true := by rw [beq_iff_eq]; unfold servedF; rw [if_neg (fun h => by have := (slottedB_iff k).1 h.2; omega)]
              go_enter Try.func4, Try.ntmps4
              go_wp2_with fail
              refine (fixed42_c _).mono ?_
              rintro e x1 ⟨rfl, hb1⟩
              go_wp2_with (first | (go_at_call 23; refine (next_c _ _ _).mono ?_; rintro e w' ⟨rfl, rfl⟩) | (go_at_call 24; refine (at_c _ _ _ _).mono ?_; rintro e w' ⟨rfl, rfl⟩) | (go_at_call 25; refine (served_c _ _ _ _).mono ?_; rintro e w' ⟨rfl, rfl⟩) | (go_at_call 26; refine (refRight_c _ _ _).mono ?_; rintro e w' ⟨rfl, rfl⟩) | (go_at_call 27; refine (CA.out _ _ (by omega) (by omega)).mono ?_; rintro e w' ⟨rfl, rfl⟩) | (go_at_call 28; refine (CS.out _ (by omega) (by omega)).mono ?_; rintro e w' ⟨rfl, rfl⟩))
              go_ret
              exact ⟨rfl, hb1⟩
          · have e3 : (servedF s k t == -1) = true := by rw [beq_iff_eq]; unfold servedF; rw [if_neg (fun h => by have := (slottedB_iff k).1 h.2; omega)]
            go_enter Try.func4, Try.ntmps4
            go_wp2_with fail
            refine (fixed42_c _).mono ?_
            rintro e x1 ⟨rfl, hb1⟩
            go_wp2_with (first | (go_at_call 23; refine (next_c _ _ _).mono ?_; rintro e w' ⟨rfl, rfl⟩) | (go_at_call 24; refine (at_c _ _ _ _).mono ?_; rintro e w' ⟨rfl, rfl⟩) | (go_at_call 25; refine (served_c _ _ _ _).mono ?_; rintro e w' ⟨rfl, rfl⟩) | (go_at_call 26; refine (refRight_c _ _ _).mono ?_; rintro e w' ⟨rfl, rfl⟩) | (go_at_call 27; refine (CA.out _ _ (by omega) (by omega)).mono ?_; rintro e w' ⟨rfl, rfl⟩) | (go_at_call 28; refine (CS.out _ (by omega) (by omega)).mono ?_; rintro e w' ⟨rfl, rfl⟩))
            go_ret
            exact ⟨rfl, hb1⟩
      · have e2 : (atF s t a == -1) = true := by unfold atF; rw [if_neg (by omega)]; rfl
        have e2' : (atF s t a != -1) = false := by rw [bne, e2]; rfl
        by_cases hk : 0 ≤ k
        · by_cases hk2 : k ≤ 1099511627776
          · by_cases hk3 : k ≤ 2000
            · have e3 : (servedF s k t == refServedF s k t) = true := by
                rw [beq_iff_eq]; unfold servedF refServedF; rw [if_pos ⟨hr, (slottedB_iff k).2 ⟨hk, hk2⟩⟩]; split <;> omega
              go_enter Try.func4, Try.ntmps4
              go_wp2_with fail
              refine (fixed42_c _).mono ?_
              rintro e x1 ⟨rfl, hb1⟩
              go_wp2_with (first | (go_at_call 23; refine (next_c _ _ _).mono ?_; rintro e w' ⟨rfl, rfl⟩) | (go_at_call 24; refine (at_c _ _ _ _).mono ?_; rintro e w' ⟨rfl, rfl⟩) | (go_at_call 25; refine (served_c _ _ _ _).mono ?_; rintro e w' ⟨rfl, rfl⟩) | (go_at_call 26; refine (refRight_c _ _ _).mono ?_; rintro e w' ⟨rfl, rfl⟩) | (go_at_call 27; refine (CA.out _ _ (by omega) (by omega)).mono ?_; rintro e w' ⟨rfl, rfl⟩) | (go_at_call 28; refine (CS.out _ (by omega) (by omega)).mono ?_; rintro e w' ⟨rfl, rfl⟩))
              go_ret
              exact ⟨rfl, hb1⟩
            · go_enter Try.func4, Try.ntmps4
              go_wp2_with fail
              refine (fixed42_c _).mono ?_
              rintro e x1 ⟨rfl, hb1⟩
              go_wp2_with (first | (go_at_call 23; refine (next_c _ _ _).mono ?_; rintro e w' ⟨rfl, rfl⟩) | (go_at_call 24; refine (at_c _ _ _ _).mono ?_; rintro e w' ⟨rfl, rfl⟩) | (go_at_call 25; refine (served_c _ _ _ _).mono ?_; rintro e w' ⟨rfl, rfl⟩) | (go_at_call 26; refine (refRight_c _ _ _).mono ?_; rintro e w' ⟨rfl, rfl⟩) | (go_at_call 27; refine (CA.out _ _ (by omega) (by omega)).mono ?_; rintro e w' ⟨rfl, rfl⟩) | (go_at_call 28; refine (CS.out _ (by omega) (by omega)).mono ?_; rintro e w' ⟨rfl, rfl⟩))
              go_ret
              exact ⟨rfl, hb1⟩
          · have e3 : (servedF s k t == -1) = true := by rw [beq_iff_eq]; unfold servedF; rw [if_neg (fun h => by have := (slottedB_iff k).1 h.2; omega)]
            go_enter Try.func4, Try.ntmps4
            go_wp2_with fail
            refine (fixed42_c _).mono ?_
            rintro e x1 ⟨rfl, hb1⟩
            go_wp2_with (first | (go_at_call 23; refine (next_c _ _ _).mono ?_; rintro e w' ⟨rfl, rfl⟩) | (go_at_call 24; refine (at_c _ _ _ _).mono ?_; rintro e w' ⟨rfl, rfl⟩) | (go_at_call 25; refine (served_c _ _ _ _).mono ?_; rintro e w' ⟨rfl, rfl⟩) | (go_at_call 26; refine (refRight_c _ _ _).mono ?_; rintro e w' ⟨rfl, rfl⟩) | (go_at_call 27; refine (CA.out _ _ (by omega) (by omega)).mono ?_; rintro e w' ⟨rfl, rfl⟩) | (go_at_call 28; refine (CS.out _ (by omega) (by omega)).mono ?_; rintro e w' ⟨rfl, rfl⟩))
            go_ret
            exact ⟨rfl, hb1⟩
        · have e3 : (servedF s k t == -1) = true := by rw [beq_iff_eq]; unfold servedF; rw [if_neg (fun h => by have := (slottedB_iff k).1 h.2; omega)]
          go_enter Try.func4, Try.ntmps4
          go_wp2_with fail
          refine (fixed42_c _).mono ?_
          rintro e x1 ⟨rfl, hb1⟩
          go_wp2_with (first | (go_at_call 23; refine (next_c _ _ _).mono ?_; rintro e w' ⟨rfl, rfl⟩) | (go_at_call 24; refine (at_c _ _ _ _).mono ?_; rintro e w' ⟨rfl, rfl⟩) | (go_at_call 25; refine (served_c _ _ _ _).mono ?_; rintro e w' ⟨rfl, rfl⟩) | (go_at_call 26; refine (refRight_c _ _ _).mono ?_; rintro e w' ⟨rfl, rfl⟩) | (go_at_call 27; refine (CA.out _ _ (by omega) (by omega)).mono ?_; rintro e w' ⟨rfl, rfl⟩) | (go_at_call 28; refine (CS.out _ (by omega) (by omega)).mono ?_; rintro e w' ⟨rfl, rfl⟩))
          go_ret
          exact ⟨rfl, hb1⟩
    · have e2 : (atF s t a == -1) = true := by unfold atF; rw [if_neg (by omega)]; rfl
      have e2' : (atF s t a != -1) = false := by rw [bne, e2]; rfl
      by_cases hk : 0 ≤ k
      · by_cases hk2 : k ≤ 1099511627776
        · by_cases hk3 : k ≤ 2000
          · have e3 : (servedF s k t == refServedF s k t) = true := by
              rw [beq_iff_eq]; unfold servedF refServedF; rw [if_pos ⟨hr, (slottedB_iff k).2 ⟨hk, hk2⟩⟩]; split <;> omega
            go_enter Try.func4, Try.ntmps4
            go_wp2_with fail
            refine (fixed42_c _).mono ?_
            rintro e x1 ⟨rfl, hb1⟩
            go_wp2_with (first | (go_at_call 23; refine (next_c _ _ _).mono ?_; rintro e w' ⟨rfl, rfl⟩) | (go_at_call 24; refine (at_c _ _ _ _).mono ?_; rintro e w' ⟨rfl, rfl⟩) | (go_at_call 25; refine (served_c _ _ _ _).mono ?_; rintro e w' ⟨rfl, rfl⟩) | (go_at_call 26; refine (refRight_c _ _ _).mono ?_; rintro e w' ⟨rfl, rfl⟩) | (go_at_call 27; refine (CA.out _ _ (by omega) (by omega)).mono ?_; rintro e w' ⟨rfl, rfl⟩) | (go_at_call 28; refine (CS.out _ (by omega) (by omega)).mono ?_; rintro e w' ⟨rfl, rfl⟩))
            go_ret
            exact ⟨rfl, hb1⟩
          · go_enter Try.func4, Try.ntmps4
            go_wp2_with fail
            refine (fixed42_c _).mono ?_
            rintro e x1 ⟨rfl, hb1⟩
            go_wp2_with (first | (go_at_call 23; refine (next_c _ _ _).mono ?_; rintro e w' ⟨rfl, rfl⟩) | (go_at_call 24; refine (at_c _ _ _ _).mono ?_; rintro e w' ⟨rfl, rfl⟩) | (go_at_call 25; refine (served_c _ _ _ _).mono ?_; rintro e w' ⟨rfl, rfl⟩) | (go_at_call 26; refine (refRight_c _ _ _).mono ?_; rintro e w' ⟨rfl, rfl⟩) | (go_at_call 27; refine (CA.out _ _ (by omega) (by omega)).mono ?_; rintro e w' ⟨rfl, rfl⟩) | (go_at_call 28; refine (CS.out _ (by omega) (by omega)).mono ?_; rintro e w' ⟨rfl, rfl⟩))
            go_ret
            exact ⟨rfl, hb1⟩
        · have e3 : (servedF s k t == -1) = true := by rw [beq_iff_eq]; unfold servedF; rw [if_neg (fun h => by have := (slottedB_iff k).1 h.2; omega)]
          go_enter Try.func4, Try.ntmps4
          go_wp2_with fail
          refine (fixed42_c _).mono ?_
          rintro e x1 ⟨rfl, hb1⟩
          go_wp2_with (first | (go_at_call 23; refine (next_c _ _ _).mono ?_; rintro e w' ⟨rfl, rfl⟩) | (go_at_call 24; refine (at_c _ _ _ _).mono ?_; rintro e w' ⟨rfl, rfl⟩) | (go_at_call 25; refine (served_c _ _ _ _).mono ?_; rintro e w' ⟨rfl, rfl⟩) | (go_at_call 26; refine (refRight_c _ _ _).mono ?_; rintro e w' ⟨rfl, rfl⟩) | (go_at_call 27; refine (CA.out _ _ (by omega) (by omega)).mono ?_; rintro e w' ⟨rfl, rfl⟩) | (go_at_call 28; refine (CS.out _ (by omega) (by omega)).mono ?_; rintro e w' ⟨rfl, rfl⟩))
          go_ret
          exact ⟨rfl, hb1⟩
      · have e3 : (servedF s k t == -1) = true := by rw [beq_iff_eq]; unfold servedF; rw [if_neg (fun h => by have := (slottedB_iff k).1 h.2; omega)]
        go_enter Try.func4, Try.ntmps4
        go_wp2_with fail
        refine (fixed42_c _).mono ?_
        rintro e x1 ⟨rfl, hb1⟩
        go_wp2_with (first | (go_at_call 23; refine (next_c _ _ _).mono ?_; rintro e w' ⟨rfl, rfl⟩) | (go_at_call 24; refine (at_c _ _ _ _).mono ?_; rintro e w' ⟨rfl, rfl⟩) | (go_at_call 25; refine (served_c _ _ _ _).mono ?_; rintro e w' ⟨rfl, rfl⟩) | (go_at_call 26; refine (refRight_c _ _ _).mono ?_; rintro e w' ⟨rfl, rfl⟩) | (go_at_call 27; refine (CA.out _ _ (by omega) (by omega)).mono ?_; rintro e w' ⟨rfl, rfl⟩) | (go_at_call 28; refine (CS.out _ (by omega) (by omega)).mono ?_; rintro e w' ⟨rfl, rfl⟩))
        go_ret
        exact ⟨rfl, hb1⟩
  · have hr' : rightB s t = false := by simpa using hr
    clear hr
    have e1 : (nextF s t == -1) = true := by rw [nextF_neg hr']; rfl
    have e2 : (atF s t a == -1) = true := by unfold atF; rw [if_neg (by simp [hr'])]; rfl
    have e3 : (servedF s k t == -1) = true := by unfold servedF; rw [if_neg (by simp [hr'])]; rfl
    go_enter Try.func4, Try.ntmps4
    go_wp2_with fail
    refine (fixed42_c _).mono ?_
    rintro e x1 ⟨rfl, hb1⟩
    go_wp2_with (first | (go_at_call 23; refine (next_c _ _ _).mono ?_; rintro e w' ⟨rfl, rfl⟩) | (go_at_call 24; refine (at_c _ _ _ _).mono ?_; rintro e w' ⟨rfl, rfl⟩) | (go_at_call 25; refine (served_c _ _ _ _).mono ?_; rintro e w' ⟨rfl, rfl⟩) | (go_at_call 26; refine (refRight_c _ _ _).mono ?_; rintro e w' ⟨rfl, rfl⟩))
    go_ret
    exact ⟨rfl, hb1⟩
end Go.Proofs.Ytppndeoiifkkkaa
