/- Layer 28 (apart): Same; the fixed calls. -/
import Derived.Test.YtppndeoiifkkkaaApC
namespace Go.Proofs.Ytppndeoiifkkkaa
open Go.RowKit Go.Proofs.YtppndeoiifkkkaaW.PrintWords
set_option linter.unusedVariables false
theorem equal_nil (w : World) : Calls Try.prog 152 #[.slice none 0 0, .slice none 0 0] w fun e w' => e = .returned (.bool true) ∧ w = w' := by
  go_enter Try.func152, Try.ntmps152
  go_wp2_with fail
  refine wp_loop_rounds 1 ?_
  rw [rounds_succ]
  go_wp2
  go_ret
  exact ⟨rfl, rfl⟩
theorem equal_one (A : Option Addr) (c : Nat) (w : World) : Calls Try.prog 152 #[.slice none 0 0, .slice A 1 c] w fun e w' => e = .returned (.bool false) ∧ w = w' := by
  go_enter Try.func152, Try.ntmps152
  go_wp2
  go_ret
  exact ⟨rfl, rfl⟩
theorem same_nil (w : World) : Calls Try.prog 88 #[.slice none 0 0, .slice none 0 0] w fun e w' => e = .returned (.bool true) ∧ w = w' := by
  go_enter Try.func88, Try.ntmps88
  go_wp2_with (go_at_call 152; refine (equal_nil _).mono ?_; rintro e w' ⟨rfl, rfl⟩)
  go_ret
  exact ⟨rfl, rfl⟩
theorem same_one (A : Option Addr) (c : Nat) (w : World) : Calls Try.prog 88 #[.slice none 0 0, .slice A 1 c] w fun e w' => e = .returned (.bool false) ∧ w = w' := by
  go_enter Try.func88, Try.ntmps88
  go_wp2_with (go_at_call 152; refine (equal_one _ _ _).mono ?_; rintro e w' ⟨rfl, rfl⟩)
  go_ret
  exact ⟨rfl, rfl⟩
def fixL : List Stp := [⟨5, 1, 0, 0, 0, 0, 0, ⟨#[]⟩⟩, ⟨6, 0, 0, 1, 0, 0, 0, ⟨#[]⟩⟩, ⟨5, 2, 0, 0, 0, 0, 0, ⟨#[]⟩⟩]
def fixC : List Cmd := [⟨4, 0, ⟨#[]⟩⟩]
theorem fix_kept : (keptL 1 fixL).length = 2 := by decide
theorem fix_swap : (rowCells Stp.cs (swapF 2 fixC fixL).1)[21]? = some (.int .i64 4) := by rfl
theorem rowCells_lit {α : Type} (cs : α → List Value) (k : Nat) (hk : ∀ x, (cs x).length = k) (w : World) (l : List α) (e : Nat) (xs : Array Value) (hx : xs.toList = rowCells cs l) (hl : l.length ≤ maxLen) :
    Rd cs k (w.alloc (.cells xs e)) (.slice (some ⟨w.heap.size, 0, none⟩) l.length l.length) l := by
  have h := World.ownsRow_lit (base := w.heap.size) (e := e) (size := k) w xs l.length (Nat.le_refl _) hl (by rw [← Array.length_toList, hx, rowCells_len cs hk])
  rw [hx] at h
  exact Rd_of_own cs hk h rfl
set_option maxHeartbeats 1600000 in
set_option maxRecDepth 100000 in
theorem fixed28_c (w : World) : Calls Try.prog 19 #[] w fun e w' => e = .returned (.bool true) ∧ Below w.heap.size w w' := by
  have RL : ∀ W : World, Rd Stp.cs 8 (W.alloc (.cells #[.int .i64 5, .int .i64 1, .int .i64 0, .int .i64 0, .int .i64 0, .int .i64 0, .int .i64 0, .string ⟨#[]⟩, .int .i64 6, .int .i64 0, .int .i64 0, .int .i64 1, .int .i64 0, .int .i64 0, .int .i64 0, .string ⟨#[]⟩, .int .i64 5, .int .i64 2, .int .i64 0, .int .i64 0, .int .i64 0, .int .i64 0, .int .i64 0, .string ⟨#[]⟩] 28)) (.slice (some ⟨W.heap.size, 0, none⟩) 3 3) fixL := fun W => rowCells_lit Stp.cs 8 Stp.len W fixL 28 _ rfl (by decide)
  have RC : ∀ (W : World) (n : Nat), n = W.heap.size → Rd Cmd.cs 3 (W.alloc (.cells #[.int .i64 4, .int .i64 0, .string ⟨#[]⟩] 26)) (.slice (some ⟨n, 0, none⟩) 1 1) fixC := fun W n h => by subst h; exact rowCells_lit Cmd.cs 3 Cmd.len W fixC 26 _ rfl (by decide)
  have RL1 := RL w
  have RL2 := (RL1.below ((Below.refl _ _).alloc (Nat.le_refl _) (.cells #[.int .i64 4, .int .i64 0, .string ⟨#[]⟩] 26)))
  have RC2 := RC (w.alloc (.cells #[.int .i64 5, .int .i64 1, .int .i64 0, .int .i64 0, .int .i64 0, .int .i64 0, .int .i64 0, .string ⟨#[]⟩, .int .i64 6, .int .i64 0, .int .i64 0, .int .i64 1, .int .i64 0, .int .i64 0, .int .i64 0, .string ⟨#[]⟩, .int .i64 5, .int .i64 2, .int .i64 0, .int .i64 0, .int .i64 0, .int .i64 0, .int .i64 0, .string ⟨#[]⟩] 28)) (w.heap.size + 1) (by simp)
  have S := Lib.hid (swapped_c _ _ fixL fixC 2 _ (by decide) RL2 RC2 (by decide) (by decide))
  have HR := Lib.hid RL2
  clear RL RC RL1 RC2 RL2
  go_enter Try.func19, Try.ntmps19
  go_wp2_with fail
  refine S.out.mono ?_
  rintro e w1 ⟨v', rfl, hown, hb1⟩
  have hw0 : Below w.heap.size w w1 := (((Below.refl _ _).alloc (Nat.le_refl _) _).alloc (by simp) _).trans (hb1.mono (by simp; omega))
  obtain ⟨g, cap, rfl, hg1, hg2⟩ := hown.form (by decide)
  have h21 := hown.cellAt 21 (by decide)
  rw [fix_swap] at h21
  have W1 := Lib.hid (without_c _ fixL 1 _ (by decide) (HR.out.below hb1))
  clear S HR hb1 hown
  go_wp2_with fail
  refine W1.out.mono ?_
  rintro e w2 ⟨v2, rfl, hown2, hb2⟩
  rw [fix_kept] at hown2
  obtain ⟨A2, c2, rfl⟩ := own_slice hown2
  have h21' := keep_below hb2 h21
  clear h21 W1 hown2
  go_wp2_with fail
  refine (same_nil _).mono ?_
  rintro e w3 ⟨rfl, rfl⟩
  go_wp2_with fail
  refine (same_one _ _ _).mono ?_
  rintro e w3 ⟨rfl, rfl⟩
  go_wp2
  go_ret
  have b1 : Below w.heap.size w w2 := hw0.trans (hb2.mono hw0.size)
  exact ⟨rfl, b1.alloc b1.size _⟩
end Go.Proofs.Ytppndeoiifkkkaa
