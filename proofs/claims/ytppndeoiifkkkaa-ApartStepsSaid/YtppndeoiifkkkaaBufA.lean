/- Layer 13 (buffer): contracts. -/
import Derived.Test.YtppndeoiifkkkaaWWords
import Derived.Test.YtppndeoiifkkkaaBase
namespace Go.Proofs.Ytppndeoiifkkkaa
open Go.RowKit Go.Proofs.YtppndeoiifkkkaaW.PrintWords
set_option linter.unusedVariables false
structure Chg where
  place : Int
  kind : Int
  data : ByteArray
def Chg.val (c : Chg) : Value := .agg #[.int .i64 c.place, .int .i64 c.kind, .string c.data]
def Chg.zero : Chg := ⟨0, 0, ByteArray.empty⟩
def bufC (r : Nat → Chg) (f n : Nat) : Array Value :=
  #[.int .i64 (r 0).place, .int .i64 (r 0).kind, .string (r 0).data, .int .i64 (r 1).place, .int .i64 (r 1).kind, .string (r 1).data,
    .int .i64 (r 2).place, .int .i64 (r 2).kind, .string (r 2).data, .int .i64 (r 3).place, .int .i64 (r 3).kind, .string (r 3).data, .int .i64 f, .int .i64 n]
def BufAt (w : World) (g : Nat) (r : Nat → Chg) (f n : Nat) : Prop := w.heap[g]? = some (.cells (bufC r f n) 155 (0, 0)) ∧ f < 4 ∧ n ≤ 4
theorem BufAt.cf {w : World} {g f n : Nat} {r : Nat → Chg} (h : BufAt w g r f n) : w.cell? ⟨g, 12, none⟩ = some (.int .i64 f) := by rw [cell_of_row _ _ _ _ _ _ h.1]; rfl
theorem BufAt.cn {w : World} {g f n : Nat} {r : Nat → Chg} (h : BufAt w g r f n) : w.cell? ⟨g, 13, none⟩ = some (.int .i64 n) := by rw [cell_of_row _ _ _ _ _ _ h.1]; rfl
theorem len_c (g f n : Nat) (r : Nat → Chg) (w : World) (h : BufAt w g r f n) : Calls Try.prog 39 #[.pointer (some ⟨g, 0, none⟩)] w fun e w' => e = .returned (.int .i64 n) ∧ w = w' := by
  have hn := h.cn
  go_enter Try.func39, Try.ntmps39
  go_wp2
  go_ret
  exact ⟨rfl, rfl⟩
theorem at_c (g f : Nat) (i : Int) (w : World) (hf : w.cell? ⟨g, 12, none⟩ = some (.int .i64 f)) (hf4 : f < 4) (h0 : 0 ≤ i) (hi : i ≤ 4) : Calls Try.prog 97 #[.pointer (some ⟨g, 0, none⟩), .int .i64 i] w fun e w' => e = .returned (.pointer (some ⟨g, (f + i.toNat) % 4 * 3, none⟩)) ∧ ∃ m, w' = w.drewN m := by
  obtain ⟨i, rfl⟩ := Int.eq_ofNat_of_zero_le h0
  have b0 : (0 : Int) ≤ ((f : Int) + (i : Int)) % 4 := by omega
  have b1 : ((f : Int) + (i : Int)) % 4 < 4 := by omega
  rw [Int.toNat_natCast]
  go_enter Try.func97, Try.ntmps97
  go_wp2
  go_quiet (fail)
  go_wp2
  go_ret
  exact ⟨rfl, _, rfl⟩
theorem full_c (g f n : Nat) (r : Nat → Chg) (w : World) (h : BufAt w g r f n) : Calls Try.prog 40 #[.pointer (some ⟨g, 0, none⟩)] w fun e w' => e = .returned (.bool (decide (n = 4))) ∧ w = w' := by
  have hn := h.cn
  by_cases h4 : n = 4
  · have hd : ((n : Int) == 4) = true := by rw [beq_iff_eq]; omega
    have H4 := Lib.hid h4
    clear h4
    go_enter Try.func40, Try.ntmps40
    go_wp2
    go_ret
    exact ⟨ret_bool (by rw [decide_eq_true H4.out]), rfl⟩
  · have hd : ((n : Int) == 4) = false := by rw [beq_eq_false_iff_ne]; omega
    have H4 := Lib.hid h4
    clear h4
    go_enter Try.func40, Try.ntmps40
    go_wp2
    go_ret
    exact ⟨ret_bool (by rw [decide_eq_false H4.out]), rfl⟩
theorem new_c (w : World) : Calls Try.prog 33 #[] w fun e w' => e = .returned (.pointer (some ⟨w.heap.size, 0, none⟩)) ∧ BufAt w' w.heap.size (fun _ => Chg.zero) 0 0 ∧ Below w.heap.size w w' := by
  go_enter Try.func33, Try.ntmps33
  go_wp2
  go_ret
  exact ⟨rfl, ⟨heap_alloc_new _ _, by omega, by omega⟩, (Below.refl _ _).alloc (Nat.le_refl _) _⟩
theorem lenNil_c (w : World) : Calls Try.prog 39 #[.pointer none] w fun e w' => e = .returned (.int .i64 0) ∧ w = w' := by
  go_enter Try.func39, Try.ntmps39
  go_wp2
  go_ret
  exact ⟨rfl, rfl⟩
theorem fullNil_c (w : World) : Calls Try.prog 40 #[.pointer none] w fun e w' => e = .returned (.bool true) ∧ w = w' := by
  go_enter Try.func40, Try.ntmps40
  go_wp2
  go_ret
  exact ⟨rfl, rfl⟩
def chk3 (p kd : Int) (z : Nat) : Int := if kd ≠ 1 ∧ kd ≠ 2 then 1 else if p < 0 ∨ 64 ≤ p ∨ (kd = 2 ∧ z ≠ 0) then 1 else if 16 < z then 3 else 0
def chkF (c : Chg) : Int := chk3 c.place c.kind c.data.size
theorem toList_nil {d : ByteArray} (h : d.size = 0) : d.toList = [] := by rw [ByteArray.toList_eq]; exact List.length_eq_zero_iff.1 (by simpa using h)
theorem toList_ne {d : ByteArray} (h : ¬ d.size = 0) : d.toList.isEmpty = false := by
  rw [ByteArray.toList_eq]
  have : d.data.toList ≠ [] := fun e => h (by rw [← ByteArray.size_data, ← Array.length_toList, e]; rfl)
  simpa using this
theorem check_c (p kd : Int) (d : ByteArray) (w : World) : Calls Try.prog 96 #[.agg #[.int .i64 p, .int .i64 kd, .string d]] w fun e w' => e = .returned (.int .i64 (chk3 p kd d.size)) ∧ Below w.heap.size w w' := by
  by_cases k1 : kd = 1
  · subst k1
    by_cases hp : p < 0
    · go_enter Try.func96, Try.ntmps96
      go_wp2
      go_ret
      exact ⟨ret_int (by unfold chk3; rw [if_neg (by omega), if_pos (by omega)]), (Below.refl _ _).alloc (Nat.le_refl _) _⟩
    · by_cases hp2 : 64 ≤ p
      · go_enter Try.func96, Try.ntmps96
        go_wp2
        go_ret
        exact ⟨ret_int (by unfold chk3; rw [if_neg (by omega), if_pos (by omega)]), (Below.refl _ _).alloc (Nat.le_refl _) _⟩
      · by_cases hd : 16 < d.size
        · go_enter Try.func96, Try.ntmps96
          go_wp2
          go_ret
          exact ⟨ret_int (by unfold chk3; rw [if_neg (by omega), if_neg (by omega), if_pos hd]), (Below.refl _ _).alloc (Nat.le_refl _) _⟩
        · go_enter Try.func96, Try.ntmps96
          go_wp2
          go_ret
          exact ⟨ret_int (by unfold chk3; rw [if_neg (by omega), if_neg (by omega), if_neg (by omega)]), (Below.refl _ _).alloc (Nat.le_refl _) _⟩
  · by_cases k2 : kd = 2
    · subst k2
      by_cases hp : p < 0
      · go_enter Try.func96, Try.ntmps96
        go_wp2
        go_ret
        exact ⟨ret_int (by unfold chk3; rw [if_neg (by omega), if_pos (by omega)]), (Below.refl _ _).alloc (Nat.le_refl _) _⟩
      · by_cases hp2 : 64 ≤ p
        · go_enter Try.func96, Try.ntmps96
          go_wp2
          go_ret
          exact ⟨ret_int (by unfold chk3; rw [if_neg (by omega), if_pos (by omega)]), (Below.refl _ _).alloc (Nat.le_refl _) _⟩
        · by_cases hd : d.size = 0
          · have e1 := toList_nil hd
            have e2 : (!d.toList.isEmpty) = false := by rw [e1]; rfl
            have e3 : d.toList.isEmpty = true := by rw [e1]; rfl
            have hd2 : ¬ 16 < d.size := by omega
            clear e1
            have HD := Lib.hid hd
            clear hd
            go_enter Try.func96, Try.ntmps96
            go_wp2
            go_ret
            exact ⟨ret_int (by unfold chk3; have := HD.out; rw [if_neg (by omega), if_neg (by omega), if_neg (by omega)]), (Below.refl _ _).alloc (Nat.le_refl _) _⟩
          · have e3 := toList_ne hd
            have e2 : (!d.toList.isEmpty) = true := by rw [e3]; rfl
            go_enter Try.func96, Try.ntmps96
            go_wp2
            go_ret
            exact ⟨ret_int (by unfold chk3; rw [if_neg (by omega), if_pos (by omega)]), (Below.refl _ _).alloc (Nat.le_refl _) _⟩
    · have n1 : (kd != 1) = true := by rw [bne_iff_ne]; exact k1
      have n2 : (kd != 2) = true := by rw [bne_iff_ne]; exact k2
      go_enter Try.func96, Try.ntmps96
      go_wp2
      go_ret
      exact ⟨ret_int (by unfold chk3; rw [if_pos ⟨k1, k2⟩]), (Below.refl _ _).alloc (Nat.le_refl _) _⟩
theorem refCheck_c (p kd : Int) (d : ByteArray) (w : World) : Calls Try.prog 34 #[.int .i64 p, .int .i64 kd, .string d] w fun e w' => e = .returned (.int .i64 (chk3 p kd d.size)) ∧ w = w' := by
  by_cases k1 : kd = 1
  · subst k1
    by_cases hp : p < 0
    · go_enter Try.func34, Try.ntmps34
      go_wp2
      go_ret
      exact ⟨ret_int (by unfold chk3; rw [if_neg (by omega), if_pos (by omega)]), rfl⟩
    · by_cases hp2 : 64 ≤ p
      · go_enter Try.func34, Try.ntmps34
        go_wp2
        go_ret
        exact ⟨ret_int (by unfold chk3; rw [if_neg (by omega), if_pos (by omega)]), rfl⟩
      · by_cases hd : 16 < d.size
        · go_enter Try.func34, Try.ntmps34
          go_wp2
          go_ret
          exact ⟨ret_int (by unfold chk3; rw [if_neg (by omega), if_neg (by omega), if_pos hd]), rfl⟩
        · go_enter Try.func34, Try.ntmps34
          go_wp2
          go_ret
          exact ⟨ret_int (by unfold chk3; rw [if_neg (by omega), if_neg (by omega), if_neg (by omega)]), rfl⟩
  · by_cases k2 : kd = 2
    · subst k2
      by_cases hp : p < 0
      · go_enter Try.func34, Try.ntmps34
        go_wp2
        go_ret
        exact ⟨ret_int (by unfold chk3; rw [if_neg (by omega), if_pos (by omega)]), rfl⟩
      · by_cases hp2 : 64 ≤ p
        · go_enter Try.func34, Try.ntmps34
          go_wp2
          go_ret
          exact ⟨ret_int (by unfold chk3; rw [if_neg (by omega), if_pos (by omega)]), rfl⟩
        · by_cases hd : d.size = 0
          · have e1 := toList_nil hd
            have e2 : (!d.toList.isEmpty) = false := by rw [e1]; rfl
            have e3 : d.toList.isEmpty = true := by rw [e1]; rfl
            have hd2 : ¬ 16 < d.size := by omega
            clear e1
            have HD := Lib.hid hd
            clear hd
            go_enter Try.func34, Try.ntmps34
            go_wp2
            go_ret
            exact ⟨ret_int (by unfold chk3; have := HD.out; rw [if_neg (by omega), if_neg (by omega), if_neg (by omega)]), rfl⟩
          · have e3 := toList_ne hd
            have e2 : (!d.toList.isEmpty) = true := by rw [e3]; rfl
            go_enter Try.func34, Try.ntmps34
            go_wp2
            go_ret
            exact ⟨ret_int (by unfold chk3; rw [if_neg (by omega), if_pos (by omega)]), rfl⟩
    · have n1 : (kd != 1) = true := by rw [bne_iff_ne]; exact k1
      have n2 : (kd != 2) = true := by rw [bne_iff_ne]; exact k2
      go_enter Try.func34, Try.ntmps34
      go_wp2
      go_ret
      exact ⟨ret_int (by unfold chk3; rw [if_pos ⟨k1, k2⟩]), rfl⟩
end Go.Proofs.Ytppndeoiifkkkaa
