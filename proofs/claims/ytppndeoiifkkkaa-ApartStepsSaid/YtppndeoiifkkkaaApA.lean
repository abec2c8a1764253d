/- Layer 28 (apart): steps; to, Without, Clone, Same. -/
import Derived.Test.YtppndeoiifkkkaaRow
namespace Go.Proofs.Ytppndeoiifkkkaa
open Go.RowKit Go.Proofs.YtppndeoiifkkkaaW.PrintWords
set_option linter.unusedVariables false
structure Stp where
  kind : Int
  tenant : Int
  other : Int
  a : Int
  b : Int
  op : Int
  place : Int
  data : ByteArray
def Stp.cs (s : Stp) : List Value := [.int .i64 s.kind, .int .i64 s.tenant, .int .i64 s.other, .int .i64 s.a, .int .i64 s.b, .int .i64 s.op, .int .i64 s.place, .string s.data]
theorem Stp.len (s : Stp) : s.cs.length = 8 := rfl
theorem Stp.one (s : Stp) : ∀ u ∈ s.cs, u.oneCell' = true := by
  intro u hu; simp [Stp.cs] at hu; rcases hu with rfl | rfl | rfl | rfl | rfl | rfl | rfl | rfl <;> rfl
def toB (s : Stp) (t : Int) : Bool := (s.kind == 5) && (s.tenant == t)
theorem Try.infos28 : (Try.prog.info? 28).map (fun i => (i.zero, i.size, i.bytes)) = some (some (.agg #[.int .i64 0, .int .i64 0, .int .i64 0, .int .i64 0, .int .i64 0, .int .i64 0, .int .i64 0, .string ByteArray.empty]), 8, 72) := by kernel_rfl
abbrev Stp.val (s : Stp) : Value := .agg #[.int .i64 s.kind, .int .i64 s.tenant, .int .i64 s.other, .int .i64 s.a, .int .i64 s.b, .int .i64 s.op, .int .i64 s.place, .string s.data]
theorem to_c (s : Stp) (t : Int) (w : World) : Calls Try.prog 91 #[.agg #[.int .i64 s.kind, .int .i64 s.tenant, .int .i64 s.other, .int .i64 s.a, .int .i64 s.b, .int .i64 s.op, .int .i64 s.place, .string s.data], .int .i64 t] w fun e w' => e = .returned (.bool (toB s t)) ∧ Below w.heap.size w w' := by
  obtain ⟨kd, tn, ot, a, b, op, pl, d⟩ := s
  by_cases h1 : kd = 5
  · subst h1
    by_cases h2 : tn = t
    · subst h2
      go_enter Try.func91, Try.ntmps91
      go_wp2
      go_ret
      exact ⟨ret_bool (by simp [toB]), (Below.refl _ _).alloc (Nat.le_refl _) _⟩
    · have h2' : (tn == t) = false := by rw [beq_eq_false_iff_ne]; exact h2
      clear h2
      go_enter Try.func91, Try.ntmps91
      go_wp2
      go_ret
      exact ⟨ret_bool (by simp [toB, h2']), (Below.refl _ _).alloc (Nat.le_refl _) _⟩
  · have h1' : (kd == 5) = false := by rw [beq_eq_false_iff_ne]; exact h1
    clear h1
    go_enter Try.func91, Try.ntmps91
    go_wp2
    go_ret
    exact ⟨ret_bool (by simp [toB, h1']), (Below.refl _ _).alloc (Nat.le_refl _) _⟩
theorem clo90_c (s : Stp) (t : Int) (B : Nat) (w : World) (hB : w.cell? ⟨B, 0, none⟩ = some (.int .i64 t)) : Calls Try.prog 90 #[.agg #[.int .i64 s.kind, .int .i64 s.tenant, .int .i64 s.other, .int .i64 s.a, .int .i64 s.b, .int .i64 s.op, .int .i64 s.place, .string s.data], .pointer (some ⟨B, 0, none⟩)] w fun e w' => e = .returned (.bool (!toB s t)) ∧ Below w.heap.size w w' := by
  have hBl : B < w.heap.size := World.block_lt_of_cell? _ _ hB
  go_enter Try.func90, Try.ntmps90
  go_wp2_with fail
  refine (to_c s t _).mono ?_
  rintro e w' ⟨rfl, hb⟩
  go_wp2
  go_ret
  exact ⟨rfl, ((Below.refl _ _).alloc (Nat.le_refl _) _).trans (hb.mono (by simp))⟩
def keptL (t : Int) (l : List Stp) : List Stp := l.filter fun s => !toB s t
theorem take_one {α : Type} {l : List α} {k : Nat} {x : α} (h : l[k]? = some x) : l.take (k + 1) = l.take k ++ [x] := by
  rw [List.take_add_one, h]; rfl
theorem keptL_succ {t : Int} {l : List Stp} {k : Nat} {x : Stp} (h : l[k]? = some x) : keptL t (l.take (k + 1)) = keptL t (l.take k) ++ (if toB x t then [] else [x]) := by
  unfold keptL
  rw [take_one h, List.filter_append]
  congr 1
  cases hx : toB x t <;> simp [hx]
theorem keptL_le (t : Int) (l : List Stp) : (keptL t l).length ≤ l.length := List.length_filter_le _ _
set_option maxHeartbeats 1600000 in
set_option maxRecDepth 100000 in
theorem kept_c (v : Value) (l : List Stp) (t : Int) (B : Nat) (w : World) (hl : l.length ≤ 200) (hR : Rd Stp.cs 8 w v l) (hB : w.cell? ⟨B, 0, none⟩ = some (.int .i64 t)) :
    Calls Try.prog 89 #[v, .func (.func 90) #[] #[.pointer (some ⟨B, 0, none⟩)]] w fun e w' => ∃ v', e = .returned v' ∧ w'.ownsRow w.heap.size 28 8 v' (keptL t l).length (rowCells Stp.cs (keptL t l)) ∧ Below w.heap.size w w' := by
  obtain ⟨i0, hi, hz0, hz1, hz2⟩ := info_parts Try.infos28
  obtain ⟨A, c, rfl, hc, hcell⟩ := hR
  go_enter Try.func89, Try.ntmps89
  go_wp2_with fail
  go_loopw [5, 10] (fun v i wr => ∃ k : Nat, k ≤ l.length ∧ i = .int .i64 k ∧ wr.ownsRow w.heap.size 28 8 v (keptL t (l.take k)).length (rowCells Stp.cs (keptL t (l.take k))) ∧ Below w.heap.size w wr) (fun _ i _ => l.length - (intOf i).toNat)
  case atStart => exact ⟨0, by omega, rfl, World.ownsRow_nil _ _ _ _, Below.refl _ _⟩
  case round =>
    obtain ⟨k, hk, rfl, hown, hbr⟩ := hrel
    by_cases hlt : k < l.length
    · rcases hcell with h0 | ⟨g, o, rfl, hat⟩
      · omega
      have hget : l[k]? = some (l[k]'hlt) := List.getElem?_eq_getElem hlt
      have hx := (hat k _ hget).below hbr
      have hs := keptL_succ (t := t) hget
      generalize l[k]'hlt = s at hx hs
      have hBr := keep_below hbr hB
      have hBl : B < wr.heap.size := World.block_lt_of_cell? _ _ hBr
      have c0 : wr.cell? ⟨g, o + k * 8, none⟩ = some (.int .i64 s.kind) := hx 0 _ rfl
      have c1 := hx 1 _ rfl
      have c2 := hx 2 _ rfl
      have c3 := hx 3 _ rfl
      have c4 := hx 4 _ rfl
      have c5 := hx 5 _ rfl
      have c6 := hx 6 _ rfl
      have c7 := hx 7 _ rfl
      have hle := keptL_le t (l.take k)
      have hle2 : (l.take k).length ≤ 200 := by rw [List.length_take]; omega
      have hkd : decide ((k : Int) < (l.length : Int)) = true := by rw [decide_eq_true_iff]; omega
      have hk0 : (0 : Int) ≤ (k : Int) := by omega
      have HS := Lib.hid hs
      clear hget hx hs hat
      go_wp2_with fail
      refine (clo90_c s t B _ (by rw [World.cell?_alloc_past _ _ _ hBl]; exact hBr)).mono ?_
      rintro e y ⟨rfl, hby⟩
      have hbwy : Below w.heap.size w y := (hbr.alloc hbr.size _).trans (hby.mono (by simp; have := hbr.size; omega))
      have hown1 := own_below (hown.alloc (.cells #[.int .i64 s.kind, .int .i64 s.tenant, .int .i64 s.other, .int .i64 s.a, .int .i64 s.b, .int .i64 s.op, .int .i64 s.place, .string s.data] 28)) hby
      have hblk := blk_below hby (heap_alloc_new _ _)
      have hL := blk_lt hblk
      have d0 : y.cell? ⟨wr.heap.size, 0, none⟩ = some (.int .i64 s.kind) := by rw [cell_of_row _ _ _ _ _ _ hblk]; rfl
      have d1 : y.cell? ⟨wr.heap.size, 1, none⟩ = some (.int .i64 s.tenant) := by rw [cell_of_row _ _ _ _ _ _ hblk]; rfl
      have d2 : y.cell? ⟨wr.heap.size, 2, none⟩ = some (.int .i64 s.other) := by rw [cell_of_row _ _ _ _ _ _ hblk]; rfl
      have d3 : y.cell? ⟨wr.heap.size, 3, none⟩ = some (.int .i64 s.a) := by rw [cell_of_row _ _ _ _ _ _ hblk]; rfl
      have d4 : y.cell? ⟨wr.heap.size, 4, none⟩ = some (.int .i64 s.b) := by rw [cell_of_row _ _ _ _ _ _ hblk]; rfl
      have d5 : y.cell? ⟨wr.heap.size, 5, none⟩ = some (.int .i64 s.op) := by rw [cell_of_row _ _ _ _ _ _ hblk]; rfl
      have d6 : y.cell? ⟨wr.heap.size, 6, none⟩ = some (.int .i64 s.place) := by rw [cell_of_row _ _ _ _ _ _ hblk]; rfl
      have d7 : y.cell? ⟨wr.heap.size, 7, none⟩ = some (.string s.data) := by rw [cell_of_row _ _ _ _ _ _ hblk]; rfl
      clear hby hown hblk
      have hsz := hbwy.size
      cases hto : toB s t
      · have HS2 := HS.out
        rw [hto] at HS2
        simp only [Bool.false_eq_true, if_false] at HS2
        have H2 := Lib.hid HS2
        clear HS HS2
        go_wp2_with (at_builtin; refine wpList_append_own _ rfl _ _ 22 rfl w.heap.size 28 i0 _ 8 72 Try.underlying22 hi hz0 hz1 hz2 rfl (by decide) _ _ _ rfl (hown1.alloc _) ⟨y.heap.size, 0, none⟩ 1 1 s.cs rfl rfl ?c1 ?c2 ?c3 ?c4 ?c5 ?_)
        case c1 => exact new_cells rfl
        case c2 => exact s.one
        case c3 => unfold maxLen; omega
        case c4 => omega
        case c5 => simp; omega
        intro v' w1 hown' hgrow _
        have hn1 := below_app hbwy (Nat.le_refl _) hsz hown1 hgrow
        clear hgrow hown1 d0 d1 d2 d3 d4 d5 d6 d7 c0 c1 c2 c3 c4 c5 c6 c7
        go_wp2
        go_roundw
        case rel => exact ⟨k + 1, by omega, by go_num, by rw [H2.out, rowCells_app, rowCells_one]; simpa using hown', hn1⟩
        case measure => simp [intOf]; omega
      · have HS2 := HS.out
        rw [hto] at HS2
        simp only [if_true, List.append_nil] at HS2
        have H2 := Lib.hid HS2
        clear HS HS2
        go_wp2
        go_roundw
        case rel => exact ⟨k + 1, by omega, by go_num, by rw [H2.out]; exact hown1, hbwy⟩
        case measure => simp [intOf]; omega
    · obtain rfl : k = l.length := by omega
      rw [List.take_length] at hown
      go_wp2
      go_ret
      exact ⟨_, rfl, hown, hbr⟩
end Go.Proofs.Ytppndeoiifkkkaa
