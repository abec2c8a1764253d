/- Layer 42 (turn): the fixed calls. -/
import Derived.Test.YtppndeoiifkkkaaTurnF
namespace Go.Proofs.Ytppndeoiifkkkaa
open Go.RowKit
set_option linter.unusedVariables false
set_option maxRecDepth 100000 in
theorem fixed42_c (w : World) : Calls Try.prog 22 #[] w fun e w' => e = .returned (.bool true) ∧ Below w.heap.size w w' := by
  have w0 : wait1 1 0 1 = 4 := by decide
  have w1 : wait1 1 1 2 = 5 := by decide
  have w2 : wait1 1 2 0 = 0 := by decide
  have w3 : wait1 1 3 0 = 0 := by decide
  have ho : (if slottedB 1 = true then preO 1 1 2 0 0 32 else []) = [1, 0, 1] := by decide
  have n1 : nextF 5 0 = 8 := by decide
  have n2 : nextF (-1) 0 = -1 := by decide
  have a1 : atF 5 1 2 = 13 := by decide
  have s1 : servedF 0 9 0 = 3 := by decide
  have W := waits_c 1 1 2 0 0 w
  rw [w0, w1, w2, w3] at W
  clear w0 w1 w2 w3
  have HO := Lib.hid ho
  have W := Lib.hid W
  clear ho
  go_enter Try.func22, Try.ntmps22
  go_wp2_with fail
  refine W.out.mono ?_
  rintro e x1 ⟨rfl, hb1⟩
  go_wp2_with fail
  refine (order_c 1 1 2 0 0 _).mono ?_
  rintro e x2 ⟨v, rfl, hown, hb2⟩
  rw [HO.out] at hown
  obtain ⟨g, cap, rfl, hg1, hg2, hg3, hcell⟩ := own_some hown (by decide)
  have c0 := hcell 0 (.int .i64 1) rfl
  have c1 := hcell 1 (.int .i64 0) rfl
  simp at hb2
  have d0 : x2.cell? ⟨x1.heap.size, 0, none⟩ = some (.int .i64 4) := (hb2.cell (p := ⟨x1.heap.size, 0, none⟩) (by simp)).trans (by rw [World.cell?_alloc_at _ _ _ _ rfl]; rfl)
  have d1 : x2.cell? ⟨x1.heap.size, 1, none⟩ = some (.int .i64 5) := (hb2.cell (p := ⟨x1.heap.size, 1, none⟩) (by simp)).trans (by rw [World.cell?_alloc_at _ _ _ _ rfl]; rfl)
  have d2 : x2.cell? ⟨x1.heap.size, 2, none⟩ = some (.int .i64 0) := (hb2.cell (p := ⟨x1.heap.size, 2, none⟩) (by simp)).trans (by rw [World.cell?_alloc_at _ _ _ _ rfl]; rfl)
  clear hcell hown
  go_wp2_with (first | (go_at_call 23; refine (next_c _ _ _).mono ?_; rintro e w' ⟨rfl, rfl⟩) | (go_at_call 24; refine (at_c _ _ _ _).mono ?_; rintro e w' ⟨rfl, rfl⟩) | (go_at_call 25; refine (served_c _ _ _ _).mono ?_; rintro e w' ⟨rfl, rfl⟩))
  go_ret
  refine ⟨rfl, (hb1.alloc hb1.size _).trans (hb2.mono ?_)⟩
  have := hb1.size; omega
end Go.Proofs.Ytppndeoiifkkkaa
