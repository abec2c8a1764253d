/- Layer 28 (apart): what the law's loop keeps; its rounds. -/
import Derived.Test.YtppndeoiifkkkaaApD
import Derived.Deep.AppendLies
namespace Go.Proofs.Ytppndeoiifkkkaa
open Go.RowKit Go.Proofs.YtppndeoiifkkkaaW.PrintWords
set_option linter.unusedVariables false
def othF (t : Int) (c : List Cmd) (l : List Stp) : List Stp × Nat := if c = [] then (keptL t l, 0) else swapF t c l
theorem othF_zero (t : Int) (c : List Cmd) : othF t c [] = ([], 0) := by unfold othF; split <;> rfl
theorem othF_no {t : Int} {c : List Cmd} {l : List Stp} {k : Nat} {x : Stp} (h : l[k]? = some x) (ht : toB x t = false) : othF t c (l.take (k + 1)) = ((othF t c (l.take k)).1 ++ [x], (othF t c (l.take k)).2) := by
  unfold othF
  split
  · rw [keptL_succ h, ht]; simp
  · rw [swapF_succ h]; simp [swapStep, ht]
theorem othF_nil {t : Int} {l : List Stp} {k : Nat} {x : Stp} (h : l[k]? = some x) (ht : toB x t = true) : othF t [] (l.take (k + 1)) = othF t [] (l.take k) := by
  unfold othF
  rw [if_pos rfl, if_pos rfl, keptL_succ h, ht]; simp
theorem othF_yes {t : Int} {c : List Cmd} {l : List Stp} {k : Nat} {x : Stp} (h : l[k]? = some x) (ht : toB x t = true) (hc : 0 < c.length) : othF t c (l.take (k + 1)) = ((othF t c (l.take k)).1 ++ [x.with (cmdAt c (othF t c (l.take k)).2)], (othF t c (l.take k)).2 + 1) := by
  have hc' : ¬ c = [] := by rintro rfl; simp at hc
  unfold othF
  rw [if_neg hc', if_neg hc', swapF_succ h]; simp [swapStep, ht]
theorem othF_len (t : Int) (c : List Cmd) (l : List Stp) : (othF t c l).1.length ≤ l.length ∧ (othF t c l).2 ≤ l.length := by
  unfold othF
  split
  · exact ⟨keptL_le t l, Nat.zero_le _⟩
  · have := swapF_len t c l; omega
theorem swappedAll_c (v vc : Value) (l : List Stp) (c : List Cmd) (t : Int) (w : World) (hl : l.length ≤ 200) (hR : Rd Stp.cs 8 w v l) (hC : Rd Cmd.cs 3 w vc c) (hcm : c.length ≤ 60) :
    Calls Try.prog 21 #[v, .int .i64 t, vc] w fun e w' => ∃ v', e = .returned v' ∧ w'.ownsRow w.heap.size 28 8 v' (othF t c l).1.length (rowCells Stp.cs (othF t c l).1) ∧ Below w.heap.size w w' := by
  by_cases hc : c = []
  · subst hc
    have h : othF t [] l = (keptL t l, 0) := by unfold othF; rw [if_pos rfl]
    rw [h]
    exact swapped_nil v vc l t w hl hR hC
  · have h : othF t c l = swapF t c l := by unfold othF; rw [if_neg hc]
    rw [h, (swapF_len t c l).1]
    exact swapped_c v vc l c t w hl hR hC (List.length_pos_iff.2 hc) hcm
/-- Two rows that the law makes, side by side. -/
structure Two (B : Nat) (w W : World) (va vb : Value) (la lb : List Stp) : Prop where
  a : W.ownsRow B 28 8 va la.length (rowCells Stp.cs la)
  b : W.ownsRow B 28 8 vb lb.length (rowCells Stp.cs lb)
  ne : ∀ k, va.ownBlock = some k → vb.ownBlock ≠ some k
  low : Below B w W
  base : B ≤ W.heap.size
theorem Two.alloc {B : Nat} {w W : World} {va vb : Value} {la lb : List Stp} (T : Two B w W va vb la lb) (o : Obj) : Two B w (W.alloc o) va vb la lb :=
  ⟨T.a.alloc o, T.b.alloc o, T.ne, T.low.alloc T.base o, by have := T.base; simp; omega⟩
theorem Two.below {B : Nat} {w W W' : World} {va vb : Value} {la lb : List Stp} (T : Two B w W va vb la lb) (h : Below W.heap.size W W') : Two B w W' va vb la lb :=
  ⟨own_below T.a h, own_below T.b h, T.ne, T.low.trans (h.mono T.base), by have := T.base; have := h.size; omega⟩
theorem Two.drew {B : Nat} {w W : World} {va vb : Value} {la lb : List Stp} (T : Two B w W va vb la lb) : Two B w W.drew va vb la lb :=
  ⟨T.a, T.b, T.ne, T.low.drew, T.base⟩
theorem Two.app_a {B H g cap : Nat} {w W W' : World} {va vb : Value} {la lb : List Stp} {s : Stp} (T : Two B w W va vb la lb)
    (hown : W'.ownsRow B 28 8 (.slice (some ⟨g, 0, none⟩) (la.length + 1) cap) (la.length + 1) (rowCells Stp.cs la ++ s.cs)) (hg : W.grownBy W' va.ownBlock) (hat : va.ownBlock = some g ∨ g = H) (hH : W.heap.size = H) :
    Two B w W' (.slice (some ⟨g, 0, none⟩) (la.length + 1) cap) vb (la ++ [s]) lb := by
  refine ⟨?_, ?_, ?_, T.low.grown hg T.base (fun k hk => own_base T.a k hk), ?_⟩
  · rw [rowCells_app, rowCells_one, List.length_append]; exact hown
  · refine T.b.kept hg ?_
    cases hb : vb.ownBlock with
    | none => exact .inl rfl
    | some k => exact .inr (fun h => T.ne k h.symm hb)
  · intro k hk hb
    have hk' : g = k := by simpa [Value.ownBlock] using hk
    subst hk'
    rcases hat with h | h
    · exact T.ne _ h hb
    · have := own_lt T.b _ hb; omega
  · have := hg.size; have := T.base; omega
theorem Two.app_b {B H g cap : Nat} {w W W' : World} {va vb : Value} {la lb : List Stp} {s : Stp} (T : Two B w W va vb la lb)
    (hown : W'.ownsRow B 28 8 (.slice (some ⟨g, 0, none⟩) (lb.length + 1) cap) (lb.length + 1) (rowCells Stp.cs lb ++ s.cs)) (hg : W.grownBy W' vb.ownBlock) (hat : vb.ownBlock = some g ∨ g = H) (hH : W.heap.size = H) :
    Two B w W' va (.slice (some ⟨g, 0, none⟩) (lb.length + 1) cap) la (lb ++ [s]) := by
  refine ⟨?_, ?_, ?_, T.low.grown hg T.base (fun k hk => own_base T.b k hk), ?_⟩
  · refine T.a.kept hg ?_
    cases ha : va.ownBlock with
    | none => exact .inl rfl
    | some k => exact .inr (fun h => T.ne k ha h.symm)
  · rw [rowCells_app, rowCells_one, List.length_append]; exact hown
  · intro k hk hb
    have hb' : g = k := by simpa [Value.ownBlock] using hb
    subst hb'
    rcases hat with h | h
    · exact T.ne _ hk h
    · have := own_lt T.a _ hk; omega
  · have := hg.size; have := T.base; omega
theorem neq28 (s : Stp) (w : World) : (binOp .neq 28 (.agg #[.int .i64 s.kind, .int .i64 s.tenant, .int .i64 s.other, .int .i64 s.a, .int .i64 s.b, .int .i64 s.op, .int .i64 s.place, .string s.data]) (.agg #[.int .i64 s.kind, .int .i64 s.tenant, .int .i64 s.other, .int .i64 s.a, .int .i64 s.b, .int .i64 s.op, .int .i64 s.place, .string s.data])).run Try.prog w = .ok (.bool false) w := by
  simp [go_sem]
end Go.Proofs.Ytppndeoiifkkkaa
