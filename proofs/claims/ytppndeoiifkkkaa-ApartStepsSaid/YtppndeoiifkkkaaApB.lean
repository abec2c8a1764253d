/- Layer 28 (apart): Without, Clone, Swapped, Same. -/
import Derived.Test.YtppndeoiifkkkaaApA
namespace Go.Proofs.Ytppndeoiifkkkaa
open Go.RowKit Go.Proofs.YtppndeoiifkkkaaW.PrintWords
set_option linter.unusedVariables false
theorem without_c (v : Value) (l : List Stp) (t : Int) (w : World) (hl : l.length ≤ 200) (hR : Rd Stp.cs 8 w v l) :
    Calls Try.prog 20 #[v, .int .i64 t] w fun e w' => ∃ v', e = .returned v' ∧ w'.ownsRow w.heap.size 28 8 v' (keptL t l).length (rowCells Stp.cs (keptL t l)) ∧ Below w.heap.size w w' := by
  have hmf : ∀ (fn : Fn) (first cap : Array Value) (w : World), (Instr.makeFunc fn first cap).run Try.prog w = .ok (.func fn first cap) w := fun _ _ _ _ => rfl
  have hR2 := hR.below ((Below.refl w.heap.size w).alloc (Nat.le_refl _) (.cells #[.int .i64 t] 3))
  have K := kept_c v l t w.heap.size _ hl hR2 (by rw [World.cell?_alloc_at _ _ _ _ rfl]; rfl)
  go_enter Try.func20, Try.ntmps20
  go_wp2_with fail
  refine K.mono ?_
  rintro e w' ⟨v', rfl, hown, hb⟩
  go_wp2
  go_ret
  exact ⟨_, rfl, own_mono hown (by simp), ((Below.refl _ _).alloc (Nat.le_refl _) _).trans (hb.mono (by simp))⟩
set_option maxRecDepth 100000 in
theorem clone_c (v : Value) (l : List Stp) (w : World) (hl : l.length ≤ 200) (hR : Rd Stp.cs 8 w v l) :
    Calls Try.prog 92 #[v] w fun e w' => ∃ v', e = .returned v' ∧ w'.ownsRow w.heap.size 28 8 v' l.length (rowCells Stp.cs l) ∧ Below w.heap.size w w' := by
  obtain ⟨i0, hi, hz0, hz1, hz2⟩ := info_parts Try.infos28
  obtain ⟨A, c, rfl, hc, hcell⟩ := hR
  have q22 : ∀ (w : World) (a : Option Addr) (n c n' c' : Nat), (binOp .eql 22 (.slice a n c) (.slice none n' c')).run Try.prog w = .ok (.bool a.isNone) w := fun w a n c n' c' => Lib.run_eql_slice_nil w _ _ a n c n' c' Try.underlying22
  cases A with
  | none =>
    have h0 : l.length = 0 := by
      rcases hcell with h0 | ⟨g, o, h, _⟩
      · exact h0
      · cases h
    obtain rfl : l = [] := List.length_eq_zero_iff.1 h0
    go_enter Try.func92, Try.ntmps92
    go_wp2
    go_ret
    exact ⟨_, rfl, World.ownsRow_nil _ _ _ _, Below.refl _ _⟩
  | some ad =>
    have hall : ∀ j u, (rowCells Stp.cs l)[j]? = some u → w.cell? (ad.add j) = some u := by
      rcases hcell with h0 | ⟨g, o, h, hat⟩
      · obtain rfl : l = [] := List.length_eq_zero_iff.1 h0
        intro j u hj; simp [rowCells] at hj
      · injection h with h
        subst h
        intro j u hj
        rw [show (⟨g, o, none⟩ : Addr).add j = ⟨g, o + j, none⟩ by unfold Addr.add; split <;> simp_all]
        exact Rd.cells Stp.cs Stp.len hat j u hj
    have HA := Lib.hid hall
    clear hall hcell
    have hlc := rowCells_len Stp.cs Stp.len l
    go_enter Try.func92, Try.ntmps92
    go_wp2_with (at_builtin; refine wpList_append_own _ rfl _ _ 22 rfl w.heap.size 28 i0 _ 8 72 Try.underlying22 hi hz0 hz1 hz2 rfl (by decide) _ _ _ rfl (World.ownsRow_made w #[] 0 (Nat.le_refl _) (Nat.zero_le _) (by simp)) ad l.length c (rowCells Stp.cs l) rfl ?qc1 ?qc2 ?qc3 ?qc4 ?qc5 ?qc6 ?_)
    case qc1 => exact hlc
    case qc2 =>
      intro j u hj
      exact keep_below ((Below.refl w.heap.size w).alloc (Nat.le_refl _) _) (HA.out j u hj)
    case qc3 =>
      intro u hu
      simp only [rowCells, List.mem_flatMap] at hu
      obtain ⟨s, _, hu⟩ := hu
      exact s.one u hu
    case qc4 => unfold maxLen; omega
    case qc5 => omega
    case qc6 => simp
    intro v' w1 hown hgrow hnil
    go_wp2
    go_ret
    refine ⟨v', rfl, by simpa using hown, ?_⟩
    exact ((Below.refl _ w).alloc (Nat.le_refl _) _).grown hgrow (by simp) (by intro k hk; simp [Value.ownBlock] at hk; omega)
structure Cmd where
  op : Int
  place : Int
  data : ByteArray
def Cmd.cs (c : Cmd) : List Value := [.int .i64 c.op, .int .i64 c.place, .string c.data]
theorem Cmd.len (s : Cmd) : s.cs.length = 3 := rfl
def Cmd.zero : Cmd := ⟨0, 0, ByteArray.empty⟩
def Stp.with (s : Stp) (c : Cmd) : Stp := { s with op := c.op, place := c.place, data := c.data }
def cmdAt (c : List Cmd) (n : Nat) : Cmd := (c[n % c.length]?).getD Cmd.zero
def swapStep (t : Int) (c : List Cmd) (acc : List Stp × Nat) (s : Stp) : List Stp × Nat := if toB s t then (acc.1 ++ [s.with (cmdAt c acc.2)], acc.2 + 1) else (acc.1 ++ [s], acc.2)
def swapF (t : Int) (c : List Cmd) (l : List Stp) : List Stp × Nat := l.foldl (swapStep t c) ([], 0)
theorem swapF_succ {t : Int} {c : List Cmd} {l : List Stp} {k : Nat} {x : Stp} (h : l[k]? = some x) : swapF t c (l.take (k + 1)) = swapStep t c (swapF t c (l.take k)) x := by
  unfold swapF; rw [take_one h, List.foldl_append]; rfl
theorem swapF_len (t : Int) (c : List Cmd) (l : List Stp) : (swapF t c l).1.length = l.length ∧ (swapF t c l).2 ≤ l.length := by
  have key : ∀ (l : List Stp) (acc : List Stp × Nat), acc.2 ≤ acc.1.length → (l.foldl (swapStep t c) acc).1.length = acc.1.length + l.length ∧ (l.foldl (swapStep t c) acc).2 ≤ acc.1.length + l.length := by
    intro l
    induction l with
    | nil => intro acc h; exact ⟨by simp, by simpa using h⟩
    | cons s l ih =>
      intro acc h
      have h1 : (swapStep t c acc s).1.length = acc.1.length + 1 ∧ (swapStep t c acc s).2 ≤ (swapStep t c acc s).1.length := by
        unfold swapStep; split <;> simp <;> omega
      have := ih (swapStep t c acc s) h1.2
      rw [h1.1] at this
      simp only [List.foldl_cons, List.length_cons]
      omega
  have := key l ([], 0) (Nat.le_refl _)
  simpa [swapF] using this
theorem cmdAt_get {c : List Cmd} (h : 0 < c.length) (n : Nat) : c[n % c.length]? = some (cmdAt c n) := by
  have := Nat.mod_lt n h
  simp [cmdAt, List.getElem?_eq_getElem this]
/-- A row with its k-th struct turned. -/
theorem mid_set {a d : List Stp} {k : Nat} {x y : Stp} (ha : a.length = k) : (a ++ x :: d).set k y = a ++ y :: d := by
  subst ha; simp
theorem mid_get {a d : List Stp} {k : Nat} {x : Stp} (ha : a.length = k) : (a ++ x :: d)[k]? = some x := by
  subst ha; simp
theorem drop_one {α : Type} {l : List α} {k : Nat} {x : α} (h : l[k]? = some x) : l.drop k = x :: l.drop (k + 1) := by
  obtain ⟨hk, rfl⟩ := List.getElem?_eq_some_iff.1 h
  exact List.drop_eq_getElem_cons hk
theorem stored_cmd {w : World} {base g n cap : Nat} {a d : List Stp} {k : Nat} {x : Stp} {c : Cmd} (h : w.ownsRow base 28 8 (.slice (some ⟨g, 0, none⟩) n cap) n (rowCells Stp.cs (a ++ x :: d))) (ha : a.length = k) :
    (((w.setCell ⟨g, k * 8 + 5, none⟩ (.int .i64 c.op)).setCell ⟨g, k * 8 + 6, none⟩ (.int .i64 c.place)).setCell ⟨g, k * 8 + 7, none⟩ (.string c.data)).ownsRow base 28 8 (.slice (some ⟨g, 0, none⟩) n cap) n (rowCells Stp.cs (a ++ x.with c :: d)) := by
  have h1 := (h.stored (k * 8 + 5) (.int .i64 c.op)).1
  rw [rowCells_set Stp.cs Stp.len (y := { x with op := c.op }) (mid_get ha) (by decide) rfl, mid_set ha] at h1
  have h2 := (h1.stored (k * 8 + 6) (.int .i64 c.place)).1
  rw [rowCells_set Stp.cs Stp.len (y := { x with op := c.op, place := c.place }) (mid_get ha) (by decide) rfl, mid_set ha] at h2
  have h3 := (h2.stored (k * 8 + 7) (.string c.data)).1
  rw [rowCells_set Stp.cs Stp.len (y := x.with c) (mid_get ha) (by decide) rfl, mid_set ha] at h3
  exact h3
end Go.Proofs.Ytppndeoiifkkkaa
