/- Laws that the kit lacks: '==' of arrays of whole numbers; small endings. -/
import Derived.Test.YtppndeoiifkkkaaProg
import Derived.WalkKit
import Derived.WalkLawsBesides
import Derived.Deep.QuietTactic
import Derived.BigQuiet
import Derived.Lib.Hide
import Derived.ChangeKeysEq
namespace Go.Proofs.Ytppndeoiifkkkaa
open Go.RowKit

theorem ret_int {k : IntKind} {a b : Int} (h : a = b) : Ending.returned (.int k a) = .returned (.int k b) := by rw [h]
theorem ret_bool {a b : Bool} (h : a = b) : Ending.returned (.bool a) = .returned (.bool b) := by rw [h]
theorem ret_true {b : Bool} (h : b = true) : Ending.returned (.bool true) = .returned (.bool b) := by rw [h]
theorem ret_false {b : Bool} (h : b = false) : Ending.returned (.bool false) = .returned (.bool b) := by rw [h]

def ints (xs : List Int) : Array Value := (xs.map (Value.int .i64)).toArray
section
variable {P : Program} (w : World)
theorem eqItems_ints (d e : Nat) (hu : P.underlying e = some (.int .i64)) (ha : (isAgg e).run P w = .ok false w) : ∀ (k : Nat) (xs ys us vs : List Int), us.length = k → vs.length = k → xs.length = ys.length →
    (Op.eqItems (d + 1) e 1 (ints (us ++ xs)) (ints (vs ++ ys)) (List.range' k xs.length)).run P w = .ok (xs == ys) w
  | k, [], ys, us, vs, _, _, h => by
    have : ys = [] := List.length_eq_zero_iff.1 h.symm
    subst this
    simp [Op.eqItems]
  | k, x :: xs, [], us, vs, _, _, h => by simp at h
  | k, x :: xs, y :: ys, us, vs, hu1, hv1, h => by
    have hp : ∀ (zs : List Int) (i : Nat) (z : Int), zs[i]? = some z → (part e (ints zs) (i * 1)).run P w = .ok (.int .i64 z) w := by
      intro zs i z hz
      simp [part, ha, ints, hz]
    have h1 := hp (us ++ x :: xs) k x (by rw [List.getElem?_append_right (by omega)]; simp [hu1])
    have h2 := hp (vs ++ y :: ys) k y (by rw [List.getElem?_append_right (by omega)]; simp [hv1])
    have hr : (Op.equalIn (d + 1) e (.int .i64 x) (.int .i64 y)).run P w = .ok (x == y) w := run_equalIn_int w d e .i64 .i64 x y hu
    have ih := eqItems_ints d e hu ha (k + 1) xs ys (us ++ [x]) (vs ++ [y]) (by simp [hu1]) (by simp [hv1]) (by simpa using h)
    simp only [List.append_assoc, List.singleton_append] at ih
    rw [List.length_cons, List.range'_succ]
    simp only [Op.eqItems, Sem.run_bind, h1, h2, hr, Result.andThen_ok]
    by_cases hxy : x = y
    · subst hxy; simpa using ih
    · have : (x == y) = false := by simpa using hxy
      simp [this]
theorem eql_ints {t e n : Nat} {i : TypeInfo} (hu : P.underlying t = some (.array n e)) (hi : P.info? e = some i) (hc : P.cellsOf e = 1) (he : P.underlying e = some (.int .i64)) (ha : (isAgg e).run P w = .ok false w)
    (xs ys : List Int) (hx : xs.length = n) (hy : ys.length = n) : (binOp .eql t (.agg (ints xs)) (.agg (ints ys))).run P w = .ok (.bool (xs == ys)) w := by
  have h := eqItems_ints w 9998 e he ha 0 xs ys [] [] rfl rfl (by omega)
  rw [run_eql_struct, show (10000 : Nat) = 9999 + 1 from rfl, run_equalIn_array w 9999 _ _ hu hi, hc, List.range_eq_range', ← hx]
  simp only [List.nil_append] at h
  rw [h]; rfl
theorem neq_ints {t e n : Nat} {i : TypeInfo} (hu : P.underlying t = some (.array n e)) (hi : P.info? e = some i) (hc : P.cellsOf e = 1) (he : P.underlying e = some (.int .i64)) (ha : (isAgg e).run P w = .ok false w)
    (xs ys : List Int) (hx : xs.length = n) (hy : ys.length = n) : (binOp .neq t (.agg (ints xs)) (.agg (ints ys))).run P w = .ok (.bool (!(xs == ys))) w := by
  have h := eqItems_ints w 9998 e he ha 0 xs ys [] [] rfl rfl (by omega)
  rw [run_neq_struct, show (10000 : Nat) = 9999 + 1 from rfl, run_equalIn_array w 9999 _ _ hu hi, hc, List.range_eq_range', ← hx]
  simp only [List.nil_append] at h
  rw [h]; rfl
end
theorem Try.cells3 : Try.prog.cellsOf 3 = 1 := by kernel_rfl
theorem Try.agg3 (w : World) : (isAgg 3).run Try.prog w = .ok false w := by kernel_rfl
theorem Try.hasinfo3 : ∃ i, Try.prog.info? 3 = some i := Option.isSome_iff_exists.1 (by kernel_rfl)
theorem eql36 (a b c d a' b' c' d' : Int) (w : World) :
    (binOp .eql 36 (.agg #[.int .i64 a, .int .i64 b, .int .i64 c, .int .i64 d]) (.agg #[.int .i64 a', .int .i64 b', .int .i64 c', .int .i64 d'])).run Try.prog w = .ok (.bool ([a, b, c, d] == [a', b', c', d'])) w := by
  obtain ⟨i, hi⟩ := Try.hasinfo3
  exact eql_ints w Try.underlying36 hi Try.cells3 Try.underlying3 (Try.agg3 w) [a, b, c, d] [a', b', c', d'] rfl rfl
theorem neq36 (a b c d a' b' c' d' : Int) (w : World) :
    (binOp .neq 36 (.agg #[.int .i64 a, .int .i64 b, .int .i64 c, .int .i64 d]) (.agg #[.int .i64 a', .int .i64 b', .int .i64 c', .int .i64 d'])).run Try.prog w = .ok (.bool (!([a, b, c, d] == [a', b', c', d']))) w := by
  obtain ⟨i, hi⟩ := Try.hasinfo3
  exact neq_ints w Try.underlying36 hi Try.cells3 Try.underlying3 (Try.agg3 w) [a, b, c, d] [a', b', c', d'] rfl rfl
theorem idx36_0 (a b c d : Value) (w : World) : (Instr.index 36 (.agg #[a, b, c, d]) (.int .i64 0)).run Try.prog w = .ok a w := by kernel_rfl
theorem idx36_1 (a b c d : Value) (w : World) : (Instr.index 36 (.agg #[a, b, c, d]) (.int .i64 1)).run Try.prog w = .ok b w := by kernel_rfl
theorem idx36_2 (a b c d : Value) (w : World) : (Instr.index 36 (.agg #[a, b, c, d]) (.int .i64 2)).run Try.prog w = .ok c w := by kernel_rfl
theorem idx36_3 (a b c d : Value) (w : World) : (Instr.index 36 (.agg #[a, b, c, d]) (.int .i64 3)).run Try.prog w = .ok d w := by kernel_rfl

theorem below_app {B base e size n : Nat} {a wr w1 : World} {v : Value} {xs : List Value} {o : Obj} (h : Below B a wr) (hB : B ≤ base) (hbs : base ≤ wr.heap.size) (hown : wr.ownsRow base e size v n xs) (hg : (wr.alloc o).grownBy w1 v.ownBlock) : Below B a w1 :=
  (h.alloc (by omega) o).grown hg (by simp; omega) (fun j hj => by have := (hown.lt j hj).1; omega)
theorem Try.infos3 : (Try.prog.info? 3).map (fun i => (i.zero, i.size, i.bytes)) = some (some (.int .i64 0), 1, 8) := by kernel_rfl

theorem new_one {w : World} {n T : Nat} {u : Value} (h : n = w.heap.size) : ∀ (j : Nat) (x : Value), [u][j]? = some x → (w.alloc (.cells #[u] T)).cell? ((⟨n, 0, none⟩ : Addr).add j) = some x := by
  intro j x hj
  match j, hj with
  | 0, hj =>
    simp at hj
    subst hj; subst h
    rw [show (⟨w.heap.size, 0, none⟩ : Addr).add 0 = ⟨w.heap.size, 0, none⟩ from rfl, World.cell?_alloc_at _ _ _ _ rfl]
    rfl

theorem own_mono {w : World} {base base' e size n : Nat} {v : Value} {xs : List Value} (h : w.ownsRow base e size v n xs) (hb : base' ≤ base) : w.ownsRow base' e size v n xs :=
  ⟨h.1, h.2.imp id (fun ⟨g, cap, cur, h1, h2, h3⟩ => ⟨g, cap, cur, h1, by omega, h3⟩)⟩
theorem own_drew {w : World} {base e size n : Nat} {v : Value} {xs : List Value} (h : w.ownsRow base e size v n xs) : w.drew.ownsRow base e size v n xs := h
theorem setCell_own {w : World} {base e size n : Nat} {v : Value} {xs : List Value} (h : w.ownsRow base e size v n xs) {g j : Nat} (hg : g < base) (u : Value) : (w.setCell ⟨g, j, none⟩ u).ownsRow base e size v n xs :=
  ownsRow_setCell_below h (a := ⟨g, j, none⟩) hg u

/-- An owned row of some elements: where it lies, and what its cells hold. -/
theorem own_some {w : World} {base e n : Nat} {v : Value} {xs : List Value} (h : w.ownsRow base e 1 v n xs) (hn : 0 < n) :
    ∃ g cap, v = .slice (some ⟨g, 0, none⟩) n cap ∧ base ≤ g ∧ g < w.heap.size ∧ n ≤ cap ∧ ∀ (j : Nat) (u : Value), xs[j]? = some u → w.cell? ⟨g, j, none⟩ = some u := by
  obtain ⟨h1, h2⟩ := h
  rcases h2 with ⟨_, h0⟩ | ⟨g, cap, cur, hv, hb, hg, hc, _, hs, ht⟩
  · omega
  · refine ⟨g, cap, hv, hb, (Array.getElem?_eq_some_iff.1 hg).1, hc, fun j u hj => ?_⟩
    rw [cell_of_row _ _ _ _ _ _ hg]
    rw [← ht, List.getElem?_take] at hj
    split at hj
    · simpa using hj
    · simp at hj
theorem own_none {w : World} {base e : Nat} {v : Value} {xs : List Value} (h : w.ownsRow base e 1 v 0 xs) : ∃ a cap, v = .slice a 0 cap := by
  rcases h.2 with ⟨hv, _⟩ | ⟨g, cap, cur, hv, _⟩
  · exact ⟨_, _, hv⟩
  · exact ⟨_, _, hv⟩
end Go.Proofs.Ytppndeoiifkkkaa
