/- Laws that the kit lacks: '==' of arrays of whole numbers; small endings. -/
import Derived.Test.YtibefgdjijmncaaProg
import Derived.WalkKit
import Derived.WalkLawsBesides
import Derived.Deep.QuietTactic
import Derived.BigQuiet
import Derived.Lib.Hide
import Derived.ChangeKeysEq
namespace Go.Proofs.Ytibefgdjijmncaa
open Go.RowKit

theorem ret_int {k : IntKind} {a b : Int} (h : a = b) : Ending.returned (.int k a) = .returned (.int k b) := by rw [h]
theorem ret_bool {a b : Bool} (h : a = b) : Ending.returned (.bool a) = .returned (.bool b) := by rw [h]
theorem ret_true {b : Bool} (h : b = true) : Ending.returned (.bool true) = .returned (.bool b) := by rw [h]
theorem ret_false {b : Bool} (h : b = false) : Ending.returned (.bool false) = .returned (.bool b) := by rw [h]

def ints (xs : List Int) : Array Value := (xs.map (Value.int .i64)).toArray
section
variable {P : Program} (w : World)
theorem eqItems_ints (d e : Nat) (hu : P.underlying e = some (.int .i64)) (ha : (isAgg e).run P w = .ok false w) : ∀ (k : Nat) (xs ys us vs : List Int), us.length = k → vs.length = k → xs.length = ys.length →
    (Op.eqItems (d + 1) e 1 (ints (us ++ xs)) (ints (vs ++ ys)) (List.range' k xs.length)).run P w = .ok (xs == ys) w
  | k, [], ys, us, vs, _, _, h => by
    have : ys = [] := List.length_eq_zero_iff.1 h.symm
    subst this
    simp [Op.eqItems]
  | k, x :: xs, [], us, vs, _, _, h => by simp at h
  | k, x :: xs, y :: ys, us, vs, hu1, hv1, h => by
    have hp : ∀ (zs : List Int) (i : Nat) (z : Int), zs[i]? = some z → (part e (ints zs) (i * 1)).run P w = .ok (.int .i64 z) w := by
      intro zs i z hz
      simp [part, ha, ints, hz]
    have h1 := hp (us ++ x :: xs) k x (by rw [List.getElem?_append_right (by omega)]; simp [hu1])
    have h2 := hp (vs ++ y :: ys) k y (by rw [List.getElem?_append_right (by omega)]; simp [hv1])
    have hr : (Op.equalIn (d + 1) e (.int .i64 x) (.int .i64 y)).run P w = .ok (x == y) w := run_equalIn_int w d e .i64 .i64 x y hu
    have ih := eqItems_ints d e hu ha (k + 1) xs ys (us ++ [x]) (vs ++ [y]) (by simp [hu1]) (by simp [hv1]) (by simpa using h)
    simp only [List.append_assoc, List.singleton_append] at ih
    rw [List.length_cons, List.range'_succ]
    simp only [Op.eqItems, Sem.run_bind, h1, h2, hr, Result.andThen_ok]
    by_cases hxy : x = y
    · subst hxy; simpa using ih
    · have : (x == y) = false := by simpa using hxy
      simp [this]
theorem eql_ints {t e n : Nat} {i : TypeInfo} (hu : P.underlying t = some (.array n e)) (hi : P.info? e = some i) (hc : P.cellsOf e = 1) (he : P.underlying e = some (.int .i64)) (ha : (isAgg e).run P w = .ok false w)
    (xs ys : List Int) (hx : xs.length = n) (hy : ys.length = n) : (binOp .eql t (.agg (ints xs)) (.agg (ints ys))).run P w = .ok (.bool (xs == ys)) w := by
  have h := eqItems_ints w 9998 e he ha 0 xs ys [] [] rfl rfl (by omega)
  rw [run_eql_struct, show (10000 : Nat) = 9999 + 1 from rfl, run_equalIn_array w 9999 _ _ hu hi, hc, List.range_eq_range', ← hx]
  simp only [List.nil_append] at h
  rw [h]; rfl
theorem neq_ints {t e n : Nat} {i : TypeInfo} (hu : P.underlying t = some (.array n e)) (hi : P.info? e = some i) (hc : P.cellsOf e = 1) (he : P.underlying e = some (.int .i64)) (ha : (isAgg e).run P w = .ok false w)
    (xs ys : List Int) (hx : xs.length = n) (hy : ys.length = n) : (binOp .neq t (.agg (ints xs)) (.agg (ints ys))).run P w = .ok (.bool (!(xs == ys))) w := by
  have h := eqItems_ints w 9998 e he ha 0 xs ys [] [] rfl rfl (by omega)
  rw [run_neq_struct, show (10000 : Nat) = 9999 + 1 from rfl, run_equalIn_array w 9999 _ _ hu hi, hc, List.range_eq_range', ← hx]
  simp only [List.nil_append] at h
  rw [h]; rfl
end
end Go.Proofs.Ytibefgdjijmncaa
