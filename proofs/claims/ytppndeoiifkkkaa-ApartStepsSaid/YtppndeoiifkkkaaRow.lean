/- Rows of structs of some cells each: read, owned, cut; whatever the struct. -/
import Derived.Test.YtppndeoiifkkkaaBufG
namespace Go.Proofs.Ytppndeoiifkkkaa
open Go.RowKit Go.Proofs.YtppndeoiifkkkaaW.PrintWords
set_option linter.unusedVariables false
section
variable {α : Type} (cs : α → List Value)
def rowCells (l : List α) : List Value := l.flatMap cs
theorem rowCells_app (a b : List α) : rowCells cs (a ++ b) = rowCells cs a ++ rowCells cs b := by simp [rowCells]
theorem rowCells_one (a : α) : rowCells cs [a] = cs a := by simp [rowCells]
variable {k : Nat} (hk : ∀ x, (cs x).length = k)
include hk
theorem rowCells_len (l : List α) : (rowCells cs l).length = l.length * k := by
  induction l with
  | nil => simp [rowCells]
  | cons c l ih =>
    have : rowCells cs (c :: l) = cs c ++ rowCells cs l := by simp [rowCells]
    rw [this, List.length_append, ih, hk, List.length_cons, Nat.add_mul]; omega
theorem rowCells_get : ∀ {l : List α} {i : Nat} {x : α} {j : Nat} {u : Value}, l[i]? = some x → (cs x)[j]? = some u → (rowCells cs l)[i * k + j]? = some u
  | [], i, x, j, u, h, _ => by simp at h
  | d :: l, 0, x, j, u, h, hj => by
    simp at h; subst h
    have : rowCells cs (d :: l) = cs d ++ rowCells cs l := by simp [rowCells]
    have hl := (List.getElem?_eq_some_iff.1 hj).1
    rw [this, Nat.zero_mul, Nat.zero_add, List.getElem?_append_left hl]; exact hj
  | d :: l, i + 1, x, j, u, h, hj => by
    have ih := rowCells_get (l := l) (i := i) (x := x) (j := j) (u := u) (by simpa using h) hj
    have e : rowCells cs (d :: l) = cs d ++ rowCells cs l := by simp [rowCells]
    rw [e, List.getElem?_append_right (by rw [hk, Nat.add_mul]; omega), hk]
    rw [show (i + 1) * k + j - k = i * k + j by rw [Nat.add_mul]; omega]
    exact ih
theorem rowCells_set : ∀ {l : List α} {i : Nat} {x y : α} {j : Nat} {u : Value}, l[i]? = some x → j < k → cs y = (cs x).set j u → (rowCells cs l).set (i * k + j) u = rowCells cs (l.set i y)
  | [], i, x, y, j, u, h, _, _ => by simp at h
  | d :: l, 0, x, y, j, u, h, hj, hy => by
    simp at h; subst h
    have e : ∀ d, rowCells cs (d :: l) = cs d ++ rowCells cs l := fun d => by simp [rowCells]
    rw [e, Nat.zero_mul, Nat.zero_add, List.set_append_left _ _ (by rw [hk]; exact hj), List.set_cons_zero, e, hy]
  | d :: l, i + 1, x, y, j, u, h, hj, hy => by
    have ih := rowCells_set (l := l) (i := i) (x := x) (y := y) (j := j) (u := u) (by simpa using h) hj hy
    have e : ∀ l, rowCells cs (d :: l) = cs d ++ rowCells cs l := fun l => by simp [rowCells]
    rw [e, List.set_append_right _ _ (by rw [hk, Nat.add_mul]; omega), hk, List.set_cons_succ, e]
    rw [show (i + 1) * k + j - k = i * k + j by rw [Nat.add_mul]; omega, ih]
omit hk
/-- A struct's cells, somewhere. -/
def RAt (w : World) (g o : Nat) (x : α) : Prop := ∀ j u, (cs x)[j]? = some u → w.cell? ⟨g, o + j, none⟩ = some u
theorem RAt.below {cs : α → List Value} {w w' : World} {g o : Nat} {x : α} (h : RAt cs w g o x) (hb : Below w.heap.size w w') : RAt cs w' g o x := fun j u hj => keep_below hb (h j u hj)
/-- A row of structs that are read. -/
def Rd (k : Nat) (w : World) (v : Value) (l : List α) : Prop := ∃ A c, v = .slice A l.length c ∧ l.length ≤ c ∧ (l.length = 0 ∨ ∃ g o, A = some ⟨g, o, none⟩ ∧ ∀ (i : Nat) (x : α), l[i]? = some x → RAt cs w g (o + i * k) x)
theorem Rd.below {cs : α → List Value} {k : Nat} {w w' : World} {v : Value} {l : List α} (h : Rd cs k w v l) (hb : Below w.heap.size w w') : Rd cs k w' v l := by
  obtain ⟨A, c, h1, h2, h3⟩ := h
  refine ⟨A, c, h1, h2, ?_⟩
  rcases h3 with h0 | ⟨g, o, h4, h5⟩
  · exact .inl h0
  · exact .inr ⟨g, o, h4, fun i x hi => (h5 i x hi).below hb⟩
include hk
theorem Rd_of_q {w : World} {base : Nat} {e : TypeId} {v : Value} {l : List α} (h : QRow w base e k v l.length (rowCells cs l)) : Rd cs k w v l := by
  obtain ⟨A, c, rfl, hc⟩ := q_slice h
  refine ⟨A, c, rfl, hc, ?_⟩
  rcases h.2 with ⟨h1, h2⟩ | ⟨g, off, cap, cur, he, hg, hh, hnc, hm, hcs, ht⟩
  · exact .inl h1
  · injection he with ha _ hc'
    refine .inr ⟨g, off * k, ha, fun i x hx j u hj => ?_⟩
    have hr := rowCells_get cs hk hx hj
    rw [show off * k + i * k + j = off * k + (i * k + j) by omega, cell_of_row w g _ cur e (0, 0) hh]
    rw [← ht, List.getElem?_take] at hr
    split at hr
    · rw [List.getElem?_drop] at hr
      rw [← Array.getElem?_toList]; exact hr
    · cases hr
theorem Rd_of_own {w : World} {base n : Nat} {e : TypeId} {v : Value} {l : List α} (h : w.ownsRow base e k v n (rowCells cs l)) (hn : l.length = n) : Rd cs k w v l := by
  subst hn; exact Rd_of_q cs hk (q_of_own h)
/-- A row's cells all together. -/
theorem Rd.cells {w : World} {g o : Nat} {l : List α} (h : ∀ (i : Nat) (x : α), l[i]? = some x → RAt cs w g (o + i * k) x) : ∀ j u, (rowCells cs l)[j]? = some u → w.cell? ⟨g, o + j, none⟩ = some u := by
  intro j u hj
  have hlen := rowCells_len cs hk l
  have hjl : j < l.length * k := by rw [← hlen]; exact (List.getElem?_eq_some_iff.1 hj).1
  have hk0 : 0 < k := by rcases Nat.eq_zero_or_pos k with h | h; · subst h; omega
                         · exact h
  have hq : j / k < l.length := (Nat.div_lt_iff_lt_mul hk0).2 hjl
  have hm : j % k < k := Nat.mod_lt _ hk0
  have hdm : j / k * k + j % k = j := by rw [Nat.mul_comm]; exact Nat.div_add_mod j k
  have hx : l[j / k]? = some (l[j / k]'hq) := List.getElem?_eq_getElem hq
  have hu : (cs (l[j / k]'hq))[j % k]? = some ((cs (l[j / k]'hq))[j % k]'(by rw [hk]; exact hm)) := List.getElem?_eq_getElem _
  have h1 := rowCells_get cs hk hx hu
  rw [hdm, hj] at h1
  injection h1 with h1
  have h2 := h _ _ hx _ _ hu
  rw [show o + j / k * k + j % k = o + j by omega, ← h1] at h2
  exact h2
end
theorem own_below {B n k : Nat} {e : TypeId} {v : Value} {xs : List Value} {w w' : World} (h : w.ownsRow B e k v n xs) (hb : Below w.heap.size w w') : w'.ownsRow B e k v n xs := by
  obtain ⟨h1, h2⟩ := h
  refine ⟨h1, ?_⟩
  rcases h2 with h2 | ⟨g, cap, cur, rfl, hg, hh, r⟩
  · exact .inl h2
  · exact .inr ⟨g, cap, cur, rfl, hg, blk_below hb hh, r⟩
/-- A new block's cells. -/
theorem new_cells {w : World} {n T : Nat} {xs : List Value} (h : n = w.heap.size) : ∀ (j : Nat) (x : Value), xs[j]? = some x → (w.alloc (.cells xs.toArray T)).cell? ((⟨n, 0, none⟩ : Addr).add j) = some x := by
  subst h
  intro j x hj
  have hb : (w.alloc (.cells xs.toArray T)).heap[w.heap.size]? = some (.cells xs.toArray T (0, 0)) := heap_alloc_new _ _
  rw [show (⟨w.heap.size, 0, none⟩ : Addr).add j = ⟨w.heap.size, j, none⟩ by unfold Addr.add; split <;> simp_all, cell_of_row _ _ _ _ _ _ hb]
  simpa using hj
end Go.Proofs.Ytppndeoiifkkkaa
