/- Symbolic walks, part O: a law's arguments, as rows that are read. No condition. -/
import Derived.Test.YtibefgdjijmncaaSzM
import Derived.Test.YtibefgdjijmncaaOpen
namespace Go.Proofs.Ytibefgdjijmncaa.Sz
open Go.RowKit
set_option linter.unusedVariables false
theorem rowV_get {α : Type} {cs : α → List Value} {z : Nat} (hz : ∀ x, (cs x).length = z) (h0 : 0 < z) : ∀ {l : List α} {j : Nat} {u : Value}, (rowV cs l)[j]? = some u → ∃ x, l[j / z]? = some x ∧ (cs x)[j % z]? = some u
  | [], j, u, h => by simp [rowV] at h
  | x :: l, j, u, h => by
    have e : rowV cs (x :: l) = cs x ++ rowV cs l := rfl
    rw [e] at h
    by_cases hj : j < z
    · rw [List.getElem?_append_left (by rw [hz]; exact hj)] at h
      exact ⟨x, by rw [Nat.div_eq_of_lt hj]; rfl, by rw [Nat.mod_eq_of_lt hj]; exact h⟩
    · rw [List.getElem?_append_right (by rw [hz]; omega), hz] at h
      obtain ⟨y, h1, h2⟩ := rowV_get hz h0 h
      refine ⟨y, ?_, ?_⟩
      · rw [Nat.div_eq_sub_div h0 (by omega)]
        simpa using h1
      · rw [Nat.mod_eq_sub_mod (by omega)]; exact h2
theorem rows_of_sl {α : Type} {cs : α → List Value} {z : Nat} (hz : ∀ x, (cs x).length = z) (h0 : 0 < z) {W : World} {v : Value} {F : List Value → Prop} {Q : α → Prop} (h : SlFits W v z F) (hF : ∀ l, F l → ∃ x, cs x = l ∧ Q x) :
    ∃ A n c l, v = .slice A n c ∧ n ≤ c ∧ c ≤ 9223372036854775807 ∧ l.length = n ∧ (∀ x ∈ l, Q x) ∧ @inpL (inpOf W) A (n * z) = some (rowV cs l) := by
  obtain ⟨A, n, c, rfl, hn, hc, hh⟩ := sl_open h h0
  have hc' : c ≤ 9223372036854775807 := by simpa [maxLen] using hc
  rcases hh with rfl | ⟨g, o, rfl, hcell⟩
  · exact ⟨A, 0, c, [], rfl, hn, hc', rfl, by simp, by simp [inpL, rowV]⟩
  · obtain ⟨l, hl, hp⟩ := list_of (p := fun i x => Q x ∧ ∀ j u, (cs x)[j]? = some u → W.cell? ⟨g, o + i * z + j, none⟩ = some u) n (fun i hi => by
      obtain ⟨us, _, h1, h2⟩ := hcell i hi
      obtain ⟨x, rfl, hq⟩ := hF us h2
      exact ⟨x, hq, h1⟩)
    refine ⟨_, n, c, l, rfl, hn, hc', hl, fun x hx => ?_, inpL_of (I := inpOf W) (by rw [rowV_len hz, hl]) fun _ => ⟨_, rfl, rfl, fun j u hj => ?_⟩⟩
    · obtain ⟨i, hi⟩ := List.getElem?_of_mem hx
      exact (hp i x hi).1
    · obtain ⟨x, h1, h2⟩ := rowV_get hz h0 hj
      have := (hp _ x h1).2 _ u h2
      show W.cell? ((⟨g, o, none⟩ : Addr).add j) = some u
      rw [Addr.add_lit]
      have e : o + j / z * z + j % z = o + j := by rw [Nat.add_assoc, Nat.mul_comm, Nat.div_add_mod]
      rwa [e] at this
end Go.Proofs.Ytibefgdjijmncaa.Sz
