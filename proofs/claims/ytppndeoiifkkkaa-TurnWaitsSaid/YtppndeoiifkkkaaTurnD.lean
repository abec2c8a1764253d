/- Layer 42 (turn): the document's order. -/
import Derived.Test.YtppndeoiifkkkaaTurnC
namespace Go.Proofs.Ytppndeoiifkkkaa
open Go.RowKit
set_option linter.unusedVariables false

/-- How often tenant t's turn has come in i slots. -/
def vis (s t i : Int) : Int := (i - (t - s % 4 + 4) % 4 + 3) / 4
def qv (s q t i : Int) : Int := if lenF q ≤ vis s t i then 0 else lenF q - vis s t i
def xv (s q t i : Int) : Int :=
  if vis s t i ≤ 0 then 0 else if lenF q = 0 then 0 else if vis s t i ≤ lenF q then (t - s % 4 + 4) % 4 + 4 * (vis s t i - 1) + 1 else (t - s % 4 + 4) % 4 + 4 * (lenF q - 1) + 1
theorem vis_hit {s t i : Int} (h : 0 ≤ s) (hi : 0 ≤ i) (ht : 0 ≤ t) (ht4 : t < 4) (e : (s + i) % 4 = t) : vis s t (i + 1) = vis s t i + 1 ∧ vis s t i = i / 4 ∧ i = (t - s % 4 + 4) % 4 + 4 * vis s t i := by
  unfold vis; omega
theorem vis_miss {s t i : Int} (h : 0 ≤ s) (hi : 0 ≤ i) (ht : 0 ≤ t) (ht4 : t < 4) (e : ¬ (s + i) % 4 = t) : vis s t (i + 1) = vis s t i := by
  unfold vis; omega
theorem vis_nn {s t i : Int} (hi : 0 ≤ i) : 0 ≤ vis s t i := by unfold vis; omega
theorem vis_mono {s t i j : Int} (h : i ≤ j) : vis s t i ≤ vis s t j := by unfold vis; omega
theorem qv_bd (s q t i : Int) (hi : 0 ≤ i) : 0 ≤ qv s q t i ∧ qv s q t i ≤ 8 := by
  have := lenF_bd q; have := vis_nn (s := s) (t := t) hi
  unfold qv; split <;> omega
theorem qv_miss {s q t i : Int} (h : 0 ≤ s) (hi : 0 ≤ i) (ht : 0 ≤ t) (ht4 : t < 4) (e : ¬ (s + i) % 4 = t) : qv s q t (i + 1) = qv s q t i := by
  unfold qv; rw [vis_miss h hi ht ht4 e]
theorem xv_miss {s q t i : Int} (h : 0 ≤ s) (hi : 0 ≤ i) (ht : 0 ≤ t) (ht4 : t < 4) (e : ¬ (s + i) % 4 = t) : xv s q t (i + 1) = xv s q t i := by
  unfold xv; rw [vis_miss h hi ht ht4 e]
/-- The turn's own tenant, with something left. -/
theorem hit_some {s q t i : Int} (h : 0 ≤ s) (hi : 0 ≤ i) (ht : 0 ≤ t) (ht4 : t < 4) (e : (s + i) % 4 = t) (hq : 0 < qv s q t i) : qv s q t (i + 1) = qv s q t i - 1 ∧ xv s q t (i + 1) = i + 1 ∧ i / 4 < lenF q := by
  obtain ⟨h1, h2, h3⟩ := vis_hit h hi ht ht4 e
  have hn := vis_nn (s := s) (t := t) hi
  have hl := lenF_bd q
  unfold qv at hq
  split at hq
  · omega
  · refine ⟨?_, ?_, by omega⟩
    · unfold qv
      rw [h1, if_neg (by omega : ¬ lenF q ≤ vis s t i)]
      split <;> omega
    · unfold xv
      rw [h1, if_neg (by omega), if_neg (by omega), if_pos (by omega)]
      omega
theorem hit_none {s q t i : Int} (h : 0 ≤ s) (hi : 0 ≤ i) (ht : 0 ≤ t) (ht4 : t < 4) (e : (s + i) % 4 = t) (hq : ¬ 0 < qv s q t i) : qv s q t (i + 1) = qv s q t i ∧ xv s q t (i + 1) = xv s q t i ∧ ¬ i / 4 < lenF q := by
  obtain ⟨h1, h2, h3⟩ := vis_hit h hi ht ht4 e
  have hn := vis_nn (s := s) (t := t) hi
  have hl := lenF_bd q
  unfold qv at hq
  split at hq
  · rename_i hle
    refine ⟨?_, ?_, by omega⟩
    · unfold qv
      rw [h1, if_pos (by omega), if_pos hle]
    · unfold xv
      rw [h1, if_neg (by omega)]
      by_cases h0 : lenF q = 0
      · rw [if_pos h0, if_pos h0]; split <;> rfl
      · rw [if_neg h0, if_neg (by omega), if_neg (by omega), if_neg h0]
        split
        · have : vis s t i = lenF q := by omega
          rw [this]
        · rfl
  · omega
/-- At the end: nothing is left of t. -/
theorem xv_end {s q t i : Int} (h : 0 ≤ s) (h2 : s ≤ 1099511627776) (hi : 0 ≤ i) (ht : 0 ≤ t) (ht4 : t < 4) (hq : ¬ 0 < qv s q t i) : xv s q t i = wait1 s t q := by
  have hn := vis_nn (s := s) (t := t) hi
  have hl := lenF_bd q
  have hs : slottedB s = true := (slottedB_iff s).2 ⟨h, h2⟩
  have hle : lenF q ≤ vis s t i := by
    unfold qv at hq; split at hq <;> omega
  unfold wait1 xv
  rw [if_pos hs]
  by_cases h0 : lenF q = 0
  · rw [if_pos h0, if_pos h0]; split <;> rfl
  · rw [if_neg h0, if_neg h0, if_neg (by omega)]
    unfold atF
    have hr : rightB s t = true ∧ 0 ≤ lenF q - 1 ∧ lenF q - 1 ≤ 1048576 := ⟨(rightB_iff s t).2 ⟨⟨h, h2⟩, ht, ht4⟩, by omega, by omega⟩
    rw [if_pos hr]
    split <;> omega
theorem qsel_t (a b c d : Int) : qsel a b c d 0 = a ∧ qsel a b c d 1 = b ∧ qsel a b c d 2 = c ∧ qsel a b c d 3 = d := ⟨rfl, rfl, rfl, rfl⟩
theorem hitB_of {s a b c d t : Int} {i : Nat} (e : (s + i) % 4 = t) (hh : (i : Int) / 4 < lenF (qsel a b c d t)) : hitB s a b c d i = true := by
  unfold hitB; rw [decide_eq_true_iff, e]; simpa using hh
theorem hitB_not {s a b c d t : Int} {i : Nat} (e : (s + i) % 4 = t) (hh : ¬ (i : Int) / 4 < lenF (qsel a b c d t)) : hitB s a b c d i = false := by
  unfold hitB; rw [decide_eq_false_iff_not, e]; simpa using hh
/-- Where nothing is left of anybody, no more turns come. -/
theorem preO_stays {s a b c d : Int} {i : Nat} (h : 0 ≤ s) (h0 : ¬ 0 < qv s a 0 i) (h1 : ¬ 0 < qv s b 1 i) (h2 : ¬ 0 < qv s c 2 i) (h3 : ¬ 0 < qv s d 3 i) : ∀ k : Nat, preO s a b c d (i + k) = preO s a b c d i := by
  intro k
  induction k with
  | zero => rfl
  | succ k ih =>
    rw [← ih, show i + (k + 1) = i + k + 1 by omega]
    have key : ∀ q t : Int, 0 ≤ t → t < 4 → (s + ((i + k : Nat) : Int)) % 4 = t → ¬ 0 < qv s q t i → ¬ ((i + k : Nat) : Int) / 4 < lenF q := by
      intro q t ht ht4 e hq
      have hn := vis_nn (s := s) (t := t) (i := (i : Int)) (by omega)
      have hm := vis_mono (s := s) (t := t) (i := (i : Int)) (j := ((i + k : Nat) : Int)) (by omega)
      have hv := (vis_hit h (by omega) ht ht4 e).2.1
      have hle : lenF q ≤ vis s t i := by unfold qv at hq; split at hq <;> omega
      omega
    have h4 : (s + ((i + k : Nat) : Int)) % 4 = 0 ∨ (s + ((i + k : Nat) : Int)) % 4 = 1 ∨ (s + ((i + k : Nat) : Int)) % 4 = 2 ∨ (s + ((i + k : Nat) : Int)) % 4 = 3 := by omega
    rcases h4 with e | e | e | e
    · exact preO_miss (hitB_not e (key a 0 (by omega) (by omega) e h0))
    · exact preO_miss (hitB_not e (key b 1 (by omega) (by omega) e h1))
    · exact preO_miss (hitB_not e (key c 2 (by omega) (by omega) e h2))
    · exact preO_miss (hitB_not e (key d 3 (by omega) (by omega) e h3))
theorem qv_32 {s q t i : Int} (h : 0 ≤ s) (ht : 0 ≤ t) (ht4 : t < 4) (hi : 32 ≤ i) : ¬ 0 < qv s q t i := by
  have hl := lenF_bd q
  have : 8 ≤ vis s t i := by unfold vis; omega
  unfold qv; split <;> omega
theorem qv_0 {s q t : Int} (h : 0 ≤ s) (ht : 0 ≤ t) (ht4 : t < 4) : qv s q t 0 = lenF q := by
  have hl := lenF_bd q
  have : vis s t 0 = 0 := by unfold vis; omega
  unfold qv; rw [this]; split <;> omega
theorem xv_0 {s q t : Int} (h : 0 ≤ s) (ht : 0 ≤ t) (ht4 : t < 4) : xv s q t 0 = 0 := by
  have : vis s t 0 = 0 := by unfold vis; omega
  unfold xv; rw [this]; rfl
end Go.Proofs.Ytppndeoiifkkkaa
