/- Layer 46 (tally): the plain law: tallies of parts make the whole's. -/
import Derived.Test.YtppndeoiifkkkaaTaC
namespace Go.Proofs.Ytppndeoiifkkkaa
open Go.RowKit Sz
theorem getD_set {xs : List Int} {i j : Nat} {v : Int} (h : i < xs.length) : (xs.set i v).getD j 0 = if i = j then v else xs.getD j 0 := by
  simp only [List.getD, List.getElem?_set]
  by_cases hij : i = j
  · subst hij; simp [h]
  · simp [hij]
theorem ext20 {xs ys : List Int} (hx : xs.length = 20) (hy : ys.length = 20) (h : ∀ i, i < 20 → xs.getD i 0 = ys.getD i 0) : xs = ys := by
  apply List.ext_getElem (by omega)
  intro i h1 h2
  have := h i (by omega)
  simpa [List.getD, h1, h2] using this
theorem addS_get (xs ys : List Int) (hx : xs.length = 20) : ∀ n, n ≤ 16 → ∀ i, (addS xs ys n).getD i 0 = if i < n then IntKind.i64.wrap (xs.getD i 0 + ys.getD i 0) else xs.getD i 0
  | 0, _, i => by simp [addS]
  | n + 1, hn, i => by
    have l1 : (addS xs ys n).length = 20 := by rw [addS_len, hx]
    have ih := addS_get xs ys hx n (by omega)
    simp only [addS]
    rw [getD_set (by omega), ih i, ih n]
    by_cases h1 : n = i
    · subst h1; simp
    · rw [if_neg h1]
      by_cases h2 : i < n
      · rw [if_pos h2, if_pos (by omega)]
      · rw [if_neg h2, if_neg (by omega)]
structure AddIs (xs ys zs : List Int) : Prop where
  st : ∀ i, i < 17 → zs.getD i 0 = IntKind.i64.wrap (xs.getD i 0 + ys.getD i 0)
  f : zs.getD 17 0 = if xs.getD 17 0 = -1 then ys.getD 17 0 else xs.getD 17 0
  l : zs.getD 18 0 = if xs.getD 17 0 = -1 then ys.getD 18 0 else if ys.getD 17 0 = -1 then xs.getD 18 0 else ys.getD 18 0
  g : zs.getD 19 0 = if xs.getD 17 0 = -1 then mx (xs.getD 19 0) (ys.getD 19 0) else if ys.getD 17 0 = -1 then mx (xs.getD 19 0) (ys.getD 19 0) else mx (mx (xs.getD 19 0) (ys.getD 19 0)) (IntKind.i64.wrap (ys.getD 17 0 - xs.getD 18 0))
theorem addF_is {xs ys : List Int} (hx : xs.length = 20) : AddIs xs ys (addF xs ys) := by
  have l1 : (addS xs ys 16).length = 20 := by rw [addS_len, hx]
  have hg := addS_get xs ys hx 16 (Nat.le_refl _)
  unfold addF addT
  generalize addS xs ys 16 = a at l1 hg
  have g16 := hg 16
  have g17 := hg 17
  have g18 := hg 18
  have g19 := hg 19
  simp only [Nat.lt_irrefl, if_false, Nat.reduceLT] at g16 g17 g18 g19
  have s16 : ∀ j, (a.set 16 (IntKind.i64.wrap (a.getD 16 0 + ys.getD 16 0))).getD j 0 = if 16 = j then IntKind.i64.wrap (xs.getD 16 0 + ys.getD 16 0) else a.getD j 0 := fun j => by rw [getD_set (by omega), g16]
  simp only
  generalize hb : a.set 16 (IntKind.i64.wrap (a.getD 16 0 + ys.getD 16 0)) = b at s16
  have lb : b.length = 20 := by rw [← hb, List.length_set, l1]
  have b19 : b.getD 19 0 = xs.getD 19 0 := by rw [s16 19, if_neg (by omega), g19]
  have s19 : ∀ j, (b.set 19 (mx (b.getD 19 0) (ys.getD 19 0))).getD j 0 = if 19 = j then mx (xs.getD 19 0) (ys.getD 19 0) else b.getD j 0 := fun j => by rw [getD_set (by omega), b19]
  generalize hc : b.set 19 (mx (b.getD 19 0) (ys.getD 19 0)) = c at s19
  have lc : c.length = 20 := by rw [← hc, List.length_set, lb]
  have c17 : c.getD 17 0 = xs.getD 17 0 := by rw [s19, if_neg (by omega), s16, if_neg (by omega), g17]
  have c18 : c.getD 18 0 = xs.getD 18 0 := by rw [s19, if_neg (by omega), s16, if_neg (by omega), g18]
  have c19 : c.getD 19 0 = mx (xs.getD 19 0) (ys.getD 19 0) := by rw [s19, if_pos rfl]
  have cst : ∀ i, i < 17 → c.getD i 0 = IntKind.i64.wrap (xs.getD i 0 + ys.getD i 0) := fun i hi => by
    rw [s19, if_neg (by omega), s16]
    by_cases h16 : 16 = i
    · rw [if_pos h16, ← h16]
    · rw [if_neg h16, hg, if_pos (by omega)]
  rw [c17, c18, c19]
  by_cases h1 : xs.getD 17 0 = -1
  · have hb1 : (xs.getD 17 0 == -1) = true := by simpa using h1
    rw [if_pos hb1]
    have q : ∀ j, ((c.set 17 (ys.getD 17 0)).set 18 (ys.getD 18 0)).getD j 0 = if 18 = j then ys.getD 18 0 else if 17 = j then ys.getD 17 0 else c.getD j 0 := fun j => by rw [getD_set (by simp [lc]), getD_set (by omega)]
    refine ⟨fun i hi => ?_, ?_, ?_, ?_⟩
    · rw [q, if_neg (by omega), if_neg (by omega), cst i hi]
    · rw [q, if_neg (by omega), if_pos rfl, if_pos h1]
    · rw [q, if_pos rfl, if_pos h1]
    · rw [q, if_neg (by omega), if_neg (by omega), if_pos h1, c19]
  · have hb1 : ¬ (xs.getD 17 0 == -1) = true := by simpa using h1
    rw [if_neg hb1]
    by_cases h2 : ys.getD 17 0 = -1
    · have hb2 : ¬ (ys.getD 17 0 != -1) = true := by simpa using h2
      rw [if_neg hb2]
      refine ⟨cst, ?_, ?_, ?_⟩
      · rw [c17, if_neg h1]
      · rw [c18, if_neg h1, if_pos h2]
      · rw [c19, if_neg h1, if_pos h2]
    · have hb2 : (ys.getD 17 0 != -1) = true := by simpa using h2
      rw [if_pos hb2]
      have q : ∀ v j, ((c.set 19 v).set 18 (ys.getD 18 0)).getD j 0 = if 18 = j then ys.getD 18 0 else if 19 = j then v else c.getD j 0 := fun v j => by rw [getD_set (by simp [lc]), getD_set (by omega)]
      refine ⟨fun i hi => ?_, ?_, ?_, ?_⟩
      · rw [q, if_neg (by omega), if_neg (by omega), cst i hi]
      · rw [q, if_neg (by omega), if_neg (by omega), if_neg h1, c17]
      · rw [q, if_pos rfl, if_neg h1, if_neg h2]
      · rw [q, if_neg (by omega), if_pos rfl, if_neg h1, if_neg h2]
theorem wrap_wrap (x : Int) : IntKind.i64.wrap (IntKind.i64.wrap x) = IntKind.i64.wrap x := by
  rw [IntKind.wrap_i64, IntKind.wrap_i64]; omega
theorem wrap_addl (x y : Int) : IntKind.i64.wrap (IntKind.i64.wrap x + y) = IntKind.i64.wrap (x + y) := by
  simp only [IntKind.wrap_i64]; omega
theorem wrap_addr (x y : Int) : IntKind.i64.wrap (x + IntKind.i64.wrap y) = IntKind.i64.wrap (x + y) := by
  simp only [IntKind.wrap_i64]; omega
theorem mx_is (p q : Int) : mx p q = max p q := by unfold mx; split <;> omega
theorem cf (a b c : Int) : (if a = -1 then (if b = -1 then c else b) else a) = if (if a = -1 then b else a) = -1 then c else (if a = -1 then b else a) := by
  by_cases h1 : a = -1 <;> by_cases h2 : b = -1 <;> simp [h1, h2]
theorem cl (a b c a8 b8 c8 : Int) : (if a = -1 then (if b = -1 then c8 else if c = -1 then b8 else c8) else if (if b = -1 then c else b) = -1 then a8 else (if b = -1 then c8 else if c = -1 then b8 else c8)) =
    if (if a = -1 then b else a) = -1 then c8 else if c = -1 then (if a = -1 then b8 else if b = -1 then a8 else b8) else c8 := by
  by_cases h1 : a = -1 <;> by_cases h2 : b = -1 <;> by_cases h3 : c = -1 <;> simp [h1, h2, h3]
theorem cg (w : Int → Int) (a b c a8 b8 ag bg cg : Int) :
    (if a = -1 then max ag (if b = -1 then max bg cg else if c = -1 then max bg cg else max (max bg cg) (w (c - b8))) else if (if b = -1 then c else b) = -1 then max ag (if b = -1 then max bg cg else if c = -1 then max bg cg else max (max bg cg) (w (c - b8))) else max (max ag (if b = -1 then max bg cg else if c = -1 then max bg cg else max (max bg cg) (w (c - b8)))) (w ((if b = -1 then c else b) - a8))) =
    if (if a = -1 then b else a) = -1 then max (if a = -1 then max ag bg else if b = -1 then max ag bg else max (max ag bg) (w (b - a8))) cg else if c = -1 then max (if a = -1 then max ag bg else if b = -1 then max ag bg else max (max ag bg) (w (b - a8))) cg else max (max (if a = -1 then max ag bg else if b = -1 then max ag bg else max (max ag bg) (w (b - a8))) cg) (w (c - (if a = -1 then b8 else if b = -1 then a8 else b8))) := by
  by_cases h1 : a = -1 <;> by_cases h2 : b = -1 <;> by_cases h3 : c = -1 <;> simp only [h1, h2, h3, if_true, if_false] <;> omega
/-- Tallies put together are put together, whatever is first. -/
theorem addF_assoc {a b c : List Int} (ha : a.length = 20) (hb : b.length = 20) : addF a (addF b c) = addF (addF a b) c := by
  have l1 : (addF a b).length = 20 := by rw [addF_len, ha]
  have i1 := addF_is (xs := b) (ys := c) hb
  have i2 := addF_is (xs := a) (ys := addF b c) ha
  have i3 := addF_is (xs := a) (ys := b) ha
  have i4 := addF_is (xs := addF a b) (ys := c) l1
  have e1 : (addF a (addF b c)).length = 20 := by rw [addF_len, ha]
  have e2 : (addF (addF a b) c).length = 20 := by rw [addF_len, l1]
  generalize addF a (addF b c) = x at *
  generalize addF (addF a b) c = y at *
  generalize addF b c = bc at *
  generalize addF a b = ab at *
  refine ext20 e1 e2 fun i hi => ?_
  by_cases h17 : i < 17
  · rw [i2.st i h17, i1.st i h17, i4.st i h17, i3.st i h17, wrap_addl, wrap_addr, Int.add_assoc]
  · rcases (by omega : i = 17 ∨ i = 18 ∨ i = 19) with rfl | rfl | rfl
    · rw [i2.f, i4.f, i1.f, i3.f]
      exact cf _ _ _
    · rw [i2.l, i4.l, i1.l, i3.l, i1.f, i3.f]
      exact cl _ _ _ _ _ _
    · rw [i2.g, i4.g, i1.g, i3.g, i1.f, i3.f, i3.l]
      simp only [mx_is]
      exact cg _ _ _ _ _ _ _ _ _
structure Good (t : List Int) : Prop where
  len : t.length = 20
  st : ∀ i, i < 17 → IntKind.i64.wrap (t.getD i 0) = t.getD i 0
  fl : t.getD 17 0 = -1 → t.getD 18 0 = -1
  g : 0 ≤ t.getD 19 0
theorem noneT_get (i : Nat) : noneT.getD i 0 = if i = 17 ∨ i = 18 then -1 else 0 := by
  rcases (by omega : i = 0 ∨ i = 1 ∨ i = 2 ∨ i = 3 ∨ i = 4 ∨ i = 5 ∨ i = 6 ∨ i = 7 ∨ i = 8 ∨ i = 9 ∨ i = 10 ∨ i = 11 ∨ i = 12 ∨ i = 13 ∨ i = 14 ∨ i = 15 ∨ i = 16 ∨ i = 17 ∨ i = 18 ∨ i = 19 ∨ 20 ≤ i) with rfl | rfl | rfl | rfl | rfl | rfl | rfl | rfl | rfl | rfl | rfl | rfl | rfl | rfl | rfl | rfl | rfl | rfl | rfl | rfl | h
  all_goals first | rfl | skip
  rw [if_neg (by omega)]
  have : noneT.length ≤ i := h
  simp [List.getD, List.getElem?_eq_none this]
theorem good_none : Good noneT := ⟨rfl, fun i hi => by rw [noneT_get, if_neg (by omega)]; decide, fun _ => by rw [noneT_get, if_pos (by omega)], by rw [noneT_get, if_neg (by omega)]; decide⟩
theorem good_add {a b : List Int} (ha : Good a) (hb : b.getD 17 0 = -1 → b.getD 18 0 = -1) (hg : 0 ≤ b.getD 19 0) : Good (addF a b) := by
  have is := addF_is (xs := a) (ys := b) ha.len
  refine ⟨by rw [addF_len, ha.len], fun i hi => by rw [is.st i hi, wrap_wrap], fun h => ?_, ?_⟩
  · rw [is.f] at h
    rw [is.l]
    split at h
    · rename_i h1; rw [if_pos h1]; exact hb h
    · rename_i h1; exact (h1 h).elim
  · rw [is.g]
    have := ha.g
    simp only [mx_is]
    repeat' split
    all_goals omega
theorem one_get (d : Dn) (i : Nat) (hi : 16 ≤ i) : (oneF d).getD i 0 = (zF d).getD i 0 := by
  unfold oneF
  split
  · rename_i h
    rw [getD_set (by rw [zF_len]; omega), if_neg (by omega)]
  · rfl
theorem good_one {a : List Int} (h : Good a) (d : Dn) : Good (addF a (oneF d)) := by
  refine good_add h (fun h1 => ?_) ?_
  · rw [one_get d 17 (by decide)] at h1
    rw [one_get d 18 (by decide)]
    exact h1
  · rw [one_get d 19 (by decide)]
    exact Int.le_refl _
theorem good_of (l : List Dn) : Good (ofF l) := foldl_inv (Q := fun t : List Int => Good t) (fun _ d h => good_one h d) l good_none
theorem add_none {t : List Int} (h : Good t) : addF t noneT = t := by
  have is := addF_is (xs := t) (ys := noneT) h.len
  refine ext20 (by rw [addF_len, h.len]) h.len fun i hi => ?_
  have n17 := noneT_get 17
  have n18 := noneT_get 18
  have n19 := noneT_get 19
  simp only [true_or, or_true, if_true] at n17 n18
  rw [if_neg (by omega)] at n19
  by_cases h17 : i < 17
  · rw [is.st i h17, noneT_get, if_neg (by omega), Int.add_zero, h.st i h17]
  · rcases (by omega : i = 17 ∨ i = 18 ∨ i = 19) with rfl | rfl | rfl
    · rw [is.f, n17]; split <;> omega
    · rw [is.l, n17, n18]
      split
      · rename_i h1; rw [h.fl h1]
      · rw [if_pos rfl]
    · rw [is.g, n17, n19]
      have := h.g
      simp only [mx_is]
      split
      · omega
      · simp only [if_true]; omega
theorem none_add {t : List Int} (h : Good t) : addF noneT t = t := by
  have is := addF_is (xs := noneT) (ys := t) rfl
  refine ext20 (by rw [addF_len]; rfl) h.len fun i hi => ?_
  have n17 := noneT_get 17
  have n19 := noneT_get 19
  simp only [true_or, if_true] at n17
  rw [if_neg (by omega)] at n19
  by_cases h17 : i < 17
  · rw [is.st i h17, noneT_get, if_neg (by omega), Int.zero_add, h.st i h17]
  · rcases (by omega : i = 17 ∨ i = 18 ∨ i = 19) with rfl | rfl | rfl
    · rw [is.f, if_pos n17]
    · rw [is.l, if_pos n17]
    · rw [is.g, if_pos n17, n19, mx_is]
      have := h.g
      omega
theorem fold_app {a : List Int} (ha : Good a) : ∀ (l : List Dn) {b : List Int}, Good b → l.foldl (fun t d => addF t (oneF d)) (addF a b) = addF a (l.foldl (fun t d => addF t (oneF d)) b)
  | [], b, _ => by rw [List.foldl_nil, List.foldl_nil]
  | d :: l, b, hb => by
    have h1 := fold_app ha l (good_one hb d)
    rw [List.foldl_cons, List.foldl_cons, ← h1, addF_assoc ha.len hb.len]
theorem of_app (k l : List Dn) : ofF (k ++ l) = addF (ofF k) (ofF l) := by
  have h := fold_app (good_of k) l good_none
  rw [add_none (good_of k)] at h
  have e : ofF (k ++ l) = l.foldl (fun t d => addF t (oneF d)) (ofF k) := by unfold ofF; rw [List.foldl_append]
  have e2 : ofF l = l.foldl (fun t d => addF t (oneF d)) noneT := by unfold ofF; rw [← List.foldl_nil (f := fun (t : List Int) (d : Dn) => addF t (oneF d)) (b := noneT)]
  rw [e, h, e2]
end Go.Proofs.Ytppndeoiifkkkaa
