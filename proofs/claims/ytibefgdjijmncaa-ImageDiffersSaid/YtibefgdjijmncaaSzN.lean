/- Symbolic walks, part N: rows that may still be nil. No condition. -/
import Derived.Test.YtibefgdjijmncaaSzM
namespace Go.Proofs.Ytibefgdjijmncaa.Sz
open Go.RowKit
set_option linter.unusedVariables false
set_option linter.unusedSimpArgs false
/-- A slice of n elements: nil, as long as there is none. -/
def oV (k z n : Nat) : SV := if n = 0 then .v (.slice none 0 0) else .row k 0 n z
/-- Its object; nothing, as long as there is none. -/
def oO (cs : List SV) : SObj := ⟨!cs.isEmpty, cs⟩
def oOk1 (o : Option SObj) (n z : Nat) : Prop := match o with | some ob => (ob = oO ob.cells) ∧ ob.cells.length = n * z ∧ 0 < z | none => False
def oOk (m : Mem) (k n z : Nat) : Prop := oOk1 m[k]? n z
section
variable {m : Mem} {k n z : Nat} {cs : List SV} {K : SV → Prop}
theorem oOk_c : oOk m k n z = oOk1 m[k]? n z := rfl
theorem oOk_o : oOk1 (some (oO cs)) n z = (cs.length = n * z ∧ 0 < z) := by simp [oOk1, oO]
@[simp] theorem oO_x : (oO cs).x = noExt := rfl
theorem oO_isM : (oO cs).isM = false := rfl
theorem oO_cells : (oO cs).cells = cs := rfl
theorem oO_own : (oO cs).own = !cs.isEmpty := rfl
theorem oV_0 : oV k z 0 = .v (.slice none 0 0) := rfl
theorem oV_s : oV k z (n + 1) = .row k 0 (n + 1) z := rfl
theorem oO_nil : oO [] = ⟨false, []⟩ := rfl
theorem oO_cons {c : SV} : oO (c :: cs) = ⟨true, c :: cs⟩ := rfl
theorem oO_iL {xs : List Int} {y : Int} : oO (iL (xs ++ [y])) = ⟨true, iL (xs ++ [y])⟩ := by simp [oO, iL]
theorem oO_app {c : SV} {ds : List SV} : oO (cs ++ c :: ds) = ⟨true, cs ++ c :: ds⟩ := by simp [oO]
theorem o_sl [Inp] (h : oOk m k n z) : slOf m z (oV k z n) = (m[k]?).map fun o => (n, o.cells) := by
  unfold oOk oOk1 at h
  unfold oV
  split at h
  · rename_i ob hob
    obtain ⟨_, h1, h2⟩ := h
    by_cases hn : n = 0
    · subst hn
      rw [Nat.zero_mul] at h1
      rw [if_pos rfl, sl_0, hob, Option.map_some, List.length_eq_zero_iff.1 h1]
    · rw [if_neg hn, sl_row, hob, sl_k, Nat.zero_add, if_pos (by omega), List.drop_zero, List.take_of_length_le (by omega)]
      rfl
  · exact h.elim
theorem o_grows (h : oOk m k n z) : grows m z (oV k z n) := by
  unfold oOk oOk1 at h
  unfold oV
  split at h
  · rename_i ob hob
    obtain ⟨h0, h1, h2⟩ := h
    by_cases hn : n = 0
    · rw [if_pos hn]; rfl
    · rw [if_neg hn]
      refine ⟨rfl, ?_⟩
      simp only [hob]
      rw [h0]
      refine ⟨⟨?_, by rw [oO_cells]; omega⟩, rfl⟩
      show (!ob.cells.isEmpty) = true
      have : ob.cells ≠ [] := fun e => by
        rw [e, List.length_nil] at h1
        have := Nat.mul_pos (Nat.pos_of_ne_zero hn) h2
        omega
      simpa using this
  · exact h.elim
theorem o_kill (h : oOk m k n z) : kill m (oV k z n) = m.set k ⟨false, []⟩ := by
  unfold oOk oOk1 at h
  unfold oV
  split at h
  · rename_i ob hob
    obtain ⟨h0, h1, h2⟩ := h
    by_cases hn : n = 0
    · subst hn
      rw [if_pos rfl, k_v]
      rw [Nat.zero_mul] at h1
      have hc := List.length_eq_zero_iff.1 h1
      obtain ⟨hlt, hge⟩ := List.getElem?_eq_some_iff.1 hob
      have e : ob = ⟨false, []⟩ := by
        rw [h0, hc]; rfl
      rw [← e, ← hge]
      simp
    · rw [if_neg hn, k_row]
  · exact h.elim
theorem o_len : lenK (oV k z n) K = K (.v (.int .i64 n)) := by
  unfold oV
  split
  · rename_i h; subst h; rfl
  · rfl
theorem o_cap : capOk (oV k z n) = True := by
  unfold oV
  split
  · simp [capOk]
  · rfl
theorem o_isl {q : IntKind} {p : Int} : islK z (oV k z n) (.v (.int q p)) K = ((0 ≤ p ∧ p < (n : Int)) ∧ mwK (.ptr k (0 + p.toNat * z)) K) := by
  unfold oV
  split
  · rename_i h; subst h
    rw [v_islp]
    simp only [Option.isSome_none, Bool.false_eq_true, and_false, false_and, eq_iff_iff, false_iff, not_and]
    intro h; omega
  · rfl
theorem o_le {g : List Nat} {k' : Nat} : Le g (oV k z n) (oV k' z n) = (n = 0 ∨ g[k]? = some k') := by
  unfold oV
  by_cases h : n = 0
  · simp [h, Le]
  · simp only [h, if_false, Le, false_or, eq_iff_iff]
    cases hg : g[k]? with
    | none => simp
    | some k2 => simp [eq_comm]
theorem o_cells : (oV k z n).cells = some [oV k z n] := by
  unfold oV
  split <;> rfl
theorem o_one : (oV k z n).one = true := by
  unfold oV
  split <;> rfl
theorem o_up {d : Nat} : (oV k z n).up d = oV (d + k) z n := by
  unfold oV
  split <;> simp [SV.up]
end
theorem inp_from [I : Inp] {W : World} {base : Nat → Prop} {w0 : World} {r : List Loc} {m : Mem} (hst : St base w0 r m W) {p : Option Addr} {k : Nat} {us : List Value} (h : inpL p k = some us) : @inpL (inpOf W) p k = some us := by
  obtain ⟨hl, hc⟩ := inpL_some h
  refine inpL_of (I := inpOf W) hl fun hne => ?_
  have hk : k ≠ 0 := by
    intro h0
    rw [h0] at hl
    exact hne (List.length_eq_zero_iff.1 hl)
  obtain ⟨a, rfl, hs, hc⟩ := hc hk
  exact ⟨a, rfl, hs, fun j u hj => hst.inp_at (hc j u hj)⟩
section
variable {P : Program} {f : FuncId} {eff : List FuncId} {N : Nat} {x : XC} {rs : List XR}
/-- A function that only reads, and gives a plain value: its arguments are plain, what they lead to is input. -/
theorem Contract.readN [I : Inp] (hF : FnX P f eff N x rs) {G : Inp → List CEntry} (hG : ∀ J, @GOk J P (G J)) (tr : Trans)
    (body : ∀ args m k, tr args m k → args.length ≤ N ∧ ∀ (J : Inp), J.keep = 0 → ∀ (us : List Value), KnowsL I J m args us → (∀ p k vs, @inpL I p k = some vs → @inpL J p k = some vs) → @evX J P N eff (G J) x (slots (argSlots 0 (us.map SV.of))) [] (fun ex e m' => EndsX ex ∧ evR rs e m' fun s => s.plain = true ∧ k s m)) : Contract P f true tr := by
  refine ⟨hF.enter, fun args m k base w0 W r vs ht hst ha => ?_⟩
  obtain ⟨hlen, hev⟩ := body args m k ht
  have hk := knowsL_of hst ha
  have hvl := IsL_len ha
  refine (@FnX.calls P f eff N x rs (G (inpOf W)) (inpOf W) hF (hG (inpOf W)) _ _ _ _ _ _ _ (St.inpOf W) (isL_of vs) (by simp; omega) (fun s _ => s.plain = true ∧ k s m) (hev (inpOf W) rfl vs hk fun p k us h => inp_from hst h)).mono ?_
  rintro e W1 ⟨s, m', r', u, ⟨hp, hk⟩, rfl, hst1, hs, _⟩
  have hb : Below W.heap.size W W1 := (@St.low (inpOf W) _ _ _ _ _ hst1).below
  exact ⟨s, m, [], u, hk, rfl, by simpa using hst.below hb, plain_is hp hs, fun _ => Same.below hst hb⟩
end
/-- Numbers in a slice. -/
def rdI [Inp] (m : Mem) (s : SV) : Option (List Int) := (slOf m 1 s).bind fun p => decI p.2
theorem rdI_knows {I J : Inp} {m : Mem} {s : SV} {u : Value} {xs : List Int} (h : @rdI I m s = some xs) (hk : Knows I J m s u) :
    ∃ p c, u = .slice p xs.length c ∧ @inpL J p xs.length = some (xs.map (Value.int .i64)) := by
  unfold rdI at h
  obtain ⟨⟨n, ys⟩, h1, h2⟩ := Option.bind_eq_some_iff.1 h
  have h3 := decI_inv h2
  simp only at h3
  subst h3
  have hl := @slOf_len I _ _ _ _ _ h1
  have hn : n = xs.length := by simpa [iL] using hl.symm
  subst hn
  rw [iL_eq] at h1
  obtain ⟨p, c, rfl, h5⟩ := hk.2.2 1 _ _ h1
  rw [Nat.mul_one] at h5
  exact ⟨p, c, rfl, h5⟩
theorem rdI_v [Inp] {m : Mem} {p : Option Addr} {n c : Nat} {xs : List Int} (h : inpL p n = some (xs.map (Value.int .i64))) : rdI m (.v (.slice p n c)) = some xs := by
  unfold rdI
  simp only [slOf, Nat.mul_one, h, Option.map_some, Option.bind_some]
  rw [← iL_eq, decI_iL]
theorem rdI_o [Inp] {m : Mem} {k n : Nat} {xs : List Int} (h : m[k]? = some (oO (iL xs))) (hn : n = xs.length) : rdI m (oV k 1 n) = some xs := by
  unfold rdI
  rw [o_sl (by rw [oOk_c, h, oOk_o, iL_len, hn]; omega), h]
  simp only [Option.map_some, Option.bind_some, oO_cells, decI_iL]
theorem rdI_nil [Inp] {m : Mem} : rdI m (.v (.slice none 0 0)) = some [] := by
  unfold rdI; rw [sl_0]; rfl
theorem inpI_at [Inp] {p : Option Addr} {xs : List Int} (h : inpL p xs.length = some (xs.map (Value.int .i64))) {i : Nat} {x : Int} (hx : xs[i]? = some x) : inpL (plusA p i) 1 = some [.int .i64 x] := by
  have hlt := (List.getElem?_eq_some_iff.1 hx).1
  rw [inpL_part h (by omega)]
  congr 1
  have := (List.getElem?_eq_some_iff.1 hx).2
  rw [← List.map_drop, ← List.map_take, List.drop_eq_getElem_cons hlt, this]
  rfl
end Go.Proofs.Ytibefgdjijmncaa.Sz
