/- Symbolic walks: '==' of structs and arrays of numbers, bools and strings. No condition. -/
import Derived.ChangeKeysEq
import Derived.Laws.StructEq
namespace Go.Proofs.Ytibefgdjijmncaa.Sz
set_option linter.unusedVariables false
set_option linter.unusedSimpArgs false
inductive CK where
  | int | bool | str
  deriving DecidableEq
/-- The cells of a type of numbers, bools, strings, and structs and arrays of such. -/
def flatK (P : Program) : Nat → TypeId → Option (List CK)
  | 0, _ => none
  | d + 1, t =>
    match P.underlying t with
    | some (.int _) => some [.int]
    | some .bool => some [.bool]
    | some .string => some [.str]
    | some (.struct fs) => if P.stoodInHeld t then none else flatF P (flatK P d) 0 fs.toList
    | some (.array n e) => (flatK P d e).bind fun ks => if P.cellsOf e = ks.length then some (List.replicate n ks).flatten else none
    | _ => none
where flatF (P : Program) (rec : TypeId → Option (List CK)) : Nat → List Field → Option (List CK)
  | _, [] => some []
  | o, f :: fs => if f.name = "_" ∨ f.offset ≠ o then none else (rec f.type).bind fun ks => if (P.info? f.type).map (·.size) = some ks.length then (flatF P rec (o + ks.length) fs).map (ks ++ ·) else none
/-- Two rows of cells of these kinds, and whether they are the same. -/
def EqC : List CK → List Value → List Value → Bool → Prop
  | [], us, vs, b => us = [] ∧ vs = [] ∧ b = true
  | k :: ks, us, vs, b => ∃ u us' v vs' b1 b2, us = u :: us' ∧ vs = v :: vs' ∧ b = (b1 && b2) ∧ EqC ks us' vs' b2 ∧
    (match k with
     | .int => ∃ q x y, u = .int q x ∧ v = .int q y ∧ b1 = (x == y)
     | .bool => ∃ x y, u = .bool x ∧ v = .bool y ∧ b1 = (x == y)
     | .str => ∃ x y, u = .string x ∧ v = .string y ∧ b1 = (x.toList == y.toList))
theorem EqC_len : ∀ {ks : List CK} {us vs : List Value} {b : Bool}, EqC ks us vs b → us.length = ks.length ∧ vs.length = ks.length
  | [], us, vs, b, h => by obtain ⟨rfl, rfl, _⟩ := h; simp
  | k :: ks, us, vs, b, h => by
    obtain ⟨u, us', v, vs', b1, b2, rfl, rfl, rfl, h1, _⟩ := h
    have := EqC_len h1
    simp [this]
theorem EqC_append : ∀ {ks ls : List CK} {us vs : List Value} {b : Bool}, EqC (ks ++ ls) us vs b → ∃ b1 b2, b = (b1 && b2) ∧ EqC ks (us.take ks.length) (vs.take ks.length) b1 ∧ EqC ls (us.drop ks.length) (vs.drop ks.length) b2
  | [], ls, us, vs, b, h => ⟨true, b, by simp, ⟨by simp, by simp, rfl⟩, by simpa using h⟩
  | k :: ks, ls, us, vs, b, h => by
    obtain ⟨u, us', v, vs', b1, b2, rfl, rfl, rfl, h1, h2⟩ := h
    obtain ⟨c1, c2, rfl, h3, h4⟩ := EqC_append h1
    exact ⟨b1 && c1, c2, by simp [Bool.and_assoc], ⟨u, _, v, _, b1, c1, by simp, by simp, rfl, h3, h2⟩, by simpa using h4⟩
def valOf (P : Program) (t : TypeId) (us : List Value) : Value :=
  match P.underlying t with
  | some (.struct _) | some (.array _ _) => .agg us.toArray
  | _ => us.headD (.tuple #[])
section
variable {P : Program}
theorem part_val {t : TypeId} {ks : List CK} {d : Nat} (hk : flatK P d t = some ks) (hn : (P.info? t).map (·.size) = some ks.length) (us : List Value) (off : Nat) (hl : off + ks.length ≤ us.length) (W : World) :
    (part t us.toArray off).run P W = .ok (valOf P t ((us.drop off).take ks.length)) W := by
  obtain ⟨i, hi, hsz⟩ := Option.map_eq_some_iff.1 hn
  cases d with
  | zero => simp [flatK] at hk
  | succ d =>
    simp only [flatK] at hk
    split at hk
    · rename_i q hu
      injection hk with hk; subst hk
      simp at hl
      have : us[off]? = some us[off] := List.getElem?_eq_getElem (by omega)
      simp only [part, isAgg, Sem.run_bind, run_underlying hu, Result.andThen_ok, Sem.run_pure, valOf, hu]
      simp [this, List.headD_eq_head?_getD, List.head?_take, List.head?_drop]
    · rename_i hu
      injection hk with hk; subst hk
      simp at hl
      have : us[off]? = some us[off] := List.getElem?_eq_getElem (by omega)
      simp only [part, isAgg, Sem.run_bind, run_underlying hu, Result.andThen_ok, Sem.run_pure, valOf, hu]
      simp [this, List.headD_eq_head?_getD, List.head?_take, List.head?_drop]
    · rename_i hu
      injection hk with hk; subst hk
      simp at hl
      have : us[off]? = some us[off] := List.getElem?_eq_getElem (by omega)
      simp only [part, isAgg, Sem.run_bind, run_underlying hu, Result.andThen_ok, Sem.run_pure, valOf, hu]
      simp [this, List.headD_eq_head?_getD, List.head?_take, List.head?_drop]
    · rename_i fs hu
      simp only [part, isAgg, Sem.run_bind, run_underlying hu, Result.andThen_ok, Sem.run_pure, if_true, sizeOf, typeInfo, run_program, hi, valOf, hu, hsz]
      simp
    · rename_i m e hu
      simp only [part, isAgg, Sem.run_bind, run_underlying hu, Result.andThen_ok, Sem.run_pure, if_true, sizeOf, typeInfo, run_program, hi, valOf, hu, hsz]
      simp
    · cases hk
theorem one_val {d : Nat} {t : TypeId} (hd : ∀ fs, P.underlying t ≠ some (.struct fs)) (ha : ∀ n e, P.underlying t ≠ some (.array n e)) (u : Value) : valOf P t [u] = u := by
  unfold valOf
  split
  · rename_i h; exact (hd _ h).elim
  · rename_i h; exact (ha _ _ h).elim
  · rfl
theorem eqFields_flat {rec : TypeId → Option (List CK)} {D d : Nat} (hrec : ∀ t, rec t = flatK P d t) (ih : ∀ {t : TypeId} {ks : List CK} {us vs : List Value} {b : Bool}, flatK P d t = some ks → EqC ks us vs b → ∀ W, (Op.equalIn D t (valOf P t us) (valOf P t vs)).run P W = .ok b W) (W : World) :
    ∀ (fs : List Field) (o : Nat) {ks : List CK} {b : Bool} {us vs : List Value}, flatK.flatF P rec o fs = some ks → us.length = vs.length → o + ks.length ≤ us.length → EqC ks ((us.drop o).take ks.length) ((vs.drop o).take ks.length) b → (Op.eqFields D us.toArray vs.toArray fs).run P W = .ok b W
  | [], o, ks, b, us, vs, hf, hlen, hl, h => by
    simp only [flatK.flatF] at hf
    injection hf with hf; subst hf
    obtain ⟨_, _, rfl⟩ := h
    simp [Op.eqFields]
  | f :: fs, o, ks, b, us, vs, hf, hlen, hl, h => by
    simp only [flatK.flatF] at hf
    split at hf
    · cases hf
    rename_i hcond
    have hname : f.name ≠ "_" := fun e => hcond (.inl e)
    have hoff : f.offset = o := by
      by_cases e : f.offset = o
      · exact e
      · exact (hcond (.inr e)).elim
    obtain ⟨k1, hk1, hf⟩ := Option.bind_eq_some_iff.1 hf
    split at hf
    · rename_i hsz
      obtain ⟨k2, hk2, hf⟩ := Option.map_eq_some_iff.1 hf
      subst hf
      rw [hrec] at hk1
      simp only [List.length_append] at hl h
      obtain ⟨b1, b2, rfl, h1, h2⟩ := EqC_append h
      rw [List.take_take, Nat.min_eq_left (by omega), List.take_take, Nat.min_eq_left (by omega)] at h1
      rw [List.drop_take, List.drop_drop, List.drop_take, List.drop_drop, Nat.add_sub_cancel_left] at h2
      have hp1 := part_val (P := P) hk1 hsz us o (by omega) W
      have hp2 := part_val (P := P) hk1 hsz vs o (by omega) W
      have he := ih hk1 h1 W
      have hr := eqFields_flat hrec ih W fs (o + k1.length) hk2 hlen (by omega) h2
      simp only [Op.eqFields, hoff]
      rw [if_pos hname]
      simp only [Sem.run_bind, hp1, Result.andThen_ok, hp2, he]
      cases b1
      · simp
      · simpa using hr
    · cases hf
theorem eqItems_flat {e : TypeId} {D d : Nat} {k1 : List CK} (hk1 : flatK P d e = some k1) (hsz : (P.info? e).map (·.size) = some k1.length) (ih : ∀ {t : TypeId} {ks : List CK} {us vs : List Value} {b : Bool}, flatK P d t = some ks → EqC ks us vs b → ∀ W, (Op.equalIn D t (valOf P t us) (valOf P t vs)).run P W = .ok b W) (W : World) :
    ∀ (n k : Nat) {b : Bool} {us vs : List Value}, us.length = vs.length → (k + n) * k1.length ≤ us.length → EqC (List.replicate n k1).flatten ((us.drop (k * k1.length)).take (n * k1.length)) ((vs.drop (k * k1.length)).take (n * k1.length)) b →
      (Op.eqItems D e k1.length us.toArray vs.toArray (List.range' k n)).run P W = .ok b W
  | 0, k, b, us, vs, hlen, hl, h => by
    simp only [List.replicate_zero, List.flatten_nil] at h
    obtain ⟨_, _, rfl⟩ := h
    simp [Op.eqItems]
  | n + 1, k, b, us, vs, hlen, hl, h => by
    simp only [List.replicate_succ, List.flatten_cons] at h
    have e1 : (n + 1) * k1.length = k1.length + n * k1.length := by rw [Nat.add_mul]; omega
    have e2 : (k + (n + 1)) * k1.length = k * k1.length + (k1.length + n * k1.length) := by rw [Nat.add_mul, e1]
    have e3 : (k + 1) * k1.length = k * k1.length + k1.length := by rw [Nat.add_mul]; omega
    rw [e1] at h
    rw [e2] at hl
    obtain ⟨b1, b2, rfl, h1, h2⟩ := EqC_append h
    rw [List.take_take, Nat.min_eq_left (by omega), List.take_take, Nat.min_eq_left (by omega)] at h1
    rw [List.drop_take, List.drop_drop, List.drop_take, List.drop_drop, Nat.add_sub_cancel_left] at h2
    have hp1 := part_val (P := P) hk1 hsz us (k * k1.length) (by omega) W
    have hp2 := part_val (P := P) hk1 hsz vs (k * k1.length) (by omega) W
    have he := ih hk1 h1 W
    have hr := eqItems_flat hk1 hsz ih W n (k + 1) hlen (by rw [show (k + 1 + n) = k + (n + 1) by omega, e2]; exact hl) (by rw [e3]; exact h2)
    rw [List.range'_succ]
    simp only [Op.eqItems, Sem.run_bind, hp1, Result.andThen_ok, hp2, he]
    cases b1
    · simp
    · simpa using hr
theorem eq_flat : ∀ (d : Nat) {t : TypeId} {ks : List CK} {us vs : List Value} {b : Bool}, flatK P d t = some ks → EqC ks us vs b → ∀ (D : Nat), d ≤ D → ∀ W, (Op.equalIn D t (valOf P t us) (valOf P t vs)).run P W = .ok b W
  | 0, t, ks, us, vs, b, hk, h, D, hD, W => by simp [flatK] at hk
  | d + 1, t, ks, us, vs, b, hk, h, D, hD, W => by
    obtain ⟨D, rfl⟩ : ∃ D', D = D' + 1 := ⟨D - 1, by omega⟩
    have hlen := EqC_len h
    simp only [flatK] at hk
    split at hk
    · rename_i q hu
      injection hk with hk; subst hk
      obtain ⟨u, us', v, vs', b1, b2, rfl, rfl, rfl, ⟨rfl, rfl, rfl⟩, q', x, y, rfl, rfl, rfl⟩ := h
      rw [one_val (d := 0) (by simp [hu]) (by simp [hu]), one_val (d := 0) (by simp [hu]) (by simp [hu]), Bool.and_true]
      exact run_equalIn_int W D t q' q x y hu
    · rename_i hu
      injection hk with hk; subst hk
      obtain ⟨u, us', v, vs', b1, b2, rfl, rfl, rfl, ⟨rfl, rfl, rfl⟩, x, y, rfl, rfl, rfl⟩ := h
      rw [one_val (d := 0) (by simp [hu]) (by simp [hu]), one_val (d := 0) (by simp [hu]) (by simp [hu]), Bool.and_true]
      exact run_equalIn_bool' W D t x y hu
    · rename_i hu
      injection hk with hk; subst hk
      obtain ⟨u, us', v, vs', b1, b2, rfl, rfl, rfl, ⟨rfl, rfl, rfl⟩, x, y, rfl, rfl, rfl⟩ := h
      rw [one_val (d := 0) (by simp [hu]) (by simp [hu]), one_val (d := 0) (by simp [hu]) (by simp [hu]), Bool.and_true]
      exact run_equalIn_string W D t x y hu
    · rename_i fs hu
      split at hk
      · cases hk
      rename_i hst
      have hfs : P.fieldsOf t = fs := by unfold Program.fieldsOf; rw [hu]
      have hv : ∀ l, valOf P t l = .agg l.toArray := fun l => by unfold valOf; rw [hu]
      rw [hv, hv, run_equalIn_struct W D t _ _ (by rw [hfs]; exact hu) (by simpa using hst), hfs]
      refine eqFields_flat (fun t => rfl) (fun {t ks us vs b} h1 h2 W => eq_flat d h1 h2 D (by omega) W) W fs.toList 0 hk (by omega) (by omega) ?_
      simp only [List.drop_zero]
      rw [List.take_of_length_le (by omega), List.take_of_length_le (by omega)]
      exact h
    · rename_i n e hu
      obtain ⟨k1, hk1, hk⟩ := Option.bind_eq_some_iff.1 hk
      split at hk
      · rename_i hc
        injection hk with hk; subst hk
        have hv : ∀ l, valOf P t l = .agg l.toArray := fun l => by unfold valOf; rw [hu]
        have hinfo : ∃ i, P.info? e = some i := by
          cases d with
          | zero => simp [flatK] at hk1
          | succ d =>
            cases hue : P.underlying e with
            | none => simp [flatK, hue] at hk1
            | some de => exact info_of_underlying hue
        obtain ⟨i, hi⟩ := hinfo
        have hsz : (P.info? e).map (·.size) = some k1.length := by
          rw [← hc]; simp [Program.cellsOf, hi]
        rw [hv, hv, run_equalIn_array W D _ _ hu hi, hc, List.range_eq_range']
        have hl : (List.replicate n k1).flatten.length = n * k1.length := by simp
        refine eqItems_flat hk1 hsz (fun {t ks us vs b} h1 h2 W => eq_flat d h1 h2 D (by omega) W) W n 0 (by omega) (by rw [Nat.zero_add]; omega) ?_
        simp only [Nat.zero_mul, List.drop_zero]
        rw [List.take_of_length_le (by omega), List.take_of_length_le (by omega)]
        exact h
      · cases hk
    · cases hk
end
end Go.Proofs.Ytibefgdjijmncaa.Sz
