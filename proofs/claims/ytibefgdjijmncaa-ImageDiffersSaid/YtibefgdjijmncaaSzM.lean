/- Symbolic walks, part M: functions that only read what they are given; rows of numbers; a law's arguments. No condition. -/
import Derived.Test.YtibefgdjijmncaaSzL
namespace Go.Proofs.Ytibefgdjijmncaa.Sz
open Go.RowKit
set_option linter.unusedVariables false
set_option linter.unusedSimpArgs false
/-- All memory of a world, as what is read. -/
abbrev inpOf (W : World) : Inp := ⟨W.cell?, 0⟩
theorem St.inpOf (W : World) : @St (inpOf W) (fun k => W.heap.size ≤ k) W [] [] W :=
  @St.mk (Sz.inpOf W) _ _ _ _ _ (Low.refl _ _) (fun _ h => h) (fun a u h => ⟨by have := cell_lt (w0 := W) (a := a) (u := u) h; omega, h⟩) rfl (fun k l o h => by simp at h) (fun k k' l l' o o' h => by simp at h) ⟨fun _ => [], fun k l o h => by simp at h, by simp, by simp, by simp⟩
theorem mapM_some {α β : Type} {f : α → Option β} : ∀ {l : List α} {us : List β}, us.length = l.length → (∀ (i : Nat) (x : α) (u : β), l[i]? = some x → us[i]? = some u → f x = some u) → l.mapM f = some us
  | [], us, h, _ => by
    obtain rfl := List.length_eq_zero_iff.1 (by simpa using h)
    rfl
  | x :: l, [], h, _ => by simp at h
  | x :: l, u :: us, h, hf => by
    rw [List.mapM_cons]
    have h1 := hf 0 x u rfl rfl
    have h2 := mapM_some (l := l) (us := us) (by simpa using h) (fun i y v hy hv => hf (i + 1) y v (by simpa using hy) (by simpa using hv))
    simp [h1, h2]
/-- Cells that lie there. -/
theorem inpL_of [I : Inp] {p : Option Addr} {us : List Value} {k : Nat} (hl : us.length = k) (h : us ≠ [] → ∃ a, p = some a ∧ a.spot = none ∧ ∀ (j : Nat) (u : Value), us[j]? = some u → Inp.at_ (a.add j) = some u) : inpL p k = some us := by
  unfold inpL
  split
  · rename_i hk
    rw [hk] at hl
    rw [List.length_eq_zero_iff.1 hl]
  · rename_i hk
    obtain ⟨a, rfl, hs, hc⟩ := h (by intro e; rw [e] at hl; exact hk hl.symm)
    simp only [hs, if_true]
    refine mapM_some (by simp [hl]) fun i x u hx hu => ?_
    have hi : i < us.length := (List.getElem?_eq_some_iff.1 hu).1
    rw [List.getElem?_range (by omega)] at hx
    injection hx with hx; subst hx
    exact hc i u hu
theorem slOf_len [Inp] {m : Mem} {z k : Nat} {s : SV} {xs : List SV} (h : slOf m z s = some (k, xs)) : xs.length = k * z := by
  unfold slOf at h
  split at h
  · split at h
    · rename_i hz
      split at h
      · split at h
        · rename_i hfit
          injection h with h; injection h with h1 h2
          subst h1; subst h2; subst hz
          simp; omega
        · cases h
      · cases h
    · cases h
  · obtain ⟨us, hus, h⟩ := Option.map_eq_some_iff.1 h
    injection h with h1 h2
    subst h1; subst h2
    simp [(inpL_some hus).1]
  · injection h with h; injection h with h1 h2
    subst h1; subst h2; simp
  · injection h with h; injection h with h1 h2
    subst h1; subst h2; simp
  · cases h
theorem isL_v_inv {r : List Loc} : ∀ {ys us : List Value}, SV.IsL r (ys.map SV.v) us → us = ys
  | [], us, h => by simpa only [List.map_nil, SV.IsL] using h
  | y :: ys, us, h => by
    simp only [List.map_cons, SV.IsL, SV.Is] at h
    obtain ⟨u, t, rfl, rfl, h⟩ := h
    rw [isL_v_inv h]
/-- What a function that reads knows of what it is given. -/
def Knows (I I' : Inp) (m : Mem) (s : SV) (u : Value) : Prop :=
  (∀ x, s = .v x → u = x) ∧ (∀ ys : List Value, s = .agg (ys.map .v) → u = .agg ys.toArray) ∧ ∀ (z n : Nat) (ys : List Value), @slOf I m z s = some (n, ys.map .v) → ∃ p c, u = .slice p n c ∧ @inpL I' p (n * z) = some ys
def KnowsL (I I' : Inp) (m : Mem) : List SV → List Value → Prop
  | [], us => us = []
  | s :: ss, us => ∃ u t, us = u :: t ∧ Knows I I' m s u ∧ KnowsL I I' m ss t
theorem knows_of {I : Inp} {base : Nat → Prop} {w0 W : World} {r : List Loc} {m : Mem} (hst : St base w0 r m W) {s : SV} {u : Value} (hs : s.Is r u) : Knows I (inpOf W) m s u := by
  refine ⟨fun x hx => by subst hx; simpa only [SV.Is] using hs, fun ys hx => ?_, fun z n ys hsl => ?_⟩
  · subst hx
    simp only [SV.Is] at hs
    obtain ⟨us, rfl, hus⟩ := hs
    rw [isL_v_inv hus]
  · obtain ⟨p, c, us, rfl, hus, hlen, hcell⟩ := sl_cells hst hsl hs
    have hxl := slOf_len hsl
    obtain rfl := isL_v_inv hus
    refine ⟨p, c, rfl, inpL_of (I := inpOf W) (by simpa using hxl) fun hne => ?_⟩
    rcases hcell with ⟨a, rfl, hc⟩ | ⟨_, h0⟩
    · have hc := hc W (Same.refl _ _)
      refine ⟨a, rfl, ?_, hc⟩
      obtain ⟨x, hx⟩ : ∃ x, us[0]? = some x := by
        cases us with
        | nil => exact (hne rfl).elim
        | cons x _ => exact ⟨x, rfl⟩
      have := hc 0 x hx
      rw [add_zero_addr] at this
      exact World.cell?_spot this
    · exact (hne h0).elim
theorem knowsL_of {I : Inp} {base : Nat → Prop} {w0 W : World} {r : List Loc} {m : Mem} (hst : St base w0 r m W) : ∀ {ss : List SV} {us : List Value}, SV.IsL r ss us → KnowsL I (inpOf W) m ss us
  | [], us, h => by simpa only [SV.IsL, KnowsL] using h
  | s :: ss, us, h => by
    simp only [SV.IsL] at h
    obtain ⟨u, t, rfl, h1, h2⟩ := h
    exact ⟨u, t, rfl, knows_of hst h1, knowsL_of hst h2⟩
theorem isL_of {r : List Loc} : ∀ us : List Value, SV.IsL r (us.map SV.of) us
  | [] => by simp [SV.IsL]
  | u :: us => by simp only [List.map_cons, SV.IsL]; exact ⟨u, us, rfl, SV.of_is r u, isL_of us⟩
theorem of_int {k : IntKind} {n : Int} : SV.of (.int k n) = .v (.int k n) := rfl
theorem of_bool {b : Bool} : SV.of (.bool b) = .v (.bool b) := rfl
theorem of_str {b : ByteArray} : SV.of (.string b) = .v (.string b) := rfl
theorem of_sl {a : Option Addr} {n c : Nat} : SV.of (.slice a n c) = .v (.slice a n c) := rfl
theorem of_p {a : Option Addr} : SV.of (.pointer a) = .v (.pointer a) := rfl
theorem of_agg {cs : List Value} : SV.of (.agg cs.toArray) = .agg (cs.map .v) := by simp [SV.of]
section
variable {P : Program} {f : FuncId} {eff : List FuncId} {N : Nat} {x : XC} {rs : List XR}
/-- A function that only reads, and gives a plain value: its arguments are plain, what they lead to is input. -/
theorem Contract.read [I : Inp] (hF : FnX P f eff N x rs) {G : Inp → List CEntry} (hG : ∀ J, @GOk J P (G J)) (tr : Trans)
    (body : ∀ args m k, tr args m k → args.length ≤ N ∧ ∀ (J : Inp), J.keep = 0 → ∀ (us : List Value), KnowsL I J m args us → @evX J P N eff (G J) x (slots (argSlots 0 (us.map SV.of))) [] (fun ex e m' => EndsX ex ∧ evR rs e m' fun s => s.plain = true ∧ k s m)) : Contract P f true tr := by
  refine ⟨hF.enter, fun args m k base w0 W r vs ht hst ha => ?_⟩
  obtain ⟨hlen, hev⟩ := body args m k ht
  have hk := knowsL_of hst ha
  have hvl := IsL_len ha
  refine (@FnX.calls P f eff N x rs (G (inpOf W)) (inpOf W) hF (hG (inpOf W)) _ _ _ _ _ _ _ (St.inpOf W) (isL_of vs) (by simp; omega) (fun s _ => s.plain = true ∧ k s m) (hev (inpOf W) rfl vs hk)).mono ?_
  rintro e W1 ⟨s, m', r', u, ⟨hp, hk⟩, rfl, hst1, hs, _⟩
  have hb : Below W.heap.size W W1 := (@St.low (inpOf W) _ _ _ _ _ hst1).below
  exact ⟨s, m, [], u, hk, rfl, by simpa using hst.below hb, plain_is hp hs, fun _ => Same.below hst hb⟩
/-- The same, of a function that gives new objects. -/
theorem St.join2 (I J : Inp) {base : Nat → Prop} {w0 W W1 : World} {r r2 : List Loc} {m m2 : Mem} (hst : @St I base w0 r m W) (h2 : @St J (fun k => W.heap.size ≤ k) W r2 m2 W1) (hown : ∀ o ∈ m2, o.own = true) : @St I base w0 (r ++ r2) (m ++ m2.map (SObj.up r.length)) W1 :=
  @St.join I _ _ _ _ _ _ _ _ hst (@St.mk I _ _ _ _ _ (@St.low J _ _ _ _ _ h2) (fun _ h => h) (fun a u ha => ⟨by have := cell_lt (@St.inp_at _ _ _ _ _ I hst _ _ ha); omega, @St.inp_at _ _ _ _ _ I hst _ _ ha⟩) (@St.len J _ _ _ _ _ h2) (@St.obj J _ _ _ _ _ h2) (@St.sep J _ _ _ _ _ h2) (@St.hid J _ _ _ _ _ h2)) hown
theorem Contract.readF [I : Inp] (hF : FnX P f eff N x rs) {G : Inp → List CEntry} (hG : ∀ J, @GOk J P (G J)) (tr : Trans)
    (body : ∀ args m k, tr args m k → args.length ≤ N ∧ ∀ (J : Inp), J.keep = 0 → ∀ (us : List Value), KnowsL I J m args us → @evX J P N eff (G J) x (slots (argSlots 0 (us.map SV.of))) [] (fun ex e m' => EndsX ex ∧ evR rs e m' fun s => ∃ (g2 : List Nat) (s2 : SV) (m2 : Mem), g2.Nodup ∧ FitM g2 m' g2 m2 ∧ (∀ o ∈ m2, o.own = true) ∧ Le g2 s2 s ∧ k (s2.up m.length) (m ++ m2.map (SObj.up m.length)))) : Contract P f true tr := by
  refine ⟨hF.enter, fun args m k base w0 W r vs ht hst ha => ?_⟩
  obtain ⟨hlen, hev⟩ := body args m k ht
  have hk := knowsL_of hst ha
  have hvl := IsL_len ha
  refine (@FnX.calls P f eff N x rs (G (inpOf W)) (inpOf W) hF (hG (inpOf W)) _ _ _ _ _ _ _ (St.inpOf W) (isL_of vs) (by simp; omega) (fun s m' => ∃ (g2 : List Nat) (s2 : SV) (m2 : Mem), g2.Nodup ∧ FitM g2 m' g2 m2 ∧ (∀ o ∈ m2, o.own = true) ∧ Le g2 s2 s ∧ k (s2.up m.length) (m ++ m2.map (SObj.up m.length))) (hev (inpOf W) rfl vs hk)).mono ?_
  rintro e W1 ⟨s, m', r', u, ⟨g2, s2, m2, hn2, hm2, hown, hle2, hk⟩, rfl, hst1, hs, _⟩
  have hb : Below W.heap.size W W1 := (@St.low (inpOf W) _ _ _ _ _ hst1).below
  obtain ⟨r2, hst2, hr2, _⟩ := @fit_sound (inpOf W) 0 _ (fun _ => .any) _ _ [] _ _ _ _ #[] (NdL_of hn2) hm2 hst1
  have hj := St.join2 I (inpOf W) hst hst2 hown
  rw [← hst.len] at hk
  exact ⟨_, _, r2, u, hk, rfl, hj, up_is (Le.is hr2 hle2 hs), fun _ => Same.below hst hb⟩
/-- A law's call: its arguments are plain, what they lead to is input. -/
theorem law_read {tr : Inp → Trans} {args : List Value} {W : World} (hc : ∀ I, @Contract I P f true (tr I)) (ht : tr (inpOf W) (args.map SV.of) [] (fun s _ => s = .v (.bool true))) :
    Calls P f args.toArray W fun e W' => e = .returned (.bool true) ∧ Below W.heap.size W W' := by
  refine (@Contract.calls (inpOf W) _ _ _ _ (hc (inpOf W)) (args.map SV.of) [] _ (fun k => W.heap.size ≤ k) W W [] args ht (St.inpOf W) (isL_of args)).mono ?_
  rintro e W1 ⟨s, m', t, u, rfl, rfl, hst, hu, _⟩
  simp only [SV.Is] at hu
  subst hu
  exact ⟨rfl, (@St.low (inpOf W) _ _ _ _ _ hst).below⟩
end
theorem GOk.cons [Inp] {P : Program} {f : FuncId} {q : Bool} {tr : Trans} {G : List CEntry} (h : Contract P f q tr) (hG : GOk P G) : GOk P (⟨f, q, tr⟩ :: G) := fun c hc => by
  rcases List.mem_cons.1 hc with rfl | hc
  · exact .inl h
  · exact hG c hc
theorem GOk.ext [Inp] {P : Program} {f : FuncId} {q : Bool} {tr : Trans} {G : List CEntry} (h : ExtC P f q tr) (hG : GOk P G) : GOk P (⟨f, q, tr⟩ :: G) := fun c hc => by
  rcases List.mem_cons.1 hc with rfl | hc
  · exact .inr h
  · exact hG c hc
theorem g0 [Inp] (P : Program) : GOk P [] := fun c h => by cases h
/-! ### Parts of what is read -/
theorem inpL_part [Inp] {p : Option Addr} {k o j : Nat} {us : List Value} (h : inpL p k = some us) (hj : o + j ≤ k) : inpL (plusA p o) j = some ((us.drop o).take j) := by
  obtain ⟨h1, h2⟩ := inpL_some h
  refine inpL_of (by simp; omega) fun hne => ?_
  have hk : k ≠ 0 := by
    intro h0
    subst h0
    have : us = [] := List.length_eq_zero_iff.1 h1
    subst this
    exact hne (by simp)
  obtain ⟨a, rfl, hs, hc⟩ := h2 hk
  refine ⟨a.add o, rfl, by obtain ⟨b, oo, sp⟩ := a; simp only at hs; subst hs; rw [Addr.add_lit], fun i u hi => ?_⟩
  rw [add_add_addr hs]
  rw [List.getElem?_take] at hi
  split at hi
  · rw [List.getElem?_drop] at hi
    exact hc _ _ hi
  · cases hi
theorem inpL_isSome [Inp] {p : Option Addr} {k : Nat} {us : List Value} (h : inpL p k = some us) (hk : k ≠ 0) : p.isSome = true := by
  obtain ⟨a, rfl, _⟩ := (inpL_some h).2 hk
  rfl
/-! ### Rows of structs that are read -/
/-- The cells of some items side by side. -/
def rowV {α : Type} (cs : α → List Value) (l : List α) : List Value := l.flatMap cs
theorem rowV_len {α : Type} {cs : α → List Value} {z : Nat} (hz : ∀ x, (cs x).length = z) (l : List α) : (rowV cs l).length = l.length * z := by
  induction l with
  | nil => simp [rowV]
  | cons x l ih =>
    have : rowV cs (x :: l) = cs x ++ rowV cs l := rfl
    rw [this, List.length_append, ih, hz, List.length_cons, Nat.add_mul]; omega
theorem rowV_at {α : Type} {cs : α → List Value} {z : Nat} (hz : ∀ x, (cs x).length = z) : ∀ {l : List α} {i : Nat} {x : α}, l[i]? = some x → ((rowV cs l).drop (i * z)).take z = cs x
  | [], i, x, h => by simp at h
  | y :: l, 0, x, h => by
    simp at h; subst h
    have : rowV cs (y :: l) = cs y ++ rowV cs l := rfl
    rw [this, Nat.zero_mul, List.drop_zero, List.take_append_of_le_length (by rw [hz]; omega), List.take_of_length_le (by rw [hz]; omega)]
  | y :: l, i + 1, x, h => by
    have e : rowV cs (y :: l) = cs y ++ rowV cs l := rfl
    have h' : l[i]? = some x := by simpa using h
    rw [e, show (i + 1) * z = (cs y).length + i * z by rw [hz, Nat.add_mul]; omega, List.drop_append, List.drop_of_length_le (by omega), List.nil_append, Nat.add_sub_cancel_left]
    exact rowV_at hz h'
/-- One item of a row that is read. -/
theorem inp_item [Inp] {α : Type} {cs : α → List Value} {z : Nat} (hz : ∀ x, (cs x).length = z) {p : Option Addr} {l : List α} {n : Nat} (h : inpL p (n * z) = some (rowV cs l)) (hn : l.length = n) {i : Nat} {x : α} (hi : l[i]? = some x) : inpL (plusA p (i * z)) z = some (cs x) := by
  have hlt : i < l.length := (List.getElem?_eq_some_iff.1 hi).1
  have hle : (i + 1) * z ≤ n * z := Nat.mul_le_mul_right _ (by omega)
  rw [Nat.add_mul] at hle
  rw [inpL_part h (by omega), rowV_at hz hi]
/-- Items out of cells. -/
def decR {α : Type} (d : List SV → Option (α × List SV)) : Nat → List SV → Option (List α)
  | 0, [] => some []
  | 0, _ :: _ => none
  | n + 1, l => match d l with
    | some (x, l') => (decR d n l').map (x :: ·)
    | none => none
/-! ### Rows of numbers -/
def iL (xs : List Int) : List SV := xs.map fun x => .v (.int .i64 x)
theorem iL_eq (xs : List Int) : iL xs = (xs.map (Value.int .i64)).map SV.v := by simp [iL, List.map_map, Function.comp_def]
theorem iL_fold {xs : List Int} : (xs.map (Value.int .i64)).map SV.v = iL xs := (iL_eq xs).symm
theorem iL_len {xs : List Int} : (iL xs).length = xs.length := by simp [iL]
theorem iL_nil : iL [] = [] := rfl
theorem iL_cons {x : Int} {xs : List Int} : iL (x :: xs) = .v (.int .i64 x) :: iL xs := rfl
theorem iL_get {xs : List Int} {n : Nat} (h : n < xs.length) : (iL xs)[n]? = some (.v (.int .i64 (xs.getD n 0))) := by
  simp [iL, List.getD, h]
theorem iL_take {xs : List Int} {n : Nat} : (iL xs).take n = iL (xs.take n) := by simp [iL]
theorem iL_drop {xs : List Int} {n : Nat} : (iL xs).drop n = iL (xs.drop n) := by simp [iL]
theorem iL_app {xs ys : List Int} : iL xs ++ iL ys = iL (xs ++ ys) := by simp [iL]
theorem iL_snoc {xs : List Int} {y : Int} : iL xs ++ [.v (.int .i64 y)] = iL (xs ++ [y]) := by simp [iL]
theorem iL_over {xs : List Int} {i : Nat} {y : Int} (h : i < xs.length) : over (iL xs) i [.v (.int .i64 y)] = iL (xs.set i y) := by
  unfold over iL
  rw [List.set_eq_take_append_cons_drop, if_pos h]
  simp
theorem iL_all {xs ys : List Int} (h : ys.length = xs.length) : over (iL xs) 0 (iL ys) = iL ys := by
  unfold over
  simp [iL, h]
theorem iL_one {xs : List Int} : (iL xs).all SV.one = true := by
  simp [iL, SV.one, Value.oneCell']
theorem iL_plain {xs : List Int} : plainL (iL xs) = true := by
  rw [iL_eq]; exact plainL_v _
theorem iL_le {g : List Nat} {xs : List Int} : LeL g (iL xs) (iL xs) = True := by
  rw [iL_eq]; simp only [eq_iff_iff, iff_true]; exact LeL_v g _
def decI : List SV → Option (List Int)
  | [] => some []
  | .v (.int .i64 x) :: l => (decI l).map (x :: ·)
  | _ :: _ => none
theorem decI_inv : ∀ {l : List SV} {xs : List Int}, decI l = some xs → l = iL xs
  | [], xs, h => by simp only [decI] at h; injection h with h; subst h; rfl
  | a :: l, xs, h => by
    unfold decI at h
    split at h
    · rename_i heq; cases heq
    · rename_i heq
      cases heq
      obtain ⟨ys, h1, rfl⟩ := Option.map_eq_some_iff.1 h
      rw [decI_inv h1]; rfl
    · cases h
theorem decI_iL {xs : List Int} : decI (iL xs) = some xs := by
  induction xs with
  | nil => rfl
  | cons x xs ih => rw [iL_cons]; simp only [decI, ih, Option.map_some]
theorem evCs_iL : ∀ (n : Nat) {xs ys : List Int} {K : Bool → Prop}, xs.length = n → ys.length = n → evCs (List.replicate n .int) (iL xs) (iL ys) K = K (xs == ys)
  | 0, xs, ys, K, hx, hy => by
    obtain rfl := List.length_eq_zero_iff.1 hx
    obtain rfl := List.length_eq_zero_iff.1 hy
    rfl
  | n + 1, [], ys, K, hx, hy => by simp at hx
  | n + 1, x :: xs, [], K, hx, hy => by simp at hy
  | n + 1, x :: xs, y :: ys, K, hx, hy => by
    rw [List.replicate_succ, iL_cons, iL_cons]
    simp only [evCs, true_and]
    rw [evCs_iL n (by simpa using hx) (by simpa using hy)]
    rfl
/-- A part of a slice that is read. -/
theorem inpL_cut [Inp] {p : Option Addr} {n z c l h : Nat} {us : List Value} (hi : inpL p (n * z) = some us) (hl : l ≤ h) (hn : h ≤ n) (hc : n ≤ c) : inpL (cutA p l c z) ((h - l) * z) = some ((us.drop (l * z)).take ((h - l) * z)) := by
  have e : (h - l) * z = h * z - l * z := Nat.sub_mul _ _ _
  have e1 : l * z ≤ h * z := Nat.mul_le_mul_right _ hl
  have e2 : h * z ≤ n * z := Nat.mul_le_mul_right _ hn
  unfold cutA
  split
  · rename_i hcl
    have : h - l = 0 := by omega
    rw [this, Nat.zero_mul, List.take_zero]
    simp [inpL]
  · exact inpL_part hi (by omega)
/-- What then, if there is one. -/
def optK {α : Type} (o : Option α) (F : α → Prop) : Prop := match o with | some x => F x | none => False
theorem optK_some {α : Type} {x : α} {F : α → Prop} : optK (some x) F = F x := Eq.trans rfl rfl
theorem optK_inv {α : Type} {o : Option α} {F : α → Prop} (h : optK o F) : ∃ x, o = some x ∧ F x := by
  unfold optK at h
  split at h
  · exact ⟨_, rfl, h⟩
  · exact h.elim
@[congr] theorem optK_c {α : Type} {o o' : Option α} {F : α → Prop} (h : o = o') : optK o F = optK o' F := by rw [h]
/-! ### The first items of a row -/
theorem foldl_inv {α β : Type} {f : β → α → β} {Q : β → Prop} (hs : ∀ a d, Q a → Q (f a d)) : ∀ (l : List α) {b : β}, Q b → Q (l.foldl f b)
  | [], b, h => h
  | d :: l, b, h => by rw [List.foldl_cons]; exact foldl_inv hs l (hs b d h)
section
variable {α β : Type} {l : List α} {x : Nat} {d : α}
theorem take_snoc (h : l[x]? = some d) : l.take (x + 1) = l.take x ++ [d] := by rw [List.take_add_one, h]; rfl
theorem all_snoc (p : α → Bool) (h : l[x]? = some d) : (l.take (x + 1)).all p = ((l.take x).all p && p d) := by rw [take_snoc h]; simp
theorem all_bad {p : α → Bool} (h : l[x]? = some d) (hp : p d = false) : l.all p = false := by
  rw [List.all_eq_false]
  exact ⟨d, List.mem_of_getElem? h, by simp [hp]⟩
theorem any_snoc (p : α → Bool) (h : l[x]? = some d) : (l.take (x + 1)).any p = ((l.take x).any p || p d) := by rw [take_snoc h]; simp
theorem any_good {p : α → Bool} (h : l[x]? = some d) (hp : p d = true) : l.any p = true := by
  rw [List.any_eq_true]
  exact ⟨d, List.mem_of_getElem? h, hp⟩
theorem foldl_snoc (f : β → α → β) (b : β) (h : l[x]? = some d) : (l.take (x + 1)).foldl f b = f ((l.take x).foldl f b) d := by rw [take_snoc h]; simp
theorem filter_snoc (p : α → Bool) (h : l[x]? = some d) : (l.take (x + 1)).filter p = (l.take x).filter p ++ (if p d then [d] else []) := by
  rw [take_snoc h, List.filter_append]
  cases hp : p d <;> simp [hp]
theorem map_snoc (f : α → β) (h : l[x]? = some d) : (l.take (x + 1)).map f = (l.take x).map f ++ [f d] := by rw [take_snoc h]; simp
end
/-- What comes then, where no reckoning looks. -/
class PBox where
  q : Post
def TXi [Inp] (P : Program) (N : Nat) (eff : List FuncId) (x : XC) (e : Env) (m : Mem) [b : PBox] : Prop := TX P N eff x e m b.q
section
variable {P : Program} {N : Nat} {eff : List FuncId} {G : List CEntry} {e : Env} {m : Mem} {Q : Post}
theorem s_loopi [Inp] {a : XC} : evX P N eff G (.loop a) e m Q = @TXi _ P N eff (.loop a) e m ⟨Q⟩ := Eq.trans rfl rfl
theorem v_pq {ex : Exit} : @PBox.q ⟨Q⟩ ex e m = Q ex e m := Eq.trans rfl rfl
theorem TXi_of [Inp] {x : XC} (h : TX P N eff x e m Q) : @TXi _ P N eff x e m ⟨Q⟩ := h
/-- A loop: what the slots and the memory are, for a number that each round lowers. -/
theorem TX_loopT [Inp] {X : Type} (L : X → List (Nat × SV)) (M : X → Mem) (u : X → Nat) (x0 : X) {body : XC} {e : Env} {m : Mem} {Q : Post} (h0 : Fit e m (L x0) (M x0))
    (round : ∀ x, TX P N eff body (slots (L x)) (M x) (thenQ (fun e' m' => ∃ x', u x' < u x ∧ Fit e' m' (L x') (M x')) Q)) : TX P N eff (.loop body) e m Q := by
  intro c hc base w0 W r a hst he
  unfold compC at hc
  split at hc
  case h_7 c1 =>
    obtain ⟨x1, hx1, hc⟩ := Option.map_eq_some_iff.1 hc
    injection hc with hc; subst hc
    refine wp_loop_ghost (fun n a' W' => ∃ x r', n = u x ∧ St base w0 r' (M x) W' ∧ EnvIs N r' (slots (L x)) a'.tmps ∧ a'.defers = a.defers ∧ Kp r r') (u x0) ?_ ?_
    · obtain ⟨g, hn, hm, hE, hkg⟩ := h0
      obtain ⟨r', h1, h2, h3⟩ := fit_sound (N := N) (e := e) (l := L x0) (ts := a.tmps) hn hm hst
      exact ⟨x0, r', rfl, h1, h3 hE he, rfl, fun k l hk hl => h2 k k (hkg k hk) l hl⟩
    · rintro n a1 W1 ⟨x, r1, rfl, hst1, he1, hd1, hkp1⟩
      refine wp_mono (round x c1 hx1 base w0 W1 r1 a1 hst1 he1) ?_
      rintro ex a2 W2 ⟨hgo, e2, m2, r2, hq, hst2, he2, hd2, hkp2⟩
      cases ex <;> simp only [Exit.then]
      case normal =>
        simp only [thenQ] at hq
        obtain ⟨x', hlt, g, hn, hm, hE, hkg⟩ := hq
        obtain ⟨r', h1, h2, h3⟩ := fit_sound (N := N) (e := e2) (l := L x') (ts := a2.tmps) hn hm hst2
        exact ⟨u x', hlt, x', r', rfl, h1, h3 hE he2, hd2.trans hd1, (hkp1.trans hkp2).trans fun k l hk hl => h2 k k (hkg k hk) l hl⟩
      case exit i => exact ⟨trivial, e2, m2, r2, hq, hst2, he2, hd2.trans hd1, hkp1.trans hkp2⟩
      case ret => exact ⟨trivial, e2, m2, r2, hq, hst2, he2, hd2.trans hd1, hkp1.trans hkp2⟩
      all_goals exact hgo.elim
  all_goals first | (cases hc; done) | (obtain ⟨x1, hx1, hc⟩ := Option.bind_eq_some_iff.1 hc; obtain ⟨x2, hx2, hc⟩ := Option.map_eq_some_iff.1 hc; cases hc; done) | (obtain ⟨x1, hx1, hc⟩ := Option.map_eq_some_iff.1 hc; cases hc; done) | (split at hc <;> first | (cases hc; done) | (obtain ⟨x1, hx1, hc⟩ := Option.map_eq_some_iff.1 hc; cases hc; done))
/-- A loop that counts. -/
theorem TX_count [Inp] (hG : GOk P G) (n : Nat) (L : Nat → List (Nat × SV)) (M : Nat → Mem) (I : Nat → Prop) {body : XC} (i0 : I 0) (h0 : Fit e m (L 0) (M 0))
    (round : ∀ x, x < n → I x → evX P N eff G body (slots (L x)) (M x) (thenQ (fun e' m' => I (x + 1) ∧ Fit e' m' (L (x + 1)) (M (x + 1))) Q))
    (last : I n → evX P N eff G body (slots (L n)) (M n) (thenQ (fun _ _ => False) Q)) : TX P N eff (.loop body) e m Q := by
  refine TX_loopT (X := { x : Nat // x ≤ n ∧ I x }) (fun x => L x.1) (fun x => M x.1) (fun x => n - x.1) ⟨0, by omega, i0⟩ h0 ?_
  rintro ⟨x, hx, hi⟩
  by_cases hlt : x < n
  · refine (evX_sound hG _ (round x hlt hi)).mono fun ex e' m' h => ?_
    cases ex <;> first | exact h | exact ⟨⟨x + 1, by omega, h.1⟩, by simp only; omega, h.2⟩
  · obtain rfl : x = n := by omega
    refine (evX_sound hG _ (last hi)).mono fun ex e' m' h => ?_
    cases ex <;> first | exact h | exact h.elim
/-- A loop that counts, with more to know. -/
theorem TX_countS [Inp] (hG : GOk P G) (n : Nat) {σ : Type} (L : Nat → σ → List (Nat × SV)) (M : Nat → σ → Mem) (I : Nat → σ → Prop) (s0 : σ) {body : XC} (i0 : I 0 s0) (h0 : Fit e m (L 0 s0) (M 0 s0))
    (round : ∀ x s, x < n → I x s → evX P N eff G body (slots (L x s)) (M x s) (thenQ (fun e' m' => ∃ s', I (x + 1) s' ∧ Fit e' m' (L (x + 1) s') (M (x + 1) s')) Q))
    (last : ∀ s, I n s → evX P N eff G body (slots (L n s)) (M n s) (thenQ (fun _ _ => False) Q)) : TX P N eff (.loop body) e m Q := by
  refine TX_loopT (X := { p : Nat × σ // p.1 ≤ n ∧ I p.1 p.2 }) (fun p => L p.1.1 p.1.2) (fun p => M p.1.1 p.1.2) (fun p => n - p.1.1) ⟨(0, s0), by simp, i0⟩ h0 ?_
  rintro ⟨⟨x, s⟩, hx, hi⟩
  simp only at hx hi
  by_cases hlt : x < n
  · refine (evX_sound hG _ (round x s hlt hi)).mono fun ex e' m' h => ?_
    cases ex <;> first | exact h | (obtain ⟨s', h1, h2⟩ := h; exact ⟨⟨(x + 1, s'), by simp only; omega, h1⟩, by simp only; omega, h2⟩)
  · obtain rfl : x = n := by omega
    refine (evX_sound hG _ (last s hi)).mono fun ex e' m' h => ?_
    cases ex <;> first | exact h | exact h.elim
end
end Go.Proofs.Ytibefgdjijmncaa.Sz
