/- Symbolic walks, part U: a method that reads and writes one object of the caller's own. No condition. -/
import Derived.Test.YtppndeoiifkkkaaSzT
import Derived.Test.YtppndeoiifkkkaaSzN
namespace Go.Proofs.Ytppndeoiifkkkaa.Sz
open Go.RowKit
set_option linter.unusedVariables false
set_option linter.unusedSimpArgs false
/-- All that stands in a world, but for one block; the walk's first object keeps its number. -/
@[reducible] def inpBut (W : World) (b : Nat) : Inp := ⟨fun a => if a.block = b then none else W.cell? a, 1⟩
section
variable {base : Nat → Prop} {w0 W W1 : World} {r : List Loc} {m : Mem} {j : Nat} {l : Loc} {ob : SObj}
theorem St.one [Inp] (hst : St base w0 r m W) (hl : r[j]? = some l) (hob : m[j]? = some ob) (hown : ob.own = true) (hp : plainL ob.cells = true) : @St (inpBut W l.blk) (fun k => W.heap.size ≤ k ∨ k = l.blk) W [l] [⟨true, ob.cells⟩] W := by
  obtain ⟨⟨c, T, fr, g1, g2, g3, g4⟩, g5, g6⟩ := hst.obj j l ob hl hob
  refine @St.mk (inpBut W l.blk) _ _ _ _ _ (Low.refl _ _) (fun _ h => .inl h) (fun a u h => ?_) rfl (fun k l' o q1 q2 => ?_) (fun k k' l1 l2 o o' q1 q2 q3 q4 hne _ _ => ?_)
  · have h' : (if a.block = l.blk then none else W.cell? a) = some u := h
    split at h'
    · cases h'
    · rename_i hb
      have := cell_lt h'
      exact ⟨fun hh => by rcases hh with hh | hh <;> omega, h'⟩
  · match k, q1, q2 with
    | 0, q1, q2 =>
      simp at q1 q2
      subst q1; subst q2
      exact ⟨⟨c, T, fr, g1, g2, plainL_is hp g3, fun _ => g4 hown⟩, g5, fun _ => .inr rfl⟩
    | k + 1, q1, q2 => simp at q1
  · have h1 := (List.getElem?_eq_some_iff.1 q1).1
    have h2 := (List.getElem?_eq_some_iff.1 q2).1
    simp at h1 h2
    omega
theorem St.back (I J : Inp) (hst : @St I base w0 r m W) (hl : r[j]? = some l) (hob : m[j]? = some ob) (hown : ob.own = true) {r' : List Loc} {m' : Mem} {c' : List SV}
    (h2 : @St J (fun k => W.heap.size ≤ k ∨ k = l.blk) W r' m' W1) (hr : r'[0]? = some l) (hm : m'[0]? = some ⟨true, c'⟩) (hp : plainL c' = true) : @St I base w0 r (m.set j ⟨true, c'⟩) W1 := by
  have hj : j < m.length := (List.getElem?_eq_some_iff.1 hob).1
  have hbase : base l.blk := (@St.obj I _ _ _ _ _ hst j l ob hl hob).own hown
  have hlow2 := @St.low J _ _ _ _ _ h2
  have hget : ∀ (k' : Nat) (y : SObj), (m.set j ⟨true, c'⟩)[k']? = some y → (k' = j ∧ y = ⟨true, c'⟩) ∨ (k' ≠ j ∧ m[k']? = some y) := by
    intro k' y hy
    rw [List.getElem?_set] at hy
    by_cases e : j = k'
    · subst e
      simp [hj] at hy
      exact .inl ⟨rfl, hy.symm⟩
    · rw [if_neg e] at hy
      exact .inr ⟨fun x => e x.symm, hy⟩
  have hlow : Low base W W1 := ⟨hlow2.os, hlow2.tape, hlow2.output, hlow2.size, fun k hk hb => hlow2.block k hk (fun hh => by
    rcases hh with hh | hh
    · omega
    · exact hb (hh ▸ hbase)), hlow2.shape⟩
  refine @St.mk I _ _ _ _ _ ((@St.low I _ _ _ _ _ hst).trans hlow) (@St.from_ I _ _ _ _ _ hst) (@St.inp I _ _ _ _ _ hst) (by simp [@St.len I _ _ _ _ _ hst]) (fun k' l' y h1 h3 => ?_) (fun k1 k2 l1 l2 y1 y2 h1 h2' h3 h4 hne ho hal => ?_)
  · rcases hget k' y h3 with ⟨rfl, rfl⟩ | ⟨hne, hy⟩
    · rw [hl] at h1; injection h1 with h1; subst h1
      obtain ⟨⟨c, T, fr, g1, g2, g3, g4⟩, g5, g6⟩ := @St.obj J _ _ _ _ _ h2 0 l _ hr hm
      exact ⟨⟨c, T, fr, g1, g2, plainL_is hp g3, g4⟩, g5, fun _ => hbase⟩
    · have hO := @St.obj I _ _ _ _ _ hst k' l' y h1 hy
      by_cases e : l'.blk = l.blk
      · have hdead : ¬ (y.own = true ∨ y.cells ≠ []) := fun hal => @St.sep I _ _ _ _ _ hst j k' l l' ob y hl h1 hob hy (Ne.symm hne) hown hal e.symm
        have hd1 : y.own = false := by cases hy' : y.own <;> simp_all
        have hd2 : y.cells = [] := by cases hy' : y.cells <;> simp_all
        obtain ⟨⟨c2, T2, fr, g1, g2, g3, g4⟩, g5, g6⟩ := hO
        obtain ⟨c3, T3, fr3, e1, e2⟩ := hlow2.shape _ _ _ _ g1
        exact ⟨⟨c3, T3, fr3, e1, by rw [e2]; exact g2, by rw [hd2]; simp [SV.IsL], fun h => by rw [hd1] at h; cases h⟩, g5, g6⟩
      · exact hO.same (hlow2.block _ hO.lt (fun hh => by
          rcases hh with hh | hh
          · have := hO.lt; omega
          · exact e hh))
  · rcases hget k1 y1 h3 with ⟨rfl, rfl⟩ | ⟨hne1, hy1⟩ <;> rcases hget k2 y2 h4 with ⟨rfl, rfl⟩ | ⟨hne2, hy2⟩
    · exact (hne rfl).elim
    · rw [hl] at h1; injection h1 with h1; subst h1
      exact @St.sep I _ _ _ _ _ hst k1 k2 l l2 ob y2 hl h2' hob hy2 hne hown hal
    · rw [hl] at h2'; injection h2' with h2'; subst h2'
      exact @St.sep I _ _ _ _ _ hst k1 k2 l1 l y1 ob h1 hl hy1 hob hne ho (.inl hown)
    · exact @St.sep I _ _ _ _ _ hst k1 k2 l1 l2 y1 y2 h1 h2' hy1 hy2 hne ho hal
theorem St.dead [Inp] (hst : St base w0 r m W) (j : Nat) : St base w0 r (m.set j ⟨false, []⟩) W := by
  refine ⟨hst.low, hst.from_, hst.inp, by simp [hst.len], fun k' l' y q1 q2 => ?_, fun k1 k2 l1 l2 y1 y2 q1 q2 q3 q4 hne hown hal => ?_⟩
  · rw [List.getElem?_set] at q2
    by_cases ek : j = k'
    · subst ek
      simp at q2
      obtain ⟨hlt, rfl⟩ := q2
      obtain ⟨⟨c, T, fr, g1, g2, g3, g4⟩, g5, g6⟩ := hst.obj j l' _ q1 (List.getElem?_eq_getElem hlt)
      exact ⟨⟨c, T, fr, g1, g2, by simp [SV.IsL], by simp⟩, by simp, by simp⟩
    · rw [if_neg ek] at q2
      exact hst.obj k' l' y q1 q2
  · rw [List.getElem?_set] at q3 q4
    by_cases e1 : j = k1
    · subst e1
      simp at q3
      obtain ⟨_, rfl⟩ := q3
      simp at hown
    · rw [if_neg e1] at q3
      by_cases e2 : j = k2
      · subst e2
        simp at q4
        obtain ⟨_, rfl⟩ := q4
        simp at hal
      · rw [if_neg e2] at q4
        exact hst.sep k1 k2 l1 l2 y1 y2 q1 q2 q3 q4 hne hown hal
/-- What is read of a slice does not lie in the object that is left out. -/
theorem sl_apart [Inp] (hst : St base w0 r m W) (hl : r[j]? = some l) (hob : m[j]? = some ob) (hown : ob.own = true) {s : SV} {z n : Nat} {ys : List SV} {a : Addr} {n2 c : Nat}
    (h : slOf (m.set j ⟨false, []⟩) z s = some (n, ys)) (hs : s.Is r (.slice (some a) n2 c)) (hne : ys ≠ []) : a.block ≠ l.blk := by
  have hbase : base l.blk := (hst.obj j l ob hl hob).own hown
  unfold slOf at h
  split at h
  · rename_i k o n1 sz
    split at h
    · split at h
      · rename_i ob' hob'
        split at h
        · injection h with h; injection h with h1 h2
          have hc : ob'.cells ≠ [] := by
            intro hc
            rw [hc] at h2
            simp at h2
            exact hne h2
          have hkj : j ≠ k := by
            intro e
            subst e
            rw [List.getElem?_set] at hob'
            simp at hob'
            obtain ⟨_, rfl⟩ := hob'
            exact hc rfl
          rw [List.getElem?_set, if_neg hkj] at hob'
          simp only [SV.Is] at hs
          obtain ⟨l2, cap, hl2, _, _, hu⟩ := hs
          injection hu with hu
          injection hu with hu
          rw [hu]
          exact fun e => hst.sep j k l l2 ob ob' hl hl2 hob hob' hkj hown (.inr hc) e.symm
        · cases h
      · cases h
    · cases h
  · rename_i p n1 c1
    obtain ⟨us, h1, h2⟩ := Option.map_eq_some_iff.1 h
    injection h2 with h2 h3
    simp only [SV.Is] at hs
    injection hs with hs
    subst hs
    obtain ⟨hlen, hat⟩ := inpL_some h1
    have hk : n1 * z ≠ 0 := by
      intro h0
      rw [h0] at hlen
      rw [List.length_eq_zero_iff.1 hlen] at h3
      exact hne h3.symm
    obtain ⟨a', ha', _, hat⟩ := hat hk
    injection ha' with ha'
    subst ha'
    obtain ⟨x, hx⟩ : ∃ x, us[0]? = some x := by
      cases us with
      | nil => simp at hlen; omega
      | cons x _ => exact ⟨x, rfl⟩
    have := (hst.inp _ _ (hat 0 x hx)).1
    rw [add_zero_addr] at this
    exact fun e => this (e ▸ hbase)
  · injection h with h; injection h with h1 h2
    exact (hne h2.symm).elim
  · cases h
theorem knows_but {I : Inp} (hst : St base w0 r m W) (hl : r[j]? = some l) (hob : m[j]? = some ob) (hown : ob.own = true) {s : SV} {u : Value} (hs : s.Is r u) : Knows I (inpBut W l.blk) (m.set j ⟨false, []⟩) s u := by
  have hst' := hst.dead j
  refine ⟨fun x hx => by subst hx; simpa only [SV.Is] using hs, fun ys hx => ?_, fun z n ys hsl => ?_⟩
  · subst hx
    simp only [SV.Is] at hs
    obtain ⟨us, rfl, hus⟩ := hs
    rw [isL_v_inv hus]
  · obtain ⟨p, c, us, rfl, hus, hlen, hcell⟩ := sl_cells hst' hsl hs
    have hxl := slOf_len hsl
    obtain rfl := isL_v_inv hus
    refine ⟨p, c, rfl, inpL_of (I := inpBut W l.blk) (by simpa using hxl) fun hne => ?_⟩
    rcases hcell with ⟨a, rfl, hc⟩ | ⟨_, h0⟩
    · have hc := hc W (Same.refl _ _)
      have hap := sl_apart hst hl hob hown hsl hs (by simpa using hne)
      refine ⟨a, rfl, ?_, fun i u hi => ?_⟩
      · obtain ⟨x, hx⟩ : ∃ x, us[0]? = some x := by
          cases us with
          | nil => exact (hne rfl).elim
          | cons x _ => exact ⟨x, rfl⟩
        have := hc 0 x hx
        rw [add_zero_addr] at this
        exact World.cell?_spot this
      · show (if (a.add i).block = l.blk then none else W.cell? (a.add i)) = some u
        have e : (a.add i).block = a.block := by unfold Addr.add; split <;> rfl
        rw [if_neg (by rw [e]; exact hap)]
        exact hc i u hi
    · exact (hne h0).elim
theorem knowsL_but {I : Inp} (hst : St base w0 r m W) (hl : r[j]? = some l) (hob : m[j]? = some ob) (hown : ob.own = true) : ∀ {ss : List SV} {us : List Value}, SV.IsL r ss us → KnowsL I (inpBut W l.blk) (m.set j ⟨false, []⟩) ss us
  | [], us, h => by simpa only [SV.IsL, KnowsL] using h
  | s :: ss, us, h => by
    simp only [SV.IsL] at h
    obtain ⟨u, t, rfl, h1, h2⟩ := h
    exact ⟨u, t, rfl, knows_but hst hl hob hown h1, knowsL_but hst hl hob hown h2⟩
end
theorem keep1 [I : Inp] {g : List Nat} (h : I.keep = 1) (h0 : g[0]? = some 0) : KeepOk g := fun k hk => by
  rw [h] at hk
  obtain rfl : k = 0 := by omega
  exact h0
section
variable {P : Program} {f : FuncId} {eff : List FuncId} {N : Nat} {x : XC} {rs : List XR}
/-- A method: it reads and writes the object that its first argument leads to (plain cells), reads what the others lead to, and gives a plain value. -/
theorem Contract.meth [I : Inp] (hF : FnX P f eff N x rs) {G : Inp → List CEntry} (hG : ∀ J, @GOk J P (G J)) (tr : Trans)
    (body : ∀ args m k, tr args m k → ∃ (j o : Nat) (us : List SV) (ob : SObj), args = .ptr j o :: us ∧ m[j]? = some ob ∧ ob.own = true ∧ plainL ob.cells = true ∧ us.length + 1 ≤ N ∧
      ∀ (J : Inp), J.keep = 1 → ∀ (vs : List Value), KnowsL I J (m.set j ⟨false, []⟩) us vs → @evX J P N eff (G J) x (slots (argSlots 0 (.ptr 0 o :: vs.map SV.of))) [⟨true, ob.cells⟩]
        (fun ex e m' => EndsX ex ∧ evR rs e m' fun s => s.plain = true ∧ ∃ c', m'[0]? = some ⟨true, c'⟩ ∧ plainL c' = true ∧ k s (m.set j ⟨true, c'⟩))) : Contract P f false tr := by
  refine ⟨hF.enter, fun args m k base w0 W r vs ht hst ha => ?_⟩
  obtain ⟨j, o, us, ob, rfl, hob, hown, hp, hlen, hev⟩ := body args m k ht
  obtain ⟨l, vs, hl, rfl, ha2⟩ := ptr_inv ha
  have hk := knowsL_but (I := I) hst hl hob hown ha2
  have hvl := IsL_len ha2
  have hargs : @SV.IsL [l] (.ptr 0 o :: vs.map SV.of) (.pointer (some ⟨l.blk, l.off + o, none⟩) :: vs) := by
    simp only [SV.IsL, SV.Is]
    exact ⟨_, _, rfl, ⟨l, rfl, rfl⟩, isL_of vs⟩
  refine (@FnX.calls P f eff N x rs (G (inpBut W l.blk)) (inpBut W l.blk) hF (hG _) _ _ _ _ _ _ _ (hst.one hl hob hown hp) hargs (by simp; omega) (fun s m' => s.plain = true ∧ ∃ c', m'[0]? = some ⟨true, c'⟩ ∧ plainL c' = true ∧ k s (m.set j ⟨true, c'⟩)) (hev (inpBut W l.blk) rfl vs hk)).mono ?_
  rintro e W1 ⟨s, m', r', u, ⟨hs1, c', hm', hp', hk⟩, rfl, hst1, hs, hkp⟩
  have hr : r'[0]? = some l := hkp 0 l (Nat.lt_succ_self 0) rfl
  exact ⟨s, _, [], u, hk, rfl, by simpa using St.back I (inpBut W l.blk) hst hl hob hown hst1 hr hm' hp', plain_is hs1 hs, fun h => by cases h⟩
end
end Go.Proofs.Ytppndeoiifkkkaa.Sz
