/- Symbolic walks, part T: atomic loads, stores, sums and swaps, and the library's marks: functions that the model stands in for. No condition. -/
import Derived.Test.YtibefgdjijmncaaSzM
import Derived.Laws.LoneSync
namespace Go.Proofs.Ytibefgdjijmncaa.Sz
open Go.RowKit
set_option linter.unusedVariables false
set_option linter.unusedSimpArgs false
variable {P : Program} {f : FuncId} {fn : Func}
/-- What the runner is told of a function, as what a walk is told. -/
def trOf (g : List SV → Mem → Option (List (SV × Mem))) : Trans := fun args m k => match g args m with | some L => ∀ o ∈ L, k o.1 o.2 | none => False
theorem setCell_row {W : World} {b i : Nat} {c : Array Value} {T : TypeId} {fr : Nat × Nat} (h : W.heap[b]? = some (.cells c T fr)) (u : Value) : W.setCell ⟨b, i, none⟩ u = W.setRow b (c.setIfInBounds i u) := by
  unfold World.setCell World.setRow
  congr 1
  apply Array.ext
  · simp
  · intro k h1 h2
    simp only [Array.getElem_modify]
    split
    · rename_i e
      subst e
      have : W.heap[b]? = some (W.heap[b]'(by simpa using h1)) := by simp
      rw [h] at this
      injection this with this
      rw [← this]
      simp
    · rfl
section
variable [Inp] {base : Nat → Prop} {w0 W : World} {r : List Loc} {m : Mem}
/-- A cell of an object. -/
theorem St.cellAt (hst : St base w0 r m W) {j o : Nat} {ob : SObj} {s : SV} (hob : m[j]? = some ob) (hs : ob.cells[o]? = some s) : ∃ l u, r[j]? = some l ∧ W.cell? ⟨l.blk, l.off + o, none⟩ = some u ∧ s.Is r u := by
  have hj : j < r.length := by rw [hst.len]; exact (List.getElem?_eq_some_iff.1 hob).1
  have hO := hst.obj j _ ob (List.getElem?_eq_getElem hj) hob
  have hne : ob.cells ≠ [] := fun e => by rw [e] at hs; simp at hs
  obtain ⟨c, T, fr, g1, g2, g3, g4⟩ := hO.there (notM hO hne) (.inr hne)
  obtain ⟨u, hu, hsu⟩ := IsL_get g3 hs
  refine ⟨_, u, List.getElem?_eq_getElem hj, ?_, hsu⟩
  rw [List.getElem?_take] at hu
  split at hu
  · rw [List.getElem?_drop] at hu
    rw [cell_of_row W _ _ c T fr g1]
    simpa using hu
  · cases hu
/-- A cell of an object of the walk's own is written. -/
theorem St.setAt (hst : St base w0 r m W) {j o : Nat} {ob : SObj} {l : Loc} {s' : SV} {u : Value} (hl : r[j]? = some l) (hob : m[j]? = some ob) (hown : ob.own = true) (ho : o < ob.cells.length) (hs : s'.Is r u) :
    W.frozen? ⟨l.blk, l.off + o, none⟩ = false ∧ St base w0 r (m.set j ⟨true, ob.cells.set o s'⟩) (W.setCell ⟨l.blk, l.off + o, none⟩ u) := by
  have hO := hst.obj j l ob hl hob
  have hne : ob.cells ≠ [] := fun e => by rw [e] at ho; simp at ho
  obtain ⟨c, T, fr, g1, g2, g3, g4⟩ := hO.there (notM hO hne) (.inr hne)
  have g5 := hO.fits
  have := g4 hown
  subst this
  refine ⟨by simp [World.frozen?, g1], ?_⟩
  rw [setCell_row g1]
  refine hst.put hl hob hown g1 _ (by simp) _ (hO.put hown g1 g2 (by simp) (by simpa using hO.fits) ?_)
  have e : ((c.setIfInBounds (l.off + o) u).toList.drop l.off).take (ob.cells.set o s').length = ((c.toList.drop l.off).take ob.cells.length).set o u := by
    rw [List.length_set, Array.toList_setIfInBounds]
    apply List.ext_getElem?
    intro i
    simp only [List.getElem?_take, List.getElem?_drop, List.getElem?_set, List.length_take, List.length_drop, Array.length_toList]
    have hc : l.off + l.room ≤ c.size := g2
    by_cases h1 : i < ob.cells.length
    · by_cases h2 : o = i
      · subst h2
        simp only [if_pos h1, if_true]
        rw [if_pos (by omega), if_pos (by omega)]
      · rw [if_pos h1, if_neg (by omega), if_neg h2, if_pos h1]
    · rw [if_neg h1]
      by_cases h2 : o = i
      · omega
      · rw [if_neg h2, if_neg h1]
  show SV.IsL r (ob.cells.set o s') (((c.setIfInBounds (l.off + o) u).toList.drop l.off).take (ob.cells.set o s').length)
  rw [e]
  exact IsL_set o g3 hs
end
theorem ptr_inv [Inp] {r : List Loc} {j o : Nat} {vs : List Value} {l : List SV} (h : SV.IsL r (.ptr j o :: l) vs) : ∃ lc t, r[j]? = some lc ∧ vs = .pointer (some ⟨lc.blk, lc.off + o, none⟩) :: t ∧ SV.IsL r l t := by
  simp only [SV.IsL, SV.Is] at h
  obtain ⟨u, t, rfl, ⟨lc, hl, rfl⟩, ht⟩ := h
  exact ⟨lc, t, hl, rfl, ht⟩
theorem int_inv {r : List Loc} {x : Value} {vs : List Value} {l : List SV} (h : SV.IsL r (.v x :: l) vs) : ∃ t, vs = x :: t ∧ SV.IsL r l t := by
  simp only [SV.IsL, SV.Is] at h
  obtain ⟨u, t, rfl, rfl, ht⟩ := h
  exact ⟨t, rfl, ht⟩
theorem nil_inv {r : List Loc} {vs : List Value} (h : SV.IsL r [] vs) : vs = [] := by simpa only [SV.IsL] using h
/-! ### Loads -/
def cellI (m : Mem) (j o : Nat) (k : IntKind) : Option Int := match m[j]? with
  | some ob => (match ob.cells[o]? with | some (.v (.int k' x)) => if k' = k then some x else none | _ => none)
  | none => none
theorem cellI_ok {m : Mem} {j o : Nat} {k : IntKind} {x : Int} (h : cellI m j o k = some x) : ∃ ob, m[j]? = some ob ∧ ob.cells[o]? = some (.v (.int k x)) := by
  unfold cellI at h
  split at h
  · rename_i ob hob
    split at h
    · rename_i k' x' hc
      split at h
      · rename_i e
        injection h with h; subst h; subst e
        exact ⟨ob, hob, hc⟩
      · cases h
    · cases h
  · cases h
def gLoad (k : IntKind) : List SV → Mem → Option (List (SV × Mem)) := fun args m => match args with
  | [.ptr j o] => (match cellI m j o k with | some x => some [(.v (.int k x), m)] | none => none)
  | _ => none
theorem ext_load [Inp] (hf : P.funcs[f]? = some fn) (hname : (fn.name == "runtime.NumGoroutine") = false) (hb : fn.body.isNone = true) (hn : Extern.findNext fn = none) (k : IntKind)
    (he : Extern.find fn = some (Extern.Atomic.loadT (.int k))) : ExtC P f true (trOf (gLoad k)) := by
  refine ⟨fun args m K base w0 W r vs ht hst ha => ?_⟩
  unfold trOf gLoad at ht
  split at ht
  case h_2 => exact ht.elim
  rename_i L hL
  split at hL
  case h_2 => cases hL
  rename_i j o
  split at hL
  case h_2 => cases hL
  rename_i x hx
  injection hL with hL; subst hL
  obtain ⟨ob, hob, hc⟩ := cellI_ok hx
  obtain ⟨lc, t, hl, rfl, ht2⟩ := ptr_inv ha
  obtain rfl := nil_inv ht2
  obtain ⟨l, u, hl', hcell, hu⟩ := hst.cellAt hob hc
  rw [hl] at hl'; injection hl' with hl'; subst hl'
  simp only [SV.Is] at hu
  subst hu
  exact ⟨_, m, [], _, W, ht _ (List.mem_singleton.2 rfl), run_call_load hf hname hb hn k he hcell, by simpa using hst, by simp only [SV.Is], fun _ => Same.refl _ _⟩
/-! ### Stores -/
def setI (m : Mem) (j o : Nat) (s : SV) : Option Mem := match m[j]? with
  | some ob => bif ob.own && Nat.blt o ob.cells.length then some (m.set j ⟨true, ob.cells.set o s⟩) else none
  | none => none
theorem setI_ok {m m' : Mem} {j o : Nat} {s : SV} (h : setI m j o s = some m') : ∃ ob, m[j]? = some ob ∧ ob.own = true ∧ o < ob.cells.length ∧ m' = m.set j ⟨true, ob.cells.set o s⟩ := by
  unfold setI at h
  split at h
  · rename_i ob hob
    cases hc : ob.own && Nat.blt o ob.cells.length with
    | true =>
      simp only [hc, cond_true] at h
      injection h with h; subst h
      simp only [Bool.and_eq_true] at hc
      exact ⟨ob, hob, hc.1, by simpa [Nat.blt_eq] using hc.2, rfl⟩
    | false => simp only [hc, cond_false] at h; cases h
  · cases h
def gStore : List SV → Mem → Option (List (SV × Mem)) := fun args m => match args with
  | [.ptr j o, .v (.int k y)] => (match setI m j o (.v (.int k y)) with | some m' => some [(.tup [], m')] | none => none)
  | _ => none
theorem ext_store [Inp] (hf : P.funcs[f]? = some fn) (hname : (fn.name == "runtime.NumGoroutine") = false) (hb : fn.body.isNone = true) (hn : Extern.findNext fn = none)
    (he : Extern.find fn = some Extern.Atomic.storeT) : ExtC P f false (trOf gStore) := by
  refine ⟨fun args m K base w0 W r vs ht hst ha => ?_⟩
  unfold trOf gStore at ht
  split at ht
  case h_2 => exact ht.elim
  rename_i L hL
  split at hL
  case h_2 => cases hL
  rename_i j o k y
  split at hL
  case h_2 => cases hL
  rename_i m' hm
  injection hL with hL; subst hL
  obtain ⟨ob, hob, hown, ho, rfl⟩ := setI_ok hm
  obtain ⟨lc, t, hl, rfl, ht2⟩ := ptr_inv ha
  obtain ⟨t3, rfl, ht3⟩ := int_inv ht2
  obtain rfl := nil_inv ht3
  obtain ⟨l, u, hl', hcell, _⟩ := hst.cellAt hob (List.getElem?_eq_getElem ho)
  rw [hl] at hl'; injection hl' with hl'; subst hl'
  obtain ⟨hz, hst1⟩ := hst.setAt (s' := .v (.int k y)) (u := .int k y) hl hob hown ho (by simp only [SV.Is])
  exact ⟨_, _, [], _, _, ht _ (List.mem_singleton.2 rfl), run_call_store hf hname hb hn he hcell hz, by simpa using hst1, by simp only [SV.Is]; exact ⟨[], rfl, by simp only [SV.IsL]⟩, fun h => by cases h⟩
/-! ### Sums -/
def gAdd (k : IntKind) : List SV → Mem → Option (List (SV × Mem)) := fun args m => match args with
  | [.ptr j o, .v (.int k' y)] => if k' = k then (match cellI m j o k with
    | some x => (match setI m j o (.v (.int k (k.wrap (x + y)))) with | some m' => some [(.v (.int k (k.wrap (x + y))), m')] | none => none)
    | none => none) else none
  | _ => none
theorem ext_add [Inp] (hf : P.funcs[f]? = some fn) (hname : (fn.name == "runtime.NumGoroutine") = false) (hb : fn.body.isNone = true) (hn : Extern.findNext fn = none) (k : IntKind)
    (he : Extern.find fn = some (Extern.Atomic.update (Op.intArith .add) k true)) : ExtC P f false (trOf (gAdd k)) := by
  refine ⟨fun args m K base w0 W r vs ht hst ha => ?_⟩
  unfold trOf gAdd at ht
  split at ht
  case h_2 => exact ht.elim
  rename_i L hL
  split at hL
  case h_2 => cases hL
  rename_i j o k' y
  split at hL
  case isFalse => cases hL
  rename_i ek
  subst ek
  split at hL
  case h_2 => cases hL
  rename_i x hx
  split at hL
  case h_2 => cases hL
  rename_i m' hm
  injection hL with hL; subst hL
  obtain ⟨ob, hob, hc⟩ := cellI_ok hx
  obtain ⟨ob', hob', hown, ho, rfl⟩ := setI_ok hm
  rw [hob] at hob'; injection hob' with hob'; subst hob'
  obtain ⟨lc, t, hl, rfl, ht2⟩ := ptr_inv ha
  obtain ⟨t3, rfl, ht3⟩ := int_inv ht2
  obtain rfl := nil_inv ht3
  obtain ⟨l, u, hl', hcell, hu⟩ := hst.cellAt hob hc
  rw [hl] at hl'; injection hl' with hl'; subst hl'
  simp only [SV.Is] at hu
  subst hu
  obtain ⟨hz, hst1⟩ := hst.setAt (s' := .v (.int k' (k'.wrap (x + y)))) (u := .int k' (k'.wrap (x + y))) hl hob hown ho (by simp only [SV.Is])
  exact ⟨_, _, [], _, _, ht _ (List.mem_singleton.2 rfl), run_call_add (s := k'.wrap (x + y)) hf hname hb hn k' he hcell hz (by simp [Op.intArith]), by simpa using hst1, by simp only [SV.Is], fun h => by cases h⟩
/-! ### Swaps -/
def gCas (k : IntKind) : List SV → Mem → Option (List (SV × Mem)) := fun args m => match args with
  | [.ptr j o, .v (.int k1 a), .v (.int k2 b)] => if k1 = k ∧ k2 = k then (match cellI m j o k, setI m j o (.v (.int k b)) with
    | some x, some m' => if x = a then some [(.v (.bool true), m')] else some [(.v (.bool false), m)]
    | _, _ => none) else none
  | _ => none
theorem ext_cas [Inp] (hf : P.funcs[f]? = some fn) (hname : (fn.name == "runtime.NumGoroutine") = false) (hb : fn.body.isNone = true) (hn : Extern.findNext fn = none) (k : IntKind)
    (he : Extern.find fn = some (Extern.Atomic.casT (.int k))) : ExtC P f false (trOf (gCas k)) := by
  refine ⟨fun args m K base w0 W r vs ht hst ha => ?_⟩
  unfold trOf gCas at ht
  split at ht
  case h_2 => exact ht.elim
  rename_i L hL
  split at hL
  case h_2 => cases hL
  rename_i j o k1 a k2 b
  split at hL
  case isFalse => cases hL
  rename_i ek
  obtain ⟨rfl, rfl⟩ := ek
  split at hL
  case h_2 => cases hL
  rename_i x m' hx hm
  obtain ⟨ob, hob, hc⟩ := cellI_ok hx
  obtain ⟨ob', hob', hown, ho, rfl⟩ := setI_ok hm
  rw [hob] at hob'; injection hob' with hob'; subst hob'
  obtain ⟨lc, t, hl, rfl, ht2⟩ := ptr_inv ha
  obtain ⟨t3, rfl, ht3⟩ := int_inv ht2
  obtain ⟨t4, rfl, ht4⟩ := int_inv ht3
  obtain rfl := nil_inv ht4
  obtain ⟨l, u, hl', hcell, hu⟩ := hst.cellAt hob hc
  rw [hl] at hl'; injection hl' with hl'; subst hl'
  simp only [SV.Is] at hu
  subst hu
  obtain ⟨hz, hst1⟩ := hst.setAt (s' := .v (.int k2 b)) (u := .int k2 b) hl hob hown ho (by simp only [SV.Is])
  split at hL
  · rename_i e
    subst e
    injection hL with hL; subst hL
    exact ⟨_, _, [], _, _, ht _ (List.mem_singleton.2 rfl), run_call_cas_hit hf hname hb hn _ he hcell hz, by simpa using hst1, by simp only [SV.Is], fun h => by cases h⟩
  · rename_i e
    injection hL with hL; subst hL
    exact ⟨_, m, [], _, W, ht _ (List.mem_singleton.2 rfl), run_call_cas_miss hf hname hb hn _ he hcell hz e, by simpa using hst, by simp only [SV.Is], fun h => by cases h⟩
/-! ### Marks -/
def gMark0 : List SV → Mem → Option (List (SV × Mem)) := fun args m => match args with
  | [] => some [(.tup [], m)]
  | _ => none
theorem ext_mark0 [Inp] (hf : P.funcs[f]? = some fn) (hname : (fn.name == "runtime.NumGoroutine") = false) (hb : fn.body.isNone = true) (hn : Extern.findNext fn = none) (k : Mark)
    (he : Extern.find fn = some (fun _ => do mark k; pure Extern.Race.none_)) : ExtC P f true (trOf gMark0) := by
  refine ⟨fun args m K base w0 W r vs ht hst ha => ?_⟩
  unfold trOf gMark0 at ht
  split at ht
  case h_2 => exact ht.elim
  rename_i L hL
  split at hL
  case h_2 => cases hL
  injection hL with hL; subst hL
  obtain rfl := nil_inv ha
  exact ⟨_, m, [], _, W, ht _ (List.mem_singleton.2 rfl), run_call_mark0 hf hname hb hn k he W, by simpa using hst, by simp only [SV.Is]; exact ⟨[], rfl, by simp only [SV.IsL]⟩, fun _ => Same.refl _ _⟩
def gMark1 : List SV → Mem → Option (List (SV × Mem)) := fun args m => match args with
  | [.ptr _ _] => some [(.tup [], m)]
  | _ => none
theorem ext_mark1 [Inp] (hf : P.funcs[f]? = some fn) (hname : (fn.name == "runtime.NumGoroutine") = false) (hb : fn.body.isNone = true) (hn : Extern.findNext fn = none) (k : Addr → Mark)
    (he : Extern.find fn = some (Extern.Race.marked k)) : ExtC P f true (trOf gMark1) := by
  refine ⟨fun args m K base w0 W r vs ht hst ha => ?_⟩
  unfold trOf gMark1 at ht
  split at ht
  case h_2 => exact ht.elim
  rename_i L hL
  split at hL
  case h_2 => cases hL
  injection hL with hL; subst hL
  obtain ⟨lc, t, hl, rfl, ht2⟩ := ptr_inv ha
  obtain rfl := nil_inv ht2
  exact ⟨_, m, [], _, W, ht _ (List.mem_singleton.2 rfl), run_call_marked hf hname hb hn k he _ W, by simpa using hst, by simp only [SV.Is]; exact ⟨[], rfl, by simp only [SV.IsL]⟩, fun _ => Same.refl _ _⟩
end Go.Proofs.Ytibefgdjijmncaa.Sz
