/- Walks and plain facts for the law RangesCount, part MRCD. No condition. -/
import Derived.Test.YtcejgadbpahbmaaMRCA
import Derived.Test.YtcejgadbpahbmaaMRCC
import Derived.Test.YtcejgadbpahbmaaProg
import Derived.Sort.Grow
import Derived.Shelf.SlSortCmp.WholeK
import Derived.Shelf.Small.Wraps
import Derived.Shelf.SlSortCmp.NoneTotal
import Derived.RowKit
set_option linter.unusedVariables false
set_option linter.unusedSimpArgs false
section
namespace Go.Proofs.Ytcejgadbpahbmaa.Ra
structure Rg where
  fr : Int
  to : Int
deriving DecidableEq
def Mx : Int := 1099511627776
def clamp (n : Int) : Int := min (max n (-Mx)) Mx
theorem clamp_in (n : Int) : -Mx ≤ clamp n ∧ clamp n ≤ Mx := by unfold clamp Mx; omega
theorem clamp_id {n : Int} (h : -Mx ≤ n) (h2 : n ≤ Mx) : clamp n = n := by unfold clamp; omega
def hit (r : Rg) (n : Int) : Bool := decide (clamp r.fr ≤ n) && decide (n < clamp r.to)
def cov (l : List Rg) (n : Int) : Bool := l.any fun r => hit r n
def canon : List Rg → Prop
  | [] => True
  | r :: l => r.fr < r.to ∧ (∀ s ∈ l, r.to < s.fr) ∧ canon l
def inB (l : List Rg) : Prop := ∀ r ∈ l, -Mx ≤ r.fr ∧ r.to ≤ Mx
def mem (l : List Rg) (n : Int) : Prop := ∃ r ∈ l, r.fr ≤ n ∧ n < r.to
theorem mem_cons {r : Rg} {l : List Rg} {n : Int} : mem (r :: l) n ↔ (r.fr ≤ n ∧ n < r.to) ∨ mem l n := by
  unfold mem
  simp
theorem canon_ge {r : Rg} {l : List Rg} (h : canon (r :: l)) {n : Int} (hm : mem l n) : r.to < n := by
  obtain ⟨s, hs, h1, _⟩ := hm
  have := h.2.1 s hs
  omega
theorem canon_eq : ∀ {a b : List Rg}, canon a → canon b → (∀ n, mem a n ↔ mem b n) → a = b
  | [], [], _, _, _ => rfl
  | [], y :: b, _, hb, h => by
    have := (h y.fr).2 (mem_cons.2 (.inl ⟨Int.le_refl _, hb.1⟩))
    obtain ⟨s, hs, _⟩ := this
    cases hs
  | x :: a, [], ha, _, h => by
    have := (h x.fr).1 (mem_cons.2 (.inl ⟨Int.le_refl _, ha.1⟩))
    obtain ⟨s, hs, _⟩ := this
    cases hs
  | x :: a, y :: b, ha, hb, h => by
    have hx : ∀ n, mem (x :: a) n → x.fr ≤ n := fun n hn => by
      rcases mem_cons.1 hn with q | q
      · exact q.1
      · have := canon_ge ha q; have := ha.1; omega
    have hy : ∀ n, mem (y :: b) n → y.fr ≤ n := fun n hn => by
      rcases mem_cons.1 hn with q | q
      · exact q.1
      · have := canon_ge hb q; have := hb.1; omega
    have e1 : x.fr = y.fr := by
      have := hy _ ((h x.fr).1 (mem_cons.2 (.inl ⟨Int.le_refl _, ha.1⟩)))
      have := hx _ ((h y.fr).2 (mem_cons.2 (.inl ⟨Int.le_refl _, hb.1⟩)))
      omega
    have e2 : x.to = y.to := by
      rcases Int.lt_trichotomy x.to y.to with q | q | q
      · exfalso
        have h1 := (h x.to).2 (mem_cons.2 (.inl ⟨by have := ha.1; omega, q⟩))
        rcases mem_cons.1 h1 with r | r
        · omega
        · have := canon_ge ha r; omega
      · exact q
      · exfalso
        have h1 := (h y.to).1 (mem_cons.2 (.inl ⟨by have := hb.1; omega, q⟩))
        rcases mem_cons.1 h1 with r | r
        · omega
        · have := canon_ge hb r; omega
    have hxy : x = y := by
      cases x; cases y
      simp only at e1 e2
      rw [e1, e2]
    subst hxy
    rw [canon_eq ha.2.2 hb.2.2 fun n => ?_]
    constructor
    · intro hn
      rcases mem_cons.1 ((h n).1 (mem_cons.2 (.inr hn))) with q | q
      · have := canon_ge ha hn; omega
      · exact q
    · intro hn
      rcases mem_cons.1 ((h n).2 (mem_cons.2 (.inr hn))) with q | q
      · have := canon_ge hb hn; omega
      · exact q
theorem cov_mem {l : List Rg} (h : inB l) (hc : canon l) (n : Int) : cov l n = true ↔ mem l n := by
  unfold cov mem
  rw [List.any_eq_true]
  constructor
  · rintro ⟨r, hr, h2⟩
    have hb := h r hr
    have hlt : r.fr < r.to := by
      clear h h2 hb
      induction l with
      | nil => cases hr
      | cons s l ih =>
        rcases List.mem_cons.1 hr with rfl | hr
        · exact hc.1
        · exact ih hc.2.2 hr
    unfold hit at h2
    rw [Bool.and_eq_true, decide_eq_true_eq, decide_eq_true_eq, clamp_id (by omega) (by omega), clamp_id (by omega) (by omega)] at h2
    exact ⟨r, hr, h2⟩
  · rintro ⟨r, hr, h2⟩
    have hb := h r hr
    refine ⟨r, hr, ?_⟩
    unfold hit
    rw [Bool.and_eq_true, decide_eq_true_eq, decide_eq_true_eq, clamp_id (by omega) (by omega), clamp_id (by omega) (by omega)]
    exact h2
structure Ed where
  at_ : Int
  up : Int
  sec : Bool
def edg (s : Bool) (r : Rg) : List Ed := if clamp r.fr < clamp r.to then [⟨clamp r.fr, 1, s⟩, ⟨clamp r.to, -1, s⟩] else []
def edges (l : List Rg) (s : Bool) : List Ed := l.flatMap (edg s)
def dep (es : List Ed) (s : Bool) : Int := (es.map fun e => if e.sec = s then e.up else 0).sum
def depAt (es : List Ed) (s : Bool) (m : Int) : Int := dep (es.filter fun e => decide (e.at_ ≤ m)) s
theorem dep_nil (s : Bool) : dep [] s = 0 := rfl
theorem dep_cons (e : Ed) (es : List Ed) (s : Bool) : dep (e :: es) s = (if e.sec = s then e.up else 0) + dep es s := by simp [dep]
theorem dep_app (a b : List Ed) (s : Bool) : dep (a ++ b) s = dep a s + dep b s := by simp [dep]
theorem dep_perm {a b : List Ed} (h : a.Perm b) (s : Bool) : dep a s = dep b s := by
  induction h with
  | nil => rfl
  | cons x _ ih => rw [dep_cons, dep_cons, ih]
  | swap x y l => rw [dep_cons, dep_cons, dep_cons, dep_cons]; omega
  | trans _ _ h1 h2 => exact h1.trans h2
theorem depAt_perm {a b : List Ed} (h : a.Perm b) (s : Bool) (m : Int) : depAt a s m = depAt b s m := dep_perm (h.filter _) s
theorem depAt_app (a b : List Ed) (s : Bool) (m : Int) : depAt (a ++ b) s m = depAt a s m + depAt b s m := by
  unfold depAt
  rw [List.filter_append, dep_app]
theorem depAt_edg (s t : Bool) (r : Rg) (m : Int) : depAt (edg s r) t m = if s = t ∧ hit r m = true then 1 else 0 := by
  unfold edg depAt hit
  split
  · rename_i h
    by_cases h1 : clamp r.fr ≤ m
    · by_cases h2 : clamp r.to ≤ m
      · have h3 : ¬ m < clamp r.to := by omega
        simp only [List.filter_cons, List.filter_nil, decide_eq_true h1, decide_eq_true h2, if_true, dep_cons, dep_nil, decide_eq_false h3, Bool.and_false, Bool.false_eq_true, and_false, if_false]
        split <;> omega
      · have h3 : m < clamp r.to := by omega
        have h2' : decide (clamp r.to ≤ m) = false := decide_eq_false h2
        simp only [List.filter_cons, List.filter_nil, decide_eq_true h1, h2', if_true, Bool.false_eq_true, if_false, dep_cons, dep_nil, decide_eq_true h3, Bool.and_self, and_true]
        split <;> omega
    · have h2 : ¬ clamp r.to ≤ m := by omega
      simp only [List.filter_cons, List.filter_nil, decide_eq_false h1, decide_eq_false h2, Bool.false_eq_true, if_false, dep_nil, Bool.false_and, and_false]
  · rename_i h
    have : (decide (clamp r.fr ≤ m) && decide (m < clamp r.to)) = false := by
      rw [Bool.and_eq_false_iff, decide_eq_false_iff_not, decide_eq_false_iff_not]
      omega
    rw [this]
    simp [dep_nil]
theorem depAt_edges (l : List Rg) (s t : Bool) (m : Int) : depAt (edges l s) t m = if s = t then ((l.countP fun r => hit r m : Nat) : Int) else 0 := by
  induction l with
  | nil => simp [edges, depAt, dep_nil]
  | cons r l ih =>
    have e : edges (r :: l) s = edg s r ++ edges l s := rfl
    rw [e, depAt_app, depAt_edg, ih, List.countP_cons]
    by_cases h : s = t
    · simp only [h, true_and, if_true]
      split <;> simp_all <;> omega
    · simp [h]
theorem pos_cov (l : List Rg) (s : Bool) (m : Int) : decide (0 < depAt (edges l s) s m) = cov l m := by
  rw [depAt_edges, if_pos rfl]
  unfold cov
  rw [Bool.eq_iff_iff, decide_eq_true_eq, List.any_eq_true]
  have : (0 : Int) < ((l.countP fun r => hit r m : Nat) : Int) ↔ 0 < l.countP fun r => hit r m := by omega
  rw [this, List.countP_pos_iff]
theorem zero_other (l : List Rg) {s t : Bool} (h : s ≠ t) (m : Int) : depAt (edges l s) t m = 0 := by
  rw [depAt_edges, if_neg h]
def setTo (out : List Rg) (x : Int) : List Rg := match out.getLast? with | some r => out.dropLast ++ [⟨r.fr, x⟩] | none => []
def opn (out : List Rg) (x : Int) : Bool := match out.getLast? with | some r => decide (x < r.to) | none => false
def endAt (out : List Rg) (x : Int) : Bool := match out.getLast? with | some r => r.to == x | none => false
def stepO (out : List Rg) (x : Int) (inn : Bool) : List Rg :=
  if inn = true ∧ opn out x = false then (if endAt out x = true then setTo out (Mx + 1) else out ++ [⟨x, Mx + 1⟩])
  else if inn = false ∧ opn out x = true then setTo out x else out
def nxt (es : List Ed) (i : Nat) : Bool := match es[i]?, es[i + 1]? with | some e, some f => f.at_ == e.at_ | _, _ => false
def sw (T : Bool → Bool → Bool) (es : List Ed) : Nat → List Rg
  | 0 => []
  | i + 1 => if nxt es i = true then sw T es i else match es[i]? with
    | some e => stepO (sw T es i) e.at_ (T (decide (0 < dep (es.take (i + 1)) false)) (decide (0 < dep (es.take (i + 1)) true)))
    | none => sw T es i
def prd (T : Bool → Bool → Bool) (es : List Ed) (m : Int) : Bool := T (decide (0 < depAt es false m)) (decide (0 < depAt es true m))
theorem prd_congr {T : Bool → Bool → Bool} {es : List Ed} {m m' : Int} (h : ∀ e ∈ es, (e.at_ ≤ m ↔ e.at_ ≤ m')) : prd T es m = prd T es m' := by
  have : (es.filter fun e => decide (e.at_ ≤ m)) = es.filter fun e => decide (e.at_ ≤ m') := List.filter_congr fun e he => by
    rw [decide_eq_decide]; exact h e he
  unfold prd depAt
  rw [this]
theorem prd_none {T : Bool → Bool → Bool} (hT : T false false = false) {es : List Ed} {m : Int} (h : ∀ e ∈ es, ¬ e.at_ ≤ m) : prd T es m = false := by
  have : (es.filter fun e => decide (e.at_ ≤ m)) = [] := List.filter_eq_nil_iff.2 fun e he => by simpa using h e he
  unfold prd depAt
  rw [this]
  exact hT
theorem last_app {D : List Rg} {r : Rg} : (D ++ [r]).getLast? = some r := by simp
theorem setTo_app {D : List Rg} {r : Rg} {x : Int} : setTo (D ++ [r]) x = D ++ [⟨r.fr, x⟩] := by
  unfold setTo
  rw [last_app]
  simp
theorem last_mem {D : List Rg} {r : Rg} (h : D.getLast? = some r) : r ∈ D := List.mem_of_getLast? h
theorem canon_snoc : ∀ {D : List Rg} {r : Rg}, canon D → r.fr < r.to → (∀ s ∈ D, s.to < r.fr) → canon (D ++ [r])
  | [], r, _, h, _ => ⟨h, by simp, trivial⟩
  | d :: D, r, hc, h, hd => by
    refine ⟨hc.1, fun s hs => ?_, canon_snoc hc.2.2 h fun s hs => hd s (by simp [hs])⟩
    rcases List.mem_append.1 hs with hs | hs
    · exact hc.2.1 s hs
    · rw [List.mem_singleton] at hs
      subst hs
      exact hd d (by simp)
theorem mem_snoc {D : List Rg} {r : Rg} {m : Int} : mem (D ++ [r]) m ↔ mem D m ∨ (r.fr ≤ m ∧ m < r.to) := by
  unfold mem
  constructor
  · rintro ⟨s, hs, h⟩
    rcases List.mem_append.1 hs with hs | hs
    · exact .inl ⟨s, hs, h⟩
    · rw [List.mem_singleton] at hs
      subst hs
      exact .inr h
  · rintro (⟨s, hs, h⟩ | h)
    · exact ⟨s, by simp [hs], h⟩
    · exact ⟨r, by simp, h⟩
def okAt (P : Int → Bool) (out : List Rg) (x0 : Int) : Prop := ∃ (D : List Rg) (f : Int), out = D ++ (if P x0 = true then [⟨f, Mx + 1⟩] else []) ∧ canon D ∧ (∀ r ∈ D, -Mx ≤ r.fr ∧ r.to ≤ x0) ∧
  (P x0 = true → f ≤ x0 ∧ -Mx ≤ f ∧ ∀ r ∈ D, r.to < f) ∧ ∀ m, (mem D m ∨ (P x0 = true ∧ f ≤ m)) ↔ P (min m x0) = true
theorem okAt_step {P : Int → Bool} {out : List Rg} {x0 x : Int} (h : okAt P out x0) (hx : x0 < x) (hxM : -Mx ≤ x ∧ x ≤ Mx) (hc : ∀ m, x0 ≤ m → m < x → P m = P x0) : okAt P (stepO out x (P x)) x := by
  obtain ⟨D, f, rfl, h1, h2, h3, h4⟩ := h
  have hlow : ∀ m, m < x → (P (min m x) = P (min m x0)) := fun m hm => by
    rw [Int.min_eq_left (by omega)]
    rcases Int.lt_or_le m x0 with q | q
    · rw [Int.min_eq_left (by omega)]
    · rw [Int.min_eq_right q]
      exact hc m q hm
  have hhigh : ∀ m, x ≤ m → P (min m x) = P x := fun m hm => by rw [Int.min_eq_right hm]
  have hDm : ∀ m, mem D m → m < x0 := fun m ⟨r, hr, _, q⟩ => by have := h2 r hr; omega
  cases hp0 : P x0 with
  | false =>
    rw [hp0] at h3 h4
    simp only [Bool.false_eq_true, if_false, List.append_nil, false_and, or_false] at h4 ⊢
    have hop : opn D x = false := by
      unfold opn
      cases hl : D.getLast? with
      | none => rfl
      | some r => have := h2 r (last_mem hl); simp; omega
    have hen : endAt D x = false := by
      unfold endAt
      cases hl : D.getLast? with
      | none => rfl
      | some r => have := h2 r (last_mem hl); simp; omega
    cases hp : P x with
    | true =>
      have e : stepO D x true = D ++ [⟨x, Mx + 1⟩] := by unfold stepO; rw [if_pos ⟨rfl, hop⟩, hen]; rfl
      refine ⟨D, x, by rw [e, hp]; rfl, h1, fun r hr => by have := h2 r hr; omega, fun _ => ⟨Int.le_refl _, hxM.1, fun r hr => by have := h2 r hr; omega⟩, fun m => ?_⟩
      rw [hp]
      rcases Int.lt_or_le m x with q | q
      · rw [hlow m q, ← h4 m]
        constructor
        · rintro (r | ⟨_, r⟩)
          · exact r
          · omega
        · exact .inl
      · rw [hhigh m q, hp]
        exact ⟨fun _ => rfl, fun _ => .inr ⟨rfl, q⟩⟩
    | false =>
      have e : stepO D x false = D := by unfold stepO; rw [if_neg (by simp), if_neg (by rw [hop]; simp)]
      refine ⟨D, x, by rw [e, hp]; simp, h1, fun r hr => by have := h2 r hr; omega, fun q => (by rw [hp] at q; cases q), fun m => ?_⟩
      rw [hp]
      simp only [Bool.false_eq_true, false_and, or_false]
      rcases Int.lt_or_le m x with q | q
      · rw [hlow m q]; exact h4 m
      · rw [hhigh m q, hp]
        exact ⟨fun r => by have := hDm m r; omega, fun r => by cases r⟩
  | true =>
    obtain ⟨g1, g2, g3⟩ := h3 hp0
    rw [hp0] at h4
    simp only [if_true, true_and] at h4 ⊢
    have hop : opn (D ++ [⟨f, Mx + 1⟩]) x = true := by
      unfold opn
      rw [last_app]
      simp
      omega
    cases hp : P x with
    | true =>
      have e : stepO (D ++ [⟨f, Mx + 1⟩]) x true = D ++ [⟨f, Mx + 1⟩] := by unfold stepO; rw [if_neg (by rw [hop]; simp), if_neg (by simp)]
      refine ⟨D, f, by rw [e, hp]; rfl, h1, fun r hr => by have := h2 r hr; omega, fun _ => ⟨by omega, g2, g3⟩, fun m => ?_⟩
      rw [hp]
      simp only [true_and]
      rcases Int.lt_or_le m x with q | q
      · rw [hlow m q]; exact h4 m
      · rw [hhigh m q, hp]
        exact ⟨fun _ => rfl, fun _ => .inr (by omega)⟩
    | false =>
      have e : stepO (D ++ [⟨f, Mx + 1⟩]) x false = D ++ [⟨f, x⟩] := by unfold stepO; rw [if_neg (by simp), if_pos ⟨rfl, hop⟩, setTo_app]
      refine ⟨D ++ [⟨f, x⟩], x, by rw [e, hp]; simp, canon_snoc h1 (by show f < x; omega) g3, fun r hr => ?_, fun q => (by rw [hp] at q; cases q), fun m => ?_⟩
      · rcases List.mem_append.1 hr with hr | hr
        · have := h2 r hr; omega
        · rw [List.mem_singleton] at hr
          subst hr
          exact ⟨g2, Int.le_refl _⟩
      · rw [hp]
        simp only [Bool.false_eq_true, false_and, or_false]
        rw [mem_snoc]
        rcases Int.lt_or_le m x with q | q
        · rw [hlow m q, ← h4 m]
          constructor
          · rintro (r | r)
            · exact .inl r
            · exact .inr r.1
          · rintro (r | r)
            · exact .inl r
            · exact .inr ⟨r, q⟩
        · rw [hhigh m q, hp]
          constructor
          · rintro (r | r)
            · have := hDm m r; omega
            · have := r.2; simp only at this; omega
          · intro r; cases r
theorem okAt_first {P : Int → Bool} {x : Int} (hxM : -Mx ≤ x ∧ x ≤ Mx) (hc : ∀ m, m < x → P m = false) : okAt P (stepO [] x (P x)) x := by
  cases hp : P x with
  | true =>
    refine ⟨[], x, by rw [hp]; rfl, trivial, by simp, fun _ => ⟨Int.le_refl _, hxM.1, by simp⟩, fun m => ?_⟩
    rcases Int.lt_or_le m x with q | q
    · rw [Int.min_eq_left (by omega), hc m q]
      constructor
      · rintro (⟨r, hr, _⟩ | ⟨_, r⟩)
        · cases hr
        · omega
      · intro r; cases r
    · rw [Int.min_eq_right q, hp]
      exact ⟨fun _ => rfl, fun _ => .inr ⟨rfl, q⟩⟩
  | false =>
    refine ⟨[], x, by rw [hp]; rfl, trivial, by simp, fun q => (by rw [hp] at q; cases q), fun m => ?_⟩
    rw [hp]
    simp only [Bool.false_eq_true, false_and, or_false]
    constructor
    · rintro ⟨r, hr, _⟩; cases hr
    · intro r
      exfalso
      rcases Int.lt_or_le m x with q | q
      · rw [Int.min_eq_left (by omega), hc m q] at r; cases r
      · rw [Int.min_eq_right q, hp] at r; cases r
theorem take_drop_mem {es : List Ed} {i : Nat} {e : Ed} (h : e ∈ es) : e ∈ es.take i ∨ e ∈ es.drop i := by
  rw [← List.take_append_drop i es] at h
  exact List.mem_append.1 h
theorem take_le {es : List Ed} (hs : es.Pairwise fun e f => e.at_ ≤ f.at_) {i : Nat} (hi : i < es.length) : (∀ e ∈ es.take (i + 1), e.at_ ≤ es[i].at_) ∧ ∀ e ∈ es.drop i, es[i].at_ ≤ e.at_ := by
  have hpw := List.pairwise_iff_getElem.1 hs
  constructor
  · intro e he
    obtain ⟨j, hj⟩ := List.getElem?_of_mem he
    have hji : j < i + 1 := by
      have := (List.getElem?_eq_some_iff.1 hj).1
      rw [List.length_take] at this
      omega
    rw [List.getElem?_take_of_lt hji, List.getElem?_eq_getElem (by omega)] at hj
    injection hj with hj
    rw [← hj]
    by_cases e : j = i
    · subst e; exact Int.le_refl _
    · exact hpw j i (by omega) hi (by omega)
  · intro e he
    obtain ⟨j, hj⟩ := List.getElem?_of_mem he
    rw [List.getElem?_drop] at hj
    have hji := (List.getElem?_eq_some_iff.1 hj).1
    rw [List.getElem?_eq_getElem hji] at hj
    injection hj with hj
    rw [← hj]
    by_cases e : j = 0
    · subst e; exact Int.le_refl _
    · exact hpw i (i + j) hi hji (by omega)
theorem sw_inv {T : Bool → Bool → Bool} (hT : T false false = false) {es : List Ed} (hs : es.Pairwise fun e f => e.at_ ≤ f.at_) (hb : ∀ e ∈ es, -Mx ≤ e.at_ ∧ e.at_ ≤ Mx) : ∀ i, i ≤ es.length →
    (sw T es i = [] ∧ ∀ e ∈ es.take i, ∃ f, es[i]? = some f ∧ e.at_ = f.at_) ∨
    ∃ x0, okAt (prd T es) (sw T es i) x0 ∧ (∀ e ∈ es.take i, e.at_ ≤ x0 ∨ ∃ f, es[i]? = some f ∧ e.at_ = f.at_) ∧ ∀ e ∈ es.drop i, x0 < e.at_
  | 0, _ => .inl ⟨rfl, by simp⟩
  | i + 1, hi => by
    have ih := sw_inv hT hs hb i (by omega)
    have hi' : i < es.length := by omega
    have hei : es[i]? = some es[i] := List.getElem?_eq_getElem hi'
    obtain ⟨t1, t2⟩ := take_le hs hi'
    have htk : es.take (i + 1) = es.take i ++ [es[i]] := List.take_succ_eq_append_getElem hi'
    have hdr : es.drop i = es[i] :: es.drop (i + 1) := List.drop_eq_getElem_cons hi'
    have hsw : sw T es (i + 1) = if nxt es i = true then sw T es i else stepO (sw T es i) es[i].at_ (T (decide (0 < dep (es.take (i + 1)) false)) (decide (0 < dep (es.take (i + 1)) true))) := by
      conv => lhs; unfold sw
      rw [hei]
    cases hn : nxt es i with
    | true =>
      rw [hsw, if_pos hn]
      obtain ⟨f, hf, hfe⟩ : ∃ f, es[i + 1]? = some f ∧ f.at_ = es[i].at_ := by
        unfold nxt at hn
        rw [hei] at hn
        cases h : es[i + 1]? with
        | none => rw [h] at hn; cases hn
        | some f => rw [h] at hn; exact ⟨f, rfl, by simpa using hn⟩
      have pend : ∀ e : Ed, (∃ f', es[i]? = some f' ∧ e.at_ = f'.at_) → ∃ f, es[i + 1]? = some f ∧ e.at_ = f.at_ := fun e ⟨f', h1, h2⟩ => by
        rw [hei] at h1
        injection h1 with h1
        exact ⟨f, hf, by rw [h2, ← h1, hfe]⟩
      rcases ih with ⟨a1, a2⟩ | ⟨x0, a1, a2, a3⟩
      · refine .inl ⟨a1, fun e he => ?_⟩
        rw [htk] at he
        rcases List.mem_append.1 he with he | he
        · exact pend e (a2 e he)
        · rw [List.mem_singleton] at he
          exact pend e ⟨_, hei, by rw [he]⟩
      · refine .inr ⟨x0, a1, fun e he => ?_, fun e he => a3 e (by rw [hdr]; exact List.mem_cons_of_mem _ he)⟩
        rw [htk] at he
        rcases List.mem_append.1 he with he | he
        · exact (a2 e he).imp id (pend e)
        · rw [List.mem_singleton] at he
          exact .inr (pend e ⟨_, hei, by rw [he]⟩)
    | false =>
      rw [hsw, if_neg (by rw [hn]; simp)]
      obtain ⟨x, hx⟩ : ∃ x, es[i].at_ = x := ⟨_, rfl⟩
      rw [hx] at t1 t2 ⊢
      have t3 : ∀ e ∈ es.drop (i + 1), x < e.at_ := fun e he => by
        have h1 : i + 1 < es.length := by
          rcases Nat.lt_or_ge (i + 1) es.length with q | q
          · exact q
          · rw [List.drop_eq_nil_of_le q] at he; cases he
        obtain ⟨_, t4⟩ := take_le hs h1
        have h2 := t4 e he
        have h3 : es[i + 1].at_ ≠ x := fun q => by
          unfold nxt at hn
          rw [hei, List.getElem?_eq_getElem h1] at hn
          simp only at hn
          rw [q, hx] at hn
          simp at hn
        have h4 := t2 es[i + 1] (by rw [hdr]; exact List.mem_cons_of_mem _ (List.mem_of_getElem? (i := 0) (by rw [List.getElem?_drop]; exact List.getElem?_eq_getElem h1)))
        omega
      have hda : ∀ s, dep (es.take (i + 1)) s = depAt es s x := fun s => by
        unfold depAt
        conv => rhs; rw [← List.take_append_drop (i + 1) es]
        rw [List.filter_append]
        have f1 : ((es.take (i + 1)).filter fun e => decide (e.at_ ≤ x)) = es.take (i + 1) := List.filter_eq_self.2 fun e he => by simpa using t1 e he
        have f2 : ((es.drop (i + 1)).filter fun e => decide (e.at_ ≤ x)) = [] := List.filter_eq_nil_iff.2 fun e he => by have := t3 e he; simp; omega
        rw [f1, f2, List.append_nil]
      rw [hda, hda]
      have hxb := hb es[i] (List.getElem_mem _)
      rw [hx] at hxb
      have hstep : okAt (prd T es) (stepO (sw T es i) x (prd T es x)) x := by
        rcases ih with ⟨a1, a2⟩ | ⟨x0, a1, a2, a3⟩
        · rw [a1]
          refine okAt_first hxb fun m hm => prd_none hT fun e he => ?_
          rcases take_drop_mem (i := i) he with he | he
          · obtain ⟨f, h1, h2⟩ := a2 e he
            rw [hei] at h1
            injection h1 with h1
            rw [h2, ← h1, hx]
            omega
          · have := t2 e he; omega
        · have hx0 : x0 < x := by
            have := a3 es[i] (by rw [hdr]; exact List.mem_cons_self)
            omega
          refine okAt_step a1 hx0 hxb fun m h1 h2 => prd_congr fun e he => ?_
          rcases take_drop_mem (i := i) he with he | he
          · rcases a2 e he with q | ⟨f, g1, g2⟩
            · omega
            · rw [hei] at g1
              injection g1 with g1
              rw [g2, ← g1, hx]
              omega
          · have := t2 e he; omega
      exact .inr ⟨x, hstep, fun e he => .inl (t1 e he), t3⟩
theorem sw_end {T : Bool → Bool → Bool} (hT : T false false = false) {es : List Ed} (hs : es.Pairwise fun e f => e.at_ ≤ f.at_) (hb : ∀ e ∈ es, -Mx ≤ e.at_ ∧ e.at_ ≤ Mx) (hz : ∀ s, dep es s = 0) :
    canon (sw T es es.length) ∧ inB (sw T es es.length) ∧ ∀ m, mem (sw T es es.length) m ↔ prd T es m = true := by
  have hn : es[es.length]? = none := List.getElem?_eq_none (Nat.le_refl _)
  rcases sw_inv hT hs hb es.length (Nat.le_refl _) with ⟨a1, a2⟩ | ⟨x0, ⟨D, f, e1, h1, h2, h3, h4⟩, a2, a3⟩
  · rw [a1]
    refine ⟨trivial, fun r hr => (by cases hr), fun m => ?_⟩
    rw [List.take_length] at a2
    rw [prd_none hT fun e he => ?_]
    · constructor
      · rintro ⟨r, hr, _⟩; cases hr
      · intro r; cases r
    · obtain ⟨f, q, _⟩ := a2 e he
      rw [hn] at q; cases q
  · rw [List.take_length] at a2
    have hle : ∀ e ∈ es, e.at_ ≤ x0 := fun e he => by
      rcases a2 e he with q | ⟨f, q, _⟩
      · exact q
      · rw [hn] at q; cases q
    have hp : prd T es x0 = false := by
      unfold prd depAt
      have : (es.filter fun e => decide (e.at_ ≤ x0)) = es := List.filter_eq_self.2 fun e he => by simpa using hle e he
      rw [this, hz, hz]
      exact hT
    rw [hp] at e1 h4
    simp only [Bool.false_eq_true, if_false, List.append_nil, false_and, or_false] at e1 h4
    rw [e1]
    by_cases hne : es = []
    · subst hne
      have : D = [] := e1.symm
      subst this
      refine ⟨trivial, fun r hr => (by cases hr), fun m => ?_⟩
      rw [prd_none hT (by simp)]
      constructor
      · rintro ⟨r, hr, _⟩; cases hr
      · intro r; cases r
    refine ⟨h1, fun r hr => ⟨(h2 r hr).1, ?_⟩, fun m => ?_⟩
    · obtain ⟨hl, _⟩ : ∃ n, es.length = n + 1 := ⟨es.length - 1, by have := List.length_pos_iff.2 hne; omega⟩
      have hx0 : ∃ e ∈ es, True := ⟨es.head hne, List.head_mem hne, trivial⟩
      by_cases q : r.to ≤ Mx
      · exact q
      · exfalso
        -- a range ends where an edge lies
        have hr0 := h2 r hr
        have hlt : r.fr < r.to := by
          clear h2 h3 h4 e1 hr0 q
          induction D with
          | nil => cases hr
          | cons d D ih =>
            rcases List.mem_cons.1 hr with rfl | hr
            · exact h1.1
            · exact ih h1.2.2 hr
        have hm : mem D (max r.fr Mx) := ⟨r, hr, by omega, by omega⟩
        have := (h4 _).1 hm
        have e2 : prd T es (min (max r.fr Mx) x0) = prd T es x0 := prd_congr fun e he => by
          have := hle e he
          have := (hb e he).2
          omega
        rw [e2, hp] at this
        cases this
    · rw [h4 m]
      rcases Int.lt_or_le m x0 with q | q
      · rw [Int.min_eq_left (by omega)]
      · rw [Int.min_eq_right q, prd_congr (m' := x0) (m := m) fun e he => by have := hle e he; omega]
theorem edg_in (s : Bool) (r : Rg) : ∀ e ∈ edg s r, -Mx ≤ e.at_ ∧ e.at_ ≤ Mx := fun e he => by
  unfold edg at he
  split at he
  · simp only [List.mem_cons, List.mem_nil_iff, or_false] at he
    rcases he with rfl | rfl
    · exact clamp_in _
    · exact clamp_in _
  · cases he
theorem edg_zero (s t : Bool) (r : Rg) : dep (edg s r) t = 0 := by
  unfold edg
  split
  · simp only [dep_cons, dep_nil]
    split <;> omega
  · rfl
theorem edges_zero (s t : Bool) : ∀ l, dep (edges l s) t = 0
  | [] => rfl
  | r :: l => by
    have e : edges (r :: l) s = edg s r ++ edges l s := rfl
    rw [e, dep_app, edg_zero, edges_zero s t l]
    rfl
theorem edges_in (s : Bool) (l : List Rg) : ∀ e ∈ edges l s, -Mx ≤ e.at_ ∧ e.at_ ≤ Mx := fun e he => by
  obtain ⟨r, _, he⟩ := List.mem_flatMap.1 he
  exact edg_in s r e he
theorem sweep_ok {T : Bool → Bool → Bool} (hT : T false false = false) {a b : List Rg} {es : List Ed} (hp : es.Perm (edges a false ++ edges b true)) (hs : es.Pairwise fun e f => e.at_ ≤ f.at_) :
    canon (sw T es es.length) ∧ inB (sw T es es.length) ∧ ∀ m, mem (sw T es es.length) m ↔ T (cov a m) (cov b m) = true := by
  obtain ⟨h1, h2, h3⟩ := sw_end hT hs (fun e he => by
    rcases List.mem_append.1 (hp.mem_iff.1 he) with q | q
    · exact edges_in _ _ e q
    · exact edges_in _ _ e q) fun s => by rw [dep_perm hp, dep_app, edges_zero, edges_zero]; rfl
  refine ⟨h1, h2, fun m => ?_⟩
  rw [h3 m]
  unfold prd
  rw [depAt_perm hp, depAt_perm hp, depAt_app, depAt_app, zero_other a (s := false) (t := true) (by decide), zero_other b (s := true) (t := false) (by decide), Int.add_zero, Int.zero_add, pos_cov, pos_cov]
end Go.Proofs.Ytcejgadbpahbmaa.Ra
end
section
namespace Go.Proofs.Ytcejgadbpahbmaa.Ra
def isSet (T : Bool → Bool → Bool) (a b S : List Rg) : Prop := canon S ∧ inB S ∧ ∀ n, mem S n ↔ T (cov a n) (cov b n) = true
theorem isSet_eq {T : Bool → Bool → Bool} {a b S S' : List Rg} (h : isSet T a b S) (h' : isSet T a b S') : S = S' := canon_eq h.1 h'.1 fun n => by rw [h.2.2, h'.2.2]
def lenS (l : List Rg) : Int := (l.map fun r => r.to - r.fr).sum
def mu (l : List Rg) (x : Int) : Int := (l.map fun r => max 0 (min r.to x - r.fr)).sum
theorem mu_cons (r : Rg) (l : List Rg) (x : Int) : mu (r :: l) x = max 0 (min r.to x - r.fr) + mu l x := by simp [mu]
theorem lenS_cons (r : Rg) (l : List Rg) : lenS (r :: l) = (r.to - r.fr) + lenS l := by simp [lenS]
theorem mu_lo : ∀ {l : List Rg}, inB l → mu l (-Mx) = 0
  | [], _ => rfl
  | r :: l, h => by
    have h1 := h r (by simp)
    rw [mu_cons, mu_lo fun s hs => h s (by simp [hs])]
    omega
theorem mu_hi : ∀ {l : List Rg}, inB l → canon l → mu l Mx = lenS l
  | [], _, _ => rfl
  | r :: l, h, hc => by
    have h1 := h r (by simp)
    have h2 := hc.1
    rw [mu_cons, lenS_cons, mu_hi (fun s hs => h s (by simp [hs])) hc.2.2]
    omega
open Classical in
theorem mu_step : ∀ {l : List Rg}, canon l → ∀ x, mu l (x + 1) = mu l x + if mem l x then 1 else 0
  | [], _, x => by
    have : ¬ mem [] x := fun ⟨r, hr, _⟩ => by cases hr
    rw [if_neg this]
    rfl
  | r :: l, hc, x => by
    rw [mu_cons, mu_cons, mu_step hc.2.2 x]
    have h1 := hc.1
    by_cases hr : r.fr ≤ x ∧ x < r.to
    · have hn : ¬ mem l x := fun hm => by have := canon_ge hc hm; omega
      rw [if_neg hn, if_pos (mem_cons.2 (.inl hr))]
      omega
    · have : mem (r :: l) x ↔ mem l x := by rw [mem_cons]; exact ⟨fun q => q.elim (fun q => absurd q hr) id, .inr⟩
      simp only [this]
      omega
open Classical in
theorem mu_sum {a b c : List Rg} (ha : canon a) (hb : canon b) (hc : canon c) (ia : inB a) (ib : inB b) (ic : inB c)
    (h : ∀ n, (if mem c n then (1 : Int) else 0) = (if mem a n then 1 else 0) + if mem b n then 1 else 0) : ∀ k : Nat, mu c (-Mx + k) = mu a (-Mx + k) + mu b (-Mx + k)
  | 0 => by
    have e : -Mx + ((0 : Nat) : Int) = -Mx := by omega
    rw [e, mu_lo ia, mu_lo ib, mu_lo ic]
    rfl
  | k + 1 => by
    have e : -Mx + ((k + 1 : Nat) : Int) = (-Mx + k) + 1 := by omega
    rw [e, mu_step ha, mu_step hb, mu_step hc, mu_sum ha hb hc ia ib ic h k, h]
    omega
open Classical in
theorem lenS_sum {a b c : List Rg} (ha : canon a) (hb : canon b) (hc : canon c) (ia : inB a) (ib : inB b) (ic : inB c) (h1 : ∀ n, mem c n ↔ mem a n ∨ mem b n) (h2 : ∀ n, mem a n → ¬ mem b n) : lenS c = lenS a + lenS b := by
  have e : -Mx + ((2 * 1099511627776 : Nat) : Int) = Mx := by unfold Mx; omega
  have := mu_sum ha hb hc ia ib ic (fun n => by
    by_cases q : mem a n
    · rw [if_pos q, if_neg (h2 n q), if_pos ((h1 n).2 (.inl q))]; rfl
    · by_cases r : mem b n
      · rw [if_neg q, if_pos r, if_pos ((h1 n).2 (.inr r))]; rfl
      · rw [if_neg q, if_neg r, if_neg (fun s => ((h1 n).1 s).elim q r)]; rfl) (2 * 1099511627776)
  rw [e, mu_hi ia ha, mu_hi ib hb, mu_hi ic hc] at this
  exact this
theorem lenS_in : ∀ {l : List Rg}, inB l → canon l → 0 ≤ lenS l ∧ lenS l ≤ 2 * Mx := fun {l} h hc => by
  have pos : ∀ x : Nat, 0 ≤ mu l (-Mx + x) ∧ mu l (-Mx + x) ≤ x := fun x => by
    induction x with
    | zero =>
      have e : -Mx + ((0 : Nat) : Int) = -Mx := by omega
      rw [e, mu_lo h]
      omega
    | succ k ih =>
      have e : -Mx + ((k + 1 : Nat) : Int) = (-Mx + k) + 1 := by omega
      classical
      rw [e, mu_step hc]
      split <;> omega
  have e : -Mx + ((2 * 1099511627776 : Nat) : Int) = Mx := by unfold Mx; omega
  have := pos (2 * 1099511627776)
  rw [e, mu_hi h hc] at this
  unfold Mx
  omega
def isF : Option Int → List Rg → Bool
  | _, [] => true
  | p, r :: l => decide (r.fr < r.to) && decide (-Mx ≤ r.fr) && decide (r.to ≤ Mx) && (match p with | some q => decide (q < r.fr) | none => true) && isF (some r.to) l
theorem isF_ok : ∀ {l : List Rg} {p : Option Int}, isF p l = true ↔ canon l ∧ inB l ∧ ∀ q, p = some q → ∀ r ∈ l, q < r.fr
  | [], p => by simp [isF, canon, inB]
  | r :: l, p => by
    have ih := @isF_ok l (some r.to)
    have e : isF p (r :: l) = (decide (r.fr < r.to) && decide (-Mx ≤ r.fr) && decide (r.to ≤ Mx) && (match p with | some q => decide (q < r.fr) | none => true) && isF (some r.to) l) := rfl
    rw [e]
    simp only [Bool.and_eq_true, decide_eq_true_eq]
    rw [ih]
    constructor
    · rintro ⟨⟨⟨⟨h1, h2⟩, h3⟩, h4⟩, h5, h6, h7⟩
      refine ⟨⟨h1, h7 _ rfl, h5⟩, fun s hs => ?_, fun q hq s hs => ?_⟩
      · rcases List.mem_cons.1 hs with rfl | hs
        · exact ⟨h2, h3⟩
        · exact h6 s hs
      · subst hq
        have h4' : q < r.fr := by simpa using h4
        rcases List.mem_cons.1 hs with rfl | hs
        · exact h4'
        · have := h7 _ rfl s hs; omega
    · rintro ⟨⟨h1, h2, h3⟩, h4, h5⟩
      have h6 := h4 r (by simp)
      refine ⟨⟨⟨⟨h1, h6.1⟩, h6.2⟩, ?_⟩, h3, fun s hs => h4 s (by simp [hs]), fun q hq s hs => ?_⟩
      · cases p with
        | none => rfl
        | some q => simpa using h5 q rfl r (by simp)
      · injection hq with hq
        subst hq
        exact h2 s hs
def tOr (x y : Bool) : Bool := x || y
def tBut (x y : Bool) : Bool := x && !y
theorem cov_nil (n : Int) : cov [] n = false := rfl
theorem is_set {l S : List Rg} (h : isSet tOr l [] S) : isF none l = (l == S) := by
  rw [Bool.eq_iff_iff, isF_ok, beq_iff_eq]
  constructor
  · rintro ⟨h1, h2, _⟩
    refine canon_eq h1 h.1 fun n => ?_
    rw [h.2.2, cov_nil, ← cov_mem h2 h1]
    simp [tOr]
  · rintro rfl
    exact ⟨h.1, h.2.1, fun q hq => by cases hq⟩
end Go.Proofs.Ytcejgadbpahbmaa.Ra
end
section
namespace Go.Proofs.Ytcejgadbpahbmaa
open Go.RowKit Sz
set_option maxHeartbeats 8000000
set_option maxRecDepth 20000
namespace Rc
def gV (r : Ra.Rg) : List Value := [.int .i64 r.fr, .int .i64 r.to]
def eV (e : Ra.Ed) : List Value := [.int .i64 e.at_, .int .i64 e.up, .bool e.sec]
theorem gV_len (r : Ra.Rg) : (gV r).length = 2 := rfl
theorem eV_len (e : Ra.Ed) : (eV e).length = 3 := rfl
def vL {α : Type} (cs : α → List Value) (l : List α) : List SV := (rowV cs l).map SV.v
section
variable {α : Type} {cs : α → List Value} {z : Nat}
theorem vL_nil : vL cs ([] : List α) = [] := rfl
theorem vL_len (hz : ∀ x, (cs x).length = z) (l : List α) : (vL cs l).length = l.length * z := by unfold vL; rw [List.length_map, rowV_len hz]
theorem vL_app (l l' : List α) : vL cs l ++ vL cs l' = vL cs (l ++ l') := by simp [vL, rowV]
theorem vL_le {g : List Nat} {l : List α} : LeL g (vL cs l) (vL cs l) = True := by simp only [eq_iff_iff, iff_true]; exact LeL_v g _
theorem vL_up {d : Nat} {l : List α} : upL d (vL cs l) = vL cs l := upL_v d _
theorem vL_item (hz : ∀ x, (cs x).length = z) {l : List α} {i : Nat} {x : α} (h : l[i]? = some x) : ((vL cs l).drop (i * z)).take z = (cs x).map SV.v := by
  unfold vL
  rw [← List.map_drop, ← List.map_take, rowV_at hz h]
theorem vL_at (hz : ∀ x, (cs x).length = z) {l : List α} {i j : Nat} {x : α} (h : l[i]? = some x) (hj : j < z) : (vL cs l)[i * z + j]? = ((cs x)[j]?).map SV.v := by
  have h1 := vL_item hz h
  have e : (vL cs l)[i * z + j]? = (((vL cs l).drop (i * z)).take z)[j]? := by
    rw [List.getElem?_take_of_lt hj, List.getElem?_drop]
  rw [e, h1, List.getElem?_map]
theorem vL_ones (h1 : ∀ x, ∀ v ∈ cs x, v.oneCell' = true) {l : List α} : (vL cs l).all SV.one = true := by
  rw [List.all_eq_true]
  intro s hs
  unfold vL at hs
  obtain ⟨v, hv, rfl⟩ := List.mem_map.1 hs
  obtain ⟨x, _, hx⟩ := List.mem_flatMap.1 hv
  exact h1 x v hx
theorem oO_vL (hz : ∀ x, (cs x).length = z) (h0 : 0 < z) {l : List α} : oO (vL cs l) = ⟨!l.isEmpty, vL cs l⟩ := by
  cases l with
  | nil => rfl
  | cons x l =>
    have : vL cs (x :: l) ≠ [] := fun e => by
      have := congrArg List.length e
      rw [vL_len hz, List.length_cons, Nat.succ_mul, List.length_nil] at this
      omega
    unfold oO
    simp [this]
end
theorem e_ones {l : List Ra.Ed} : (vL eV l).all SV.one = true := vL_ones fun x v hv => by simp [eV] at hv; rcases hv with rfl | rfl | rfl <;> rfl
theorem g_len {l : List Ra.Rg} : (vL gV l).length = l.length * 2 := vL_len gV_len l
theorem e_len {l : List Ra.Ed} : (vL eV l).length = l.length * 3 := vL_len eV_len l
def decG : List SV → Option (List Ra.Rg)
  | [] => some []
  | .v (.int .i64 a) :: .v (.int .i64 b) :: l => (decG l).map (⟨a, b⟩ :: ·)
  | _ => none
theorem decG_gL : ∀ l : List Ra.Rg, decG (vL gV l) = some l
  | [] => rfl
  | r :: l => by
    have e : vL gV (r :: l) = .v (.int .i64 r.fr) :: .v (.int .i64 r.to) :: vL gV l := rfl
    rw [e]
    simp only [decG, decG_gL l, Option.map_some]
theorem decG_inv : ∀ {l : List SV} {rs : List Ra.Rg}, decG l = some rs → l = vL gV rs
  | [], rs, h => by simp only [decG] at h; injection h with h; subst h; rfl
  | [a], rs, h => by simp [decG] at h
  | a :: b :: l, rs, h => by
    unfold decG at h
    split at h
    · rename_i heq; cases heq
    · rename_i heq
      cases heq
      obtain ⟨ys, h1, rfl⟩ := Option.map_eq_some_iff.1 h
      rw [decG_inv h1]; rfl
    · cases h
def rdG [Inp] (m : Mem) (s : SV) : Option (List Ra.Rg) := (slOf m 2 s).bind fun p => decG p.2
theorem rdG_knows {I J : Inp} {m : Mem} {s : SV} {u : Value} {xs : List Ra.Rg} (h : @rdG I m s = some xs) (hk : Knows I J m s u) :
    ∃ p c, u = .slice p xs.length c ∧ @inpL J p (xs.length * 2) = some (rowV gV xs) := by
  unfold rdG at h
  obtain ⟨⟨n, ys⟩, h1, h2⟩ := Option.bind_eq_some_iff.1 h
  have h3 := decG_inv h2
  simp only at h3
  subst h3
  have hl := @slOf_len I _ _ _ _ _ h1
  have hn : n = xs.length := by rw [g_len] at hl; omega
  subst hn
  obtain ⟨p, c, rfl, h5⟩ := hk.2.2 2 _ _ h1
  exact ⟨p, c, rfl, h5⟩
theorem rdG_v [Inp] {m : Mem} {p : Option Addr} {n c : Nat} {xs : List Ra.Rg} (h : inpL p (n * 2) = some (rowV gV xs)) : rdG m (.v (.slice p n c)) = some xs := by
  unfold rdG
  simp only [slOf, h, Option.map_some, Option.bind_some]
  exact decG_gL xs
theorem rdG_nil [Inp] {m : Mem} {c : Nat} : rdG m (.v (.slice none 0 c)) = some [] := by
  unfold rdG; rw [sl_0]; rfl
def rS (j z n : Nat) : SV := if n = 0 then .v (.slice none 0 0) else .row j 0 n z
def rM (cs : List SV) : Mem := if cs = [] then [] else [⟨true, cs⟩]
theorem rS_0 {j z : Nat} : rS j z 0 = .v (.slice none 0 0) := rfl
theorem rS_s {j z n : Nat} : rS j z (n + 1) = .row j 0 (n + 1) z := rfl
theorem rM_0 : rM [] = [] := rfl
theorem rM_s {c : SV} {cs : List SV} : rM (c :: cs) = [⟨true, c :: cs⟩] := rfl
theorem rS_ne {j z n : Nat} (h : n ≠ 0) : rS j z n = .row j 0 n z := if_neg h
theorem vL_ne {α : Type} {cs : α → List Value} {z : Nat} (hz : ∀ x, (cs x).length = z) (h0 : 0 < z) {l : List α} (h : l ≠ []) : vL cs l ≠ [] := fun e => by
  have := congrArg List.length e
  rw [vL_len hz, List.length_nil] at this
  have hn : l.length ≠ 0 := fun e => h (List.length_eq_zero_iff.1 e)
  rcases Nat.mul_eq_zero.1 this with h | h <;> omega
theorem rM_ne {C : List SV} (h : C ≠ []) : rM C = [⟨true, C⟩] := if_neg h
theorem rM_at {α : Type} {cs : α → List Value} {z : Nat} (hz : ∀ x, (cs x).length = z) (h0 : 0 < z) {l : List α} (h : l ≠ []) : (rM (vL cs l))[0]? = some ⟨true, vL cs l⟩ := by
  rw [rM_ne (vL_ne hz h0 h)]; rfl
section
variable {j z n : Nat} {K : SV → Prop}
theorem s_len : lenK (rS j z n) K = K (.v (.int .i64 n)) := by
  unfold rS
  split
  · rename_i h; subst h; rfl
  · rfl
theorem s_isl {q : IntKind} {p : Int} : islK z (rS j z n) (.v (.int q p)) K = ((0 ≤ p ∧ p < (n : Int)) ∧ mwK (.ptr j (0 + p.toNat * z)) K) := by
  unfold rS
  split
  · rename_i h; subst h
    rw [v_islp]
    simp only [Option.isSome_none, Bool.false_eq_true, and_false, false_and, eq_iff_iff, false_iff, not_and]
    intro h; omega
  · rfl
end
theorem inp00 [Inp] {p : Option Addr} : inpL p 0 = some [] := by simp [inpL]
theorem rdG_r [Inp] {m : Mem} {j : Nat} {xs : List Ra.Rg} (h : xs ≠ [] → ∃ o, m[j]? = some ⟨o, vL gV xs⟩) : rdG m (rS j 2 xs.length) = some xs := by
  unfold rS
  split
  · rename_i h0
    rw [List.length_eq_zero_iff.1 h0]
    exact rdG_nil
  · rename_i h0
    obtain ⟨o, h1⟩ := h (fun e => h0 (by rw [e]; rfl))
    unfold rdG
    rw [sl_row, h1, sl_k, Nat.zero_add, if_pos (by rw [g_len]; exact Nat.le_refl _), List.drop_zero, List.take_of_length_le (by rw [g_len]; exact Nat.le_refl _), Option.bind_some]
    exact decG_gL xs
theorem fin_row {α : Type} {cs : α → List Value} {z : Nat} (hz : ∀ x, (cs x).length = z) (h0 : 0 < z) {k : SV → Mem → Prop} {m : Mem} (L : List α) (m' : Mem) (s : SV) (j : Nat) (h1 : L = [] → s = .v (.slice none 0 0)) (h2 : L ≠ [] → s = .row j 0 L.length z ∧ m'[j]? = some ⟨true, vL cs L⟩) (h3 : k (rS m.length z L.length) (m ++ rM (vL cs L))) :
    ∃ (g2 : List Nat) (s2 : SV) (m2 : Mem), NdL g2 m2 ∧ FitM g2 m' g2 m2 ∧ (∀ o ∈ m2, o.own = true ∨ (o.own = false ∧ o.cells = [])) ∧ Le g2 s2 s ∧ k (s2.up m.length) (m ++ m2.map (SObj.up m.length)) := by
  by_cases hL : L = []
  · subst hL
    rw [h1 rfl]
    refine ⟨[], .v (.slice none 0 0), [], by simp [NdL], trivial, by simp, by simp only [Le], ?_⟩
    simpa [SV.up, rS, rM, vL_nil] using h3
  · obtain ⟨rfl, hm⟩ := h2 hL
    have hle : ∀ g, LeL g (vL cs L) (vL cs L) := fun g => by rw [vL_le]; trivial
    have hn : L.length ≠ 0 := fun e => hL (List.length_eq_zero_iff.1 e)
    have hne : vL cs L ≠ [] := fun e => by
      have := congrArg List.length e
      rw [vL_len hz, List.length_nil] at this
      exact hn (by rcases Nat.mul_eq_zero.1 this with h | h <;> omega)
    refine ⟨[j], .row 0 0 L.length z, [⟨true, vL cs L⟩], by simp [NdL, NdA], by simp [FitM, ObLe, hle, hm], by simp, by simp only [Le]; rfl, ?_⟩
    simpa [SV.up, SObj.up, vL_up, rS, rM, hn, hne] using h3
-- almshouse/ranges.clamp (1 parameters)
def x89 : XC := (.seq (.tree (.seq ⟨some 2, none, (.ofA (.mv (.cst (.v (.int .i64 0)))))⟩
 .done))
 (.seq (.tree (.seq ⟨some 3, none, (.ofA (.mv (.tmp 0)))⟩
 (.seq ⟨some 4, none, (.ofA (.mx true (.tmp 3) [(.cst (.v (.int .i64 (-1099511627776))))]))⟩
 (.seq ⟨some 5, none, (.ofA (.mx false (.tmp 4) [(.cst (.v (.int .i64 1099511627776)))]))⟩
 (.seq ⟨some 2, none, (.ofA (.mv (.tmp 5)))⟩
 .done)))))
 .ret))
def r89 : List XR := [.tmp 2]
theorem fn89 : FnX Try.prog 89 [92] 6 x89 r89 := ⟨_, Try.func89, by kernel_rfl, by kernel_rfl, by kernel_rfl, by kernel_rfl⟩
def c89 [Inp] : Trans := fun args m k => ∃ n : Int, args = [.v (.int .i64 n)] ∧ k (.v (.int .i64 (Ra.clamp n))) m
theorem a89 [Inp] {n : Int} {m : Mem} {k : SV → Mem → Prop} : c89 [.v (.int .i64 n)] m k = k (.v (.int .i64 (Ra.clamp n))) m := by
  unfold c89
  simp
theorem c89_ok [Inp] : Contract Try.prog 89 true c89 := by
  refine .plainArgs fn89 (g0 _) _ fun args m k h => ?_
  obtain ⟨n, rfl, hk⟩ := h
  refine ⟨by simp [plainL, SV.plain], by simp, ?_⟩
  simp (maxSteps := 2000000) -implicitDefEqProofs only [↓x89, ↓r89, s_alt, s_alt20, s_alt2t, s_alt2f, ↓s_loopi, ↓v_pq, ↓PRE, POST, CORE, Nat.reduceDiv, Nat.reduceMod, Int.reduceLT, Int.reduceLE, Int.reduceToNat, Int.reduceAdd, ↓reduceIte, Nat.reduceEqDiff, Nat.reduceAdd, Nat.reduceMul, Nat.reduceSub, Nat.reduceLeDiff, Nat.reduceLT, reduceCtorEq, if_true, eq_self, forall_const, implies_true]
  have e : (if 1099511627776 < (if -1099511627776 > n then (-1099511627776 : Int) else n) then (1099511627776 : Int) else if -1099511627776 > n then -1099511627776 else n) = Ra.clamp n := by unfold Ra.clamp Ra.Mx; split <;> split <;> omega
  rw [e]
  exact hk
-- almshouse/ranges.edges (2 parameters)
def x91 : XC := (.seq (.tree (.seq ⟨some 4, none, (.ofA (.mv (.cst (.v (.slice none 0 0)))))⟩
 .done))
 (.seq (.tree (.seq ⟨some 5, none, (.ofA (.mv (.cst (.v (.slice none 0 0)))))⟩
 .done))
 (.seq (.seq (.tree (.seq ⟨some 10, none, (.ofA (.mv (.tmp 0)))⟩
 (.seq ⟨some 11, none, (.ofA (.len (.tmp 10)))⟩
 (.seq ⟨some 12, none, (.ofA (.mv (.cst (.v (.int .i64 0)))))⟩
 .done))))
 (.block 0 (.loop (.seq (.tree (.seq ⟨some 13, none, (.ofA (.bin .lss (.tmp 12) (.tmp 11)))⟩
 .done))
 (.seq (.cond (.tmp 13)
 .skip
 (.exit 0))
 (.seq (.block 1 (.seq (.tree (.seq ⟨some 14, none, (.ofA (.isl 2 (.tmp 10) (.tmp 12)))⟩
 (.seq ⟨some 15, none, (.ofA (.load (some 2) (.tmp 14)))⟩
 (.seq ⟨some 7, none, (.alloc [(.v (.int .i64 0)), (.v (.int .i64 0))])⟩
 (.seq ⟨none, none, (.store 2 (.tmp 7) (.tmp 15))⟩
 .done)))))
 (.seq (.tree (.take ⟨some 16, none, (.ofA (.faddr 0 (.tmp 7)))⟩
 (.take ⟨some 17, none, (.ofA (.load none (.tmp 16)))⟩
 (.take ⟨some 19, none, (.ofA (.faddr 1 (.tmp 7)))⟩
 (.take ⟨some 20, none, (.ofA (.load none (.tmp 19)))⟩
 (.act true [(⟨some 18, none, (.call (.cst (.fn 89 [])) [(.tmp 17)])⟩,
 (.act true [(⟨some 21, none, (.call (.cst (.fn 89 [])) [(.tmp 20)])⟩,
 (.take ⟨some 8, none, (.ofA (.mv (.tmp 18)))⟩
 (.take ⟨some 9, none, (.ofA (.mv (.tmp 21)))⟩
 .done)))]))]))))))
 (.seq (.tree (.seq ⟨some 22, none, (.ofA (.mv (.tmp 8)))⟩
 (.seq ⟨some 23, none, (.ofA (.mv (.tmp 9)))⟩
 (.seq ⟨some 24, none, (.ofA (.bin .lss (.tmp 22) (.tmp 23)))⟩
 .done))))
 (.cond (.tmp 24)
 (.tree (.seq ⟨some 25, none, (.ofA (.mv (.tmp 5)))⟩
 (.seq ⟨some 26, none, (.ofA (.mv (.tmp 8)))⟩
 (.seq ⟨some 27, none, (.ofA (.mv (.tmp 1)))⟩
 (.seq ⟨some 28, none, (.build [(.v (.int .i64 0)), (.v (.int .i64 0)), (.v (.bool false))] [(0, 1, (.tmp 26)), (1, 1, (.cst (.v (.int .i64 1)))), (2, 1, (.tmp 27))])⟩
 (.seq ⟨some 29, none, (.ofA (.mv (.tmp 9)))⟩
 (.seq ⟨some 30, none, (.ofA (.mv (.tmp 1)))⟩
 (.seq ⟨some 31, none, (.build [(.v (.int .i64 0)), (.v (.int .i64 0)), (.v (.bool false))] [(0, 1, (.tmp 29)), (1, 1, (.cst (.v (.int .i64 (-1))))), (2, 1, (.tmp 30))])⟩
 (.seq ⟨some 32, none, (.buildSl 3 2 [(.v (.int .i64 0)), (.v (.int .i64 0)), (.v (.bool false)), (.v (.int .i64 0)), (.v (.int .i64 0)), (.v (.bool false))] [(0, 3, (.tmp 28)), (3, 3, (.tmp 31))])⟩
 (.seq ⟨some 33, none, (.app 3 24 (.tmp 25) (.tmp 32))⟩
 (.seq ⟨some 5, none, (.ofA (.mv (.tmp 33)))⟩
 .done)))))))))))
 .skip)))))
 (.tree (.seq ⟨some 34, none, (.ofA (.bin .add (.tmp 12) (.cst (.v (.int .i64 1)))))⟩
 (.seq ⟨some 12, none, (.ofA (.mv (.tmp 34)))⟩
 .done)))))))))
 (.seq (.tree (.seq ⟨some 35, none, (.ofA (.mv (.tmp 5)))⟩
 (.seq ⟨some 4, none, (.ofA (.mv (.tmp 35)))⟩
 .done)))
 .ret))))
def r91 : List XR := [.tmp 4]
theorem fn91 : FnX Try.prog 91 [92] 36 x91 r91 := ⟨_, Try.func91, by kernel_rfl, by kernel_rfl, by kernel_rfl, by kernel_rfl⟩
def c91 [Inp] : Trans := fun args m k => ∃ (s : SV) (l : List Ra.Rg) (b : Bool), args = [s, .v (.bool b)] ∧ rdG m s = some l ∧ l.length ≤ 100000 ∧ k (rS m.length 3 (Ra.edges l b).length) (m ++ rM (vL eV (Ra.edges l b)))
theorem g91 [Inp] : GOk Try.prog [⟨89, true, c89⟩] := GOk.cons c89_ok (g0 _)
theorem edges_snoc (l : List Ra.Rg) (r : Ra.Rg) (b : Bool) : Ra.edges (l ++ [r]) b = Ra.edges l b ++ Ra.edg b r := by simp [Ra.edges]
theorem edges_len (l : List Ra.Rg) (b : Bool) : (Ra.edges l b).length ≤ 2 * l.length := by
  induction l with
  | nil => simp [Ra.edges]
  | cons r l ih =>
    have : Ra.edges (r :: l) b = Ra.edg b r ++ Ra.edges l b := rfl
    rw [this, List.length_append, List.length_cons]
    have : (Ra.edg b r).length ≤ 2 := by unfold Ra.edg; split <;> simp
    omega
theorem c91_ok [I : Inp] : Contract Try.prog 91 true c91 := by
  refine .readF3 fn91 (G := fun J => [⟨89, true, @c89 J⟩]) (fun J => @g91 J) _ fun args m k h => ?_
  obtain ⟨s, l, b, rfl, hl, hmax, hk⟩ := h
  refine ⟨by simp, fun J hJ us hus => ?_⟩
  obtain ⟨u, t1, rfl, hu1, u2, t2, rfl, hu2, rfl⟩ := hus
  obtain rfl := hu2.1 _ rfl
  obtain ⟨p, cc, rfl, hin⟩ := rdG_knows hl hu1
  rw [List.map_cons, List.map_cons, List.map_nil, of_sl, of_bool]
  simp (maxSteps := 2000000) -implicitDefEqProofs only [↓x91, ↓r91, s_alt, s_alt20, s_alt2t, s_alt2f, ↓s_loopi, ↓v_pq, ↓PRE, POST, CORE, Nat.reduceDiv, Nat.reduceMod, Int.reduceLT, Int.reduceLE, Int.reduceToNat, Int.reduceAdd, ↓reduceIte, Nat.reduceEqDiff, Nat.reduceAdd, Nat.reduceMul, Nat.reduceSub, Nat.reduceLeDiff, Nat.reduceLT, reduceCtorEq, if_true, eq_self, forall_const, implies_true]
  refine TXi_of (TX_count (@g91 J) l.length (fun x => [(1, .v (.bool b)), (5, rS 0 3 (Ra.edges (l.take x) b).length), (10, .v (.slice p l.length cc)), (11, .v (.int .i64 (l.length : Int))), (12, .v (.int .i64 (x : Int)))]) (fun x => rM (vL eV (Ra.edges (l.take x) b))) (fun _ => True) trivial ?_ ?_ ?_)
  · have e0 : Ra.edges (l.take 0) b = [] := rfl
    rw [e0, List.length_nil, rS_0, vL_nil, rM_0]
    exact (by refine ⟨[], by simp [NdL, NdA, oO_cells, oO_own, iL_nil], ?_, ?_, keep0 hJ⟩ <;> simp only [FitM, FitE, ObLe, LeL, Le, List.cons_append, List.nil_append] <;> (try (simp (maxSteps := 2000000) -implicitDefEqProofs only [s_alt, s_alt20, s_alt2t, s_alt2f, ↓s_loopi, ↓v_pq, ↓PRE, POST, CORE, Nat.reduceDiv, Nat.reduceMod, Int.reduceLT, Int.reduceLE, Int.reduceToNat, Int.reduceAdd, ↓reduceIte, Nat.reduceEqDiff, Nat.reduceAdd, Nat.reduceMul, Nat.reduceSub, Nat.reduceLeDiff, Nat.reduceLT, reduceCtorEq, if_true, eq_self, forall_const, implies_true])) <;> (try simp only [Sz.Le, Sz.LeL, List.getElem?_cons_zero, List.getElem?_cons_succ]) <;> (try simp))
  · intro x hx _
    obtain ⟨r, hr⟩ : ∃ r, l[x]? = some r := ⟨_, List.getElem?_eq_getElem hx⟩
    have hp : p.isSome = true := inpL_isSome hin (by omega)
    have f : inpL (plusA p (x * 2)) 2 = some [.int .i64 r.fr, .int .i64 r.to] := inp_item gV_len hin rfl hr
    have i0 : (0 : Int) ≤ (x : Int) := by omega
    have i1 : (x : Int) < (l.length : Int) := by omega
    have w1 : IntKind.i64.wrap ((x : Int) + 1) = (x : Int) + 1 := Sz.w_64 (by omega) (by omega)
    rw [take_snoc hr, edges_snoc]
    have hlen : (Ra.edges (l.take x) b).length ≤ 200000 := by
      have := edges_len (l.take x) b
      rw [List.length_take] at this
      omega
    generalize Ra.edges (l.take x) b = L at hlen ⊢
    by_cases hc : Ra.clamp r.fr < Ra.clamp r.to
    · have hE : Ra.edg b r = [⟨Ra.clamp r.fr, 1, b⟩, ⟨Ra.clamp r.to, -1, b⟩] := by simp [Ra.edg, hc]
      rw [hE]
      have hV : vL eV (L ++ [(⟨Ra.clamp r.fr, 1, b⟩ : Ra.Ed), ⟨Ra.clamp r.to, -1, b⟩]) = vL eV L ++ [.v (.int .i64 (Ra.clamp r.fr)), .v (.int .i64 1), .v (.bool b), .v (.int .i64 (Ra.clamp r.to)), .v (.int .i64 (-1)), .v (.bool b)] := by rw [← vL_app]; rfl
      have hn : (L ++ [(⟨Ra.clamp r.fr, 1, b⟩ : Ra.Ed), ⟨Ra.clamp r.to, -1, b⟩]).length = L.length + 1 + 1 := by simp
      rw [hV, hn, rS_s]
      cases L with
      | nil =>
        rw [vL_nil, List.nil_append, rM_s, List.length_nil, rS_0, rM_0]
        simp (maxSteps := 2000000) -implicitDefEqProofs only [i0, i1, w1, hp, f, ↓a89, hc, inp00, Option.map_some, List.map_nil, s_alt, s_alt20, s_alt2t, s_alt2f, ↓s_loopi, ↓v_pq, ↓PRE, POST, CORE, Nat.reduceDiv, Nat.reduceMod, Int.reduceLT, Int.reduceLE, Int.reduceToNat, Int.reduceAdd, ↓reduceIte, Nat.reduceEqDiff, Nat.reduceAdd, Nat.reduceMul, Nat.reduceSub, Nat.reduceLeDiff, Nat.reduceLT, reduceCtorEq, if_true, eq_self, forall_const, implies_true]
        exact ⟨by unfold maxLen; omega, (by refine ⟨[2], by simp [NdL, NdA, oO_cells, oO_own, iL_nil], ?_, ?_, keep0 hJ⟩ <;> simp only [FitM, FitE, ObLe, LeL, Le, List.cons_append, List.nil_append] <;> (try (simp (maxSteps := 2000000) -implicitDefEqProofs only [List.length_nil, s_alt, s_alt20, s_alt2t, s_alt2f, ↓s_loopi, ↓v_pq, ↓PRE, POST, CORE, Nat.reduceDiv, Nat.reduceMod, Int.reduceLT, Int.reduceLE, Int.reduceToNat, Int.reduceAdd, ↓reduceIte, Nat.reduceEqDiff, Nat.reduceAdd, Nat.reduceMul, Nat.reduceSub, Nat.reduceLeDiff, Nat.reduceLT, reduceCtorEq, if_true, eq_self, forall_const, implies_true])) <;> (try simp only [Sz.Le, Sz.LeL, List.getElem?_cons_zero, List.getElem?_cons_succ]) <;> (try simp))⟩
      | cons e L =>
        have hel : (vL eV (e :: L)).length = (L.length + 1) * 3 := e_len
        have heo := @e_ones (e :: L)
        have hle : ∀ g, LeL g (vL eV (e :: L) ++ [.v (.int .i64 (Ra.clamp r.fr)), .v (.int .i64 1), .v (.bool b), .v (.int .i64 (Ra.clamp r.to)), .v (.int .i64 (-1)), .v (.bool b)]) (vL eV (e :: L) ++ [.v (.int .i64 (Ra.clamp r.fr)), .v (.int .i64 1), .v (.bool b), .v (.int .i64 (Ra.clamp r.to)), .v (.int .i64 (-1)), .v (.bool b)]) = True := fun g => by rw [← hV]; exact vL_le
        have hne : vL eV (e :: L) ≠ [] := by simp [vL, rowV, eV]
        rw [List.length_cons] at hlen
        rw [List.length_cons, rS_s]
        clear hV hn
        generalize vL eV (e :: L) = C at hel heo hle hne ⊢
        have h1 : rM C = [⟨true, C⟩] := if_neg hne
        have h2 : ∀ X, rM (C ++ X) = [⟨true, C ++ X⟩] := fun X => if_neg (by simp [hne])
        have h3 : C.take ((L.length + 1) * 3) = C := List.take_of_length_le (by omega)
        have h4 : L.length + 1 + 2 ≤ maxLen := by unfold maxLen; omega
        have h5 : (L.length + 1 + 2) * 24 ≤ 140737488355328 := by omega
        rw [h1, h2]
        simp (maxSteps := 2000000) -implicitDefEqProofs only [i0, i1, w1, hp, f, ↓a89, hc, inp00, Option.map_some, List.map_nil, hel, h3, h4, h5, Nat.le_refl, s_alt, s_alt20, s_alt2t, s_alt2f, ↓s_loopi, ↓v_pq, ↓PRE, POST, CORE, Nat.reduceDiv, Nat.reduceMod, Int.reduceLT, Int.reduceLE, Int.reduceToNat, Int.reduceAdd, ↓reduceIte, Nat.reduceEqDiff, Nat.reduceAdd, Nat.reduceMul, Nat.reduceSub, Nat.reduceLeDiff, Nat.reduceLT, reduceCtorEq, if_true, eq_self, forall_const, implies_true]
        exact (by refine ⟨[3], by simp [NdL, NdA, oO_cells, oO_own, iL_nil], ?_, ?_, keep0 hJ⟩ <;> simp only [FitM, FitE, ObLe, LeL, Le, List.cons_append, List.nil_append] <;> (try (simp (maxSteps := 2000000) -implicitDefEqProofs only [hle, s_alt, s_alt20, s_alt2t, s_alt2f, ↓s_loopi, ↓v_pq, ↓PRE, POST, CORE, Nat.reduceDiv, Nat.reduceMod, Int.reduceLT, Int.reduceLE, Int.reduceToNat, Int.reduceAdd, ↓reduceIte, Nat.reduceEqDiff, Nat.reduceAdd, Nat.reduceMul, Nat.reduceSub, Nat.reduceLeDiff, Nat.reduceLT, reduceCtorEq, if_true, eq_self, forall_const, implies_true])) <;> (try simp only [Sz.Le, Sz.LeL, List.getElem?_cons_zero, List.getElem?_cons_succ]) <;> (try simp))
    · have hE : Ra.edg b r = [] := by simp [Ra.edg, hc]
      rw [hE, List.append_nil]
      cases L with
      | nil =>
        rw [vL_nil, List.length_nil, rS_0, rM_0]
        simp (maxSteps := 2000000) -implicitDefEqProofs only [i0, i1, w1, hp, f, ↓a89, hc, s_alt, s_alt20, s_alt2t, s_alt2f, ↓s_loopi, ↓v_pq, ↓PRE, POST, CORE, Nat.reduceDiv, Nat.reduceMod, Int.reduceLT, Int.reduceLE, Int.reduceToNat, Int.reduceAdd, ↓reduceIte, Nat.reduceEqDiff, Nat.reduceAdd, Nat.reduceMul, Nat.reduceSub, Nat.reduceLeDiff, Nat.reduceLT, reduceCtorEq, if_true, eq_self, forall_const, implies_true]
        exact (by refine ⟨[], by simp [NdL, NdA, oO_cells, oO_own, iL_nil], ?_, ?_, keep0 hJ⟩ <;> simp only [FitM, FitE, ObLe, LeL, Le, List.cons_append, List.nil_append] <;> (try (simp (maxSteps := 2000000) -implicitDefEqProofs only [s_alt, s_alt20, s_alt2t, s_alt2f, ↓s_loopi, ↓v_pq, ↓PRE, POST, CORE, Nat.reduceDiv, Nat.reduceMod, Int.reduceLT, Int.reduceLE, Int.reduceToNat, Int.reduceAdd, ↓reduceIte, Nat.reduceEqDiff, Nat.reduceAdd, Nat.reduceMul, Nat.reduceSub, Nat.reduceLeDiff, Nat.reduceLT, reduceCtorEq, if_true, eq_self, forall_const, implies_true])) <;> (try simp only [Sz.Le, Sz.LeL, List.getElem?_cons_zero, List.getElem?_cons_succ]) <;> (try simp))
      | cons e L =>
        have hle : ∀ g, LeL g (vL eV (e :: L)) (vL eV (e :: L)) = True := fun g => vL_le
        have hne : vL eV (e :: L) ≠ [] := by simp [vL, rowV, eV]
        rw [List.length_cons, rS_s]
        generalize vL eV (e :: L) = C at hle hne ⊢
        have h1 : rM C = [⟨true, C⟩] := if_neg hne
        rw [h1]
        simp (maxSteps := 2000000) -implicitDefEqProofs only [i0, i1, w1, hp, f, ↓a89, hc, s_alt, s_alt20, s_alt2t, s_alt2f, ↓s_loopi, ↓v_pq, ↓PRE, POST, CORE, Nat.reduceDiv, Nat.reduceMod, Int.reduceLT, Int.reduceLE, Int.reduceToNat, Int.reduceAdd, ↓reduceIte, Nat.reduceEqDiff, Nat.reduceAdd, Nat.reduceMul, Nat.reduceSub, Nat.reduceLeDiff, Nat.reduceLT, reduceCtorEq, if_true, eq_self, forall_const, implies_true]
        exact (by refine ⟨[0], by simp [NdL, NdA, oO_cells, oO_own, iL_nil], ?_, ?_, keep0 hJ⟩ <;> simp only [FitM, FitE, ObLe, LeL, Le, List.cons_append, List.nil_append] <;> (try (simp (maxSteps := 2000000) -implicitDefEqProofs only [hle, s_alt, s_alt20, s_alt2t, s_alt2f, ↓s_loopi, ↓v_pq, ↓PRE, POST, CORE, Nat.reduceDiv, Nat.reduceMod, Int.reduceLT, Int.reduceLE, Int.reduceToNat, Int.reduceAdd, ↓reduceIte, Nat.reduceEqDiff, Nat.reduceAdd, Nat.reduceMul, Nat.reduceSub, Nat.reduceLeDiff, Nat.reduceLT, reduceCtorEq, if_true, eq_self, forall_const, implies_true])) <;> (try simp only [Sz.Le, Sz.LeL, List.getElem?_cons_zero, List.getElem?_cons_succ]) <;> (try simp))
  · intro _
    have j0 : ¬ (l.length : Int) < (l.length : Int) := by omega
    rw [List.take_length]
    simp (maxSteps := 2000000) -implicitDefEqProofs only [j0, s_alt, s_alt20, s_alt2t, s_alt2f, ↓s_loopi, ↓v_pq, ↓PRE, POST, CORE, Nat.reduceDiv, Nat.reduceMod, Int.reduceLT, Int.reduceLE, Int.reduceToNat, Int.reduceAdd, ↓reduceIte, Nat.reduceEqDiff, Nat.reduceAdd, Nat.reduceMul, Nat.reduceSub, Nat.reduceLeDiff, Nat.reduceLT, reduceCtorEq, if_true, eq_self, forall_const, implies_true]
    exact fin_row eV_len (by omega) _ _ _ 0 (fun h => by rw [h]; rfl) (fun h => ⟨rS_ne (fun e => h (List.length_eq_zero_iff.1 e)), rM_at eV_len (by omega) h⟩) hk
end Rc
end Go.Proofs.Ytcejgadbpahbmaa
end
section
namespace Go.Proofs.Ytcejgadbpahbmaa
open Go.RowKit Sz
set_option maxHeartbeats 8000000
set_option maxRecDepth 20000
namespace Rc
-- almshouse/almshouselaw51.rows (1 parameters)
def x22 : XC := (.seq (.tree (.seq ⟨some 2, none, (.ofA (.mv (.cst (.v (.slice none 0 0)))))⟩
 .done))
 (.seq (.tree (.seq ⟨some 3, none, (.ofA (.mv (.cst (.v (.slice none 0 0)))))⟩
 .done))
 (.seq (.seq (.tree (.seq ⟨some 6, none, (.ofA (.mv (.tmp 0)))⟩
 (.seq ⟨some 7, none, (.ofA (.len (.tmp 6)))⟩
 (.seq ⟨some 8, none, (.ofA (.mv (.cst (.v (.int .i64 0)))))⟩
 .done))))
 (.block 0 (.loop (.seq (.tree (.seq ⟨some 9, none, (.ofA (.bin .lss (.tmp 8) (.tmp 7)))⟩
 .done))
 (.seq (.cond (.tmp 9)
 .skip
 (.exit 0))
 (.seq (.block 1 (.seq (.tree (.seq ⟨some 10, none, (.ofA (.isl 2 (.tmp 6) (.tmp 8)))⟩
 (.seq ⟨some 11, none, (.ofA (.load (some 2) (.tmp 10)))⟩
 (.seq ⟨some 5, none, (.alloc [(.v (.int .i64 0)), (.v (.int .i64 0))])⟩
 (.seq ⟨none, none, (.store 2 (.tmp 5) (.tmp 11))⟩
 .done)))))
 (.tree (.seq ⟨some 12, none, (.ofA (.mv (.tmp 3)))⟩
 (.seq ⟨some 13, none, (.ofA (.faddr 0 (.tmp 5)))⟩
 (.seq ⟨some 14, none, (.ofA (.load none (.tmp 13)))⟩
 (.seq ⟨some 15, none, (.ofA (.faddr 1 (.tmp 5)))⟩
 (.seq ⟨some 16, none, (.ofA (.load none (.tmp 15)))⟩
 (.seq ⟨some 17, none, (.build [(.v (.int .i64 0)), (.v (.int .i64 0))] [(0, 1, (.tmp 14)), (1, 1, (.tmp 16))])⟩
 (.seq ⟨some 18, none, (.buildSl 2 1 [(.v (.int .i64 0)), (.v (.int .i64 0))] [(0, 2, (.tmp 17))])⟩
 (.seq ⟨some 19, none, (.app 2 16 (.tmp 12) (.tmp 18))⟩
 (.seq ⟨some 3, none, (.ofA (.mv (.tmp 19)))⟩
 .done))))))))))))
 (.tree (.seq ⟨some 20, none, (.ofA (.bin .add (.tmp 8) (.cst (.v (.int .i64 1)))))⟩
 (.seq ⟨some 8, none, (.ofA (.mv (.tmp 20)))⟩
 .done)))))))))
 (.seq (.tree (.seq ⟨some 21, none, (.ofA (.mv (.tmp 3)))⟩
 (.seq ⟨some 2, none, (.ofA (.mv (.tmp 21)))⟩
 .done)))
 .ret))))
def r22 : List XR := [.tmp 2]
theorem fn22 : FnX Try.prog 22 [92] 22 x22 r22 := ⟨_, Try.func22, by kernel_rfl, by kernel_rfl, by kernel_rfl, by kernel_rfl⟩
-- almshouse/almshouselaw51.same (2 parameters)
def x23 : XC := (.seq (.tree (.seq ⟨some 4, none, (.ofA (.mv (.cst (.v (.bool false)))))⟩
 .done))
 (.seq (.tree (.seq ⟨some 7, none, (.ofA (.mv (.tmp 0)))⟩
 (.seq ⟨some 8, none, (.call (.cst (.fn 22 [])) [(.tmp 7)])⟩
 (.seq ⟨some 5, none, (.ofA (.mv (.tmp 8)))⟩
 .done))))
 (.seq (.seq (.tree (.seq ⟨some 9, none, (.ofA (.mv (.tmp 5)))⟩
 (.seq ⟨some 10, none, (.ofA (.len (.tmp 9)))⟩
 (.seq ⟨some 11, none, (.ofA (.mv (.tmp 1)))⟩
 (.seq ⟨some 12, none, (.ofA (.len (.tmp 11)))⟩
 (.seq ⟨some 13, none, (.ofA (.bin .neq (.tmp 10) (.tmp 12)))⟩
 .done))))))
 (.cond (.tmp 13)
 (.seq (.tree (.seq ⟨some 4, none, (.ofA (.mv (.cst (.v (.bool false)))))⟩
 .done))
 .ret)
 .skip))
 (.seq (.seq (.tree (.seq ⟨some 14, none, (.ofA (.mv (.tmp 5)))⟩
 (.seq ⟨some 15, none, (.ofA (.len (.tmp 14)))⟩
 (.seq ⟨some 16, none, (.ofA (.mv (.cst (.v (.int .i64 0)))))⟩
 .done))))
 (.block 0 (.loop (.seq (.tree (.seq ⟨some 17, none, (.ofA (.bin .lss (.tmp 16) (.tmp 15)))⟩
 .done))
 (.seq (.cond (.tmp 17)
 .skip
 (.exit 0))
 (.seq (.block 1 (.seq (.tree (.seq ⟨some 18, none, (.ofA (.mv (.tmp 16)))⟩
 (.seq ⟨some 6, none, (.ofA (.mv (.tmp 18)))⟩
 .done)))
 (.seq (.tree (.take ⟨some 19, none, (.ofA (.mv (.tmp 5)))⟩
 (.take ⟨some 20, none, (.ofA (.mv (.tmp 6)))⟩
 (.take ⟨some 21, none, (.ofA (.isl 2 (.tmp 19) (.tmp 20)))⟩
 (.take ⟨some 22, none, (.ofA (.load (some 2) (.tmp 21)))⟩
 (.take ⟨some 23, none, (.ofA (.mv (.tmp 1)))⟩
 (.take ⟨some 24, none, (.ofA (.mv (.tmp 6)))⟩
 (.take ⟨some 25, none, (.ofA (.isl 2 (.tmp 23) (.tmp 24)))⟩
 (.take ⟨some 26, none, (.ofA (.load (some 2) (.tmp 25)))⟩
 (.take ⟨some 27, none, (.ofA (.eqs true [.int, .int] (.tmp 22) (.tmp 26)))⟩
 .done))))))))))
 (.cond (.tmp 27)
 (.seq (.tree (.seq ⟨some 4, none, (.ofA (.mv (.cst (.v (.bool false)))))⟩
 .done))
 .ret)
 .skip))))
 (.tree (.seq ⟨some 28, none, (.ofA (.bin .add (.tmp 16) (.cst (.v (.int .i64 1)))))⟩
 (.seq ⟨some 16, none, (.ofA (.mv (.tmp 28)))⟩
 .done)))))))))
 (.seq (.tree (.seq ⟨some 4, none, (.ofA (.mv (.cst (.v (.bool true)))))⟩
 .done))
 .ret)))))
def r23 : List XR := [.tmp 4]
theorem fn23 : FnX Try.prog 23 [92] 29 x23 r23 := ⟨_, Try.func23, by kernel_rfl, by kernel_rfl, by kernel_rfl, by kernel_rfl⟩
-- almshouse/ranges.Is (1 parameters)
def x25 : XC := (.seq (.tree (.seq ⟨some 2, none, (.ofA (.mv (.cst (.v (.bool false)))))⟩
 .done))
 (.seq (.seq (.tree (.seq ⟨some 5, none, (.ofA (.mv (.tmp 0)))⟩
 (.seq ⟨some 6, none, (.ofA (.len (.tmp 5)))⟩
 (.seq ⟨some 7, none, (.ofA (.mv (.cst (.v (.int .i64 0)))))⟩
 .done))))
 (.block 0 (.loop (.seq (.tree (.seq ⟨some 8, none, (.ofA (.bin .lss (.tmp 7) (.tmp 6)))⟩
 .done))
 (.seq (.cond (.tmp 8)
 .skip
 (.exit 0))
 (.seq (.block 1 (.seq (.tree (.seq ⟨some 9, none, (.ofA (.mv (.tmp 7)))⟩
 (.seq ⟨some 10, none, (.ofA (.isl 2 (.tmp 5) (.tmp 7)))⟩
 (.seq ⟨some 11, none, (.ofA (.load (some 2) (.tmp 10)))⟩
 (.seq ⟨some 4, none, (.alloc [(.v (.int .i64 0)), (.v (.int .i64 0))])⟩
 (.seq ⟨some 3, none, (.ofA (.mv (.tmp 9)))⟩
 (.seq ⟨none, none, (.store 2 (.tmp 4) (.tmp 11))⟩
 .done)))))))
 (.seq (.tree (.take ⟨some 12, none, (.ofA (.faddr 0 (.tmp 4)))⟩
 (.take ⟨some 13, none, (.ofA (.load none (.tmp 12)))⟩
 (.take ⟨some 14, none, (.ofA (.faddr 1 (.tmp 4)))⟩
 (.take ⟨some 15, none, (.ofA (.load none (.tmp 14)))⟩
 (.take ⟨some 16, none, (.ofA (.bin .geq (.tmp 13) (.tmp 15)))⟩
 (.take ⟨some 17, none, (.ofA (.mv (.tmp 16)))⟩
 (.take ⟨some 18, some (17, false), (.ofA (.faddr 0 (.tmp 4)))⟩
 (.take ⟨some 19, some (17, false), (.ofA (.load none (.tmp 18)))⟩
 (.take ⟨some 20, some (17, false), (.ofA (.bin .lss (.tmp 19) (.cst (.v (.int .i64 (-1099511627776))))))⟩
 (.take ⟨some 21, none, (.ofA (.pick (.tmp 17) (.cst (.v (.bool true))) (.tmp 20)))⟩
 (.take ⟨some 22, none, (.ofA (.mv (.tmp 21)))⟩
 (.take ⟨some 23, some (22, false), (.ofA (.faddr 1 (.tmp 4)))⟩
 (.take ⟨some 24, some (22, false), (.ofA (.load none (.tmp 23)))⟩
 (.take ⟨some 25, some (22, false), (.ofA (.bin .gtr (.tmp 24) (.cst (.v (.int .i64 1099511627776)))))⟩
 (.take ⟨some 26, none, (.ofA (.pick (.tmp 22) (.cst (.v (.bool true))) (.tmp 25)))⟩
 (.take ⟨some 27, none, (.ofA (.mv (.tmp 26)))⟩
 (.take ⟨some 28, some (27, false), (.ofA (.mv (.tmp 3)))⟩
 (.take ⟨some 29, some (27, false), (.ofA (.bin .gtr (.tmp 28) (.cst (.v (.int .i64 0)))))⟩
 (.take ⟨some 30, some (27, false), (.ofA (.mv (.tmp 29)))⟩
 (.take ⟨some 31, some (30, true), (.ofA (.mv (.tmp 0)))⟩
 (.take ⟨some 32, some (30, true), (.ofA (.mv (.tmp 3)))⟩
 (.take ⟨some 33, some (30, true), (.ofA (.bin .sub (.tmp 32) (.cst (.v (.int .i64 1)))))⟩
 (.take ⟨some 34, some (30, true), (.ofA (.isl 2 (.tmp 31) (.tmp 33)))⟩
 (.take ⟨some 35, some (30, true), (.ofA (.faddr 1 (.tmp 34)))⟩
 (.take ⟨some 36, some (30, true), (.ofA (.load none (.tmp 35)))⟩
 (.take ⟨some 37, some (30, true), (.ofA (.faddr 0 (.tmp 4)))⟩
 (.take ⟨some 38, some (30, true), (.ofA (.load none (.tmp 37)))⟩
 (.take ⟨some 39, some (30, true), (.ofA (.bin .geq (.tmp 36) (.tmp 38)))⟩
 (.take ⟨some 40, some (27, false), (.ofA (.pick (.tmp 30) (.tmp 39) (.cst (.v (.bool false)))))⟩
 (.take ⟨some 41, none, (.ofA (.pick (.tmp 27) (.cst (.v (.bool true))) (.tmp 40)))⟩
 .done)))))))))))))))))))))))))))))))
 (.cond (.tmp 41)
 (.seq (.tree (.seq ⟨some 2, none, (.ofA (.mv (.cst (.v (.bool false)))))⟩
 .done))
 .ret)
 .skip))))
 (.tree (.seq ⟨some 42, none, (.ofA (.bin .add (.tmp 7) (.cst (.v (.int .i64 1)))))⟩
 (.seq ⟨some 7, none, (.ofA (.mv (.tmp 42)))⟩
 .done)))))))))
 (.seq (.tree (.seq ⟨some 2, none, (.ofA (.mv (.cst (.v (.bool true)))))⟩
 .done))
 .ret)))
def r25 : List XR := [.tmp 2]
theorem fn25 : FnX Try.prog 25 [92] 43 x25 r25 := ⟨_, Try.func25, by kernel_rfl, by kernel_rfl, by kernel_rfl, by kernel_rfl⟩
def c22 [Inp] : Trans := fun args m k => ∃ (s : SV) (l : List Ra.Rg), args = [s] ∧ rdG m s = some l ∧ l.length ≤ 100000 ∧ k (rS m.length 2 l.length) (m ++ rM (vL gV l))
theorem c22_ok [I : Inp] : Contract Try.prog 22 true c22 := by
  refine .readF3 fn22 (G := fun J => []) (fun J => @g0 J _) _ fun args m k h => ?_
  obtain ⟨s, l, rfl, hl, hmax, hk⟩ := h
  refine ⟨by simp, fun J hJ us hus => ?_⟩
  obtain ⟨u, t1, rfl, hu1, rfl⟩ := hus
  obtain ⟨p, cc, rfl, hin⟩ := rdG_knows hl hu1
  rw [List.map_cons, List.map_nil, of_sl]
  simp (maxSteps := 2000000) -implicitDefEqProofs only [↓x22, ↓r22, s_alt, s_alt20, s_alt2t, s_alt2f, ↓s_loopi, ↓v_pq, ↓PRE, POST, CORE, Nat.reduceDiv, Nat.reduceMod, Int.reduceLT, Int.reduceLE, Int.reduceToNat, Int.reduceAdd, ↓reduceIte, Nat.reduceEqDiff, Nat.reduceAdd, Nat.reduceMul, Nat.reduceSub, Nat.reduceLeDiff, Nat.reduceLT, reduceCtorEq, if_true, eq_self, forall_const, implies_true]
  refine TXi_of (TX_count (@g0 J _) l.length (fun x => [(3, rS 0 2 x), (6, .v (.slice p l.length cc)), (7, .v (.int .i64 (l.length : Int))), (8, .v (.int .i64 (x : Int)))]) (fun x => rM (vL gV (l.take x))) (fun _ => True) trivial ?_ ?_ ?_)
  · rw [List.take_zero, rS_0, vL_nil, rM_0]
    exact (by refine ⟨[], by simp [NdL, NdA, oO_cells, oO_own, iL_nil], ?_, ?_, keep0 hJ⟩ <;> simp only [FitM, FitE, ObLe, LeL, Le, List.cons_append, List.nil_append] <;> (try (simp (maxSteps := 2000000) -implicitDefEqProofs only [s_alt, s_alt20, s_alt2t, s_alt2f, ↓s_loopi, ↓v_pq, ↓PRE, POST, CORE, Nat.reduceDiv, Nat.reduceMod, Int.reduceLT, Int.reduceLE, Int.reduceToNat, Int.reduceAdd, ↓reduceIte, Nat.reduceEqDiff, Nat.reduceAdd, Nat.reduceMul, Nat.reduceSub, Nat.reduceLeDiff, Nat.reduceLT, reduceCtorEq, if_true, eq_self, forall_const, implies_true])) <;> (try simp only [Sz.Le, Sz.LeL, List.getElem?_cons_zero, List.getElem?_cons_succ]) <;> (try simp))
  · intro x hx _
    obtain ⟨r, hr⟩ : ∃ r, l[x]? = some r := ⟨_, List.getElem?_eq_getElem hx⟩
    have hp : p.isSome = true := inpL_isSome hin (by omega)
    have f : inpL (plusA p (x * 2)) 2 = some [.int .i64 r.fr, .int .i64 r.to] := inp_item gV_len hin rfl hr
    have i0 : (0 : Int) ≤ (x : Int) := by omega
    have i1 : (x : Int) < (l.length : Int) := by omega
    have w1 : IntKind.i64.wrap ((x : Int) + 1) = (x : Int) + 1 := Sz.w_64 (by omega) (by omega)
    rw [take_snoc hr, rS_s]
    have hV : vL gV (l.take x ++ [r]) = vL gV (l.take x) ++ [.v (.int .i64 r.fr), .v (.int .i64 r.to)] := by rw [← vL_app]; rfl
    have hlt : (l.take x).length = x := by rw [List.length_take]; omega
    generalize l.take x = L at hV hlt ⊢
    cases L with
    | nil =>
      have hx0 : x = 0 := by rw [← hlt]; rfl
      rw [hV, vL_nil, List.nil_append, rM_s, show rS 0 2 x = .v (.slice none 0 0) by rw [hx0]; rfl, rM_0]
      simp (maxSteps := 2000000) -implicitDefEqProofs only [i0, i1, w1, hp, f, inp00, Option.map_some, List.map_nil, s_alt, s_alt20, s_alt2t, s_alt2f, ↓s_loopi, ↓v_pq, ↓PRE, POST, CORE, Nat.reduceDiv, Nat.reduceMod, Int.reduceLT, Int.reduceLE, Int.reduceToNat, Int.reduceAdd, ↓reduceIte, Nat.reduceEqDiff, Nat.reduceAdd, Nat.reduceMul, Nat.reduceSub, Nat.reduceLeDiff, Nat.reduceLT, reduceCtorEq, if_true, eq_self, forall_const, implies_true]
      exact ⟨by unfold maxLen; omega, (by refine ⟨[2], by simp [NdL, NdA, oO_cells, oO_own, iL_nil], ?_, ?_, keep0 hJ⟩ <;> simp only [FitM, FitE, ObLe, LeL, Le, List.cons_append, List.nil_append] <;> (try (simp (maxSteps := 2000000) -implicitDefEqProofs only [List.length_nil, hx0, Nat.zero_add, s_alt, s_alt20, s_alt2t, s_alt2f, ↓s_loopi, ↓v_pq, ↓PRE, POST, CORE, Nat.reduceDiv, Nat.reduceMod, Int.reduceLT, Int.reduceLE, Int.reduceToNat, Int.reduceAdd, ↓reduceIte, Nat.reduceEqDiff, Nat.reduceAdd, Nat.reduceMul, Nat.reduceSub, Nat.reduceLeDiff, Nat.reduceLT, reduceCtorEq, if_true, eq_self, forall_const, implies_true])) <;> (try simp only [Sz.Le, Sz.LeL, List.getElem?_cons_zero, List.getElem?_cons_succ]) <;> (try simp))⟩
    | cons e L =>
      have hel : (vL gV (e :: L)).length = x * 2 := by rw [g_len, hlt]
      have hle : ∀ g, LeL g (vL gV (e :: L) ++ [.v (.int .i64 r.fr), .v (.int .i64 r.to)]) (vL gV (e :: L) ++ [.v (.int .i64 r.fr), .v (.int .i64 r.to)]) = True := fun g => by rw [← hV]; exact vL_le
      have hne : vL gV (e :: L) ≠ [] := by simp [vL, rowV, gV]
      have hx0 : x ≠ 0 := by rw [← hlt]; simp
      rw [hV, rS_ne hx0]
      clear hV
      generalize vL gV (e :: L) = C at hel hle hne ⊢
      have h1 : rM C = [⟨true, C⟩] := if_neg hne
      have h2 : ∀ X, rM (C ++ X) = [⟨true, C ++ X⟩] := fun X => if_neg (by simp [hne])
      have h3 : C.take (x * 2) = C := List.take_of_length_le (by omega)
      have h4 : x + 1 ≤ maxLen := by unfold maxLen; omega
      have h5 : (x + 1) * 16 ≤ 140737488355328 := by omega
      rw [h1, h2]
      simp (maxSteps := 2000000) -implicitDefEqProofs only [i0, i1, w1, hp, f, inp00, Option.map_some, List.map_nil, hel, h3, h4, h5, Nat.le_refl, s_alt, s_alt20, s_alt2t, s_alt2f, ↓s_loopi, ↓v_pq, ↓PRE, POST, CORE, Nat.reduceDiv, Nat.reduceMod, Int.reduceLT, Int.reduceLE, Int.reduceToNat, Int.reduceAdd, ↓reduceIte, Nat.reduceEqDiff, Nat.reduceAdd, Nat.reduceMul, Nat.reduceSub, Nat.reduceLeDiff, Nat.reduceLT, reduceCtorEq, if_true, eq_self, forall_const, implies_true]
      exact (by refine ⟨[3], by simp [NdL, NdA, oO_cells, oO_own, iL_nil], ?_, ?_, keep0 hJ⟩ <;> simp only [FitM, FitE, ObLe, LeL, Le, List.cons_append, List.nil_append] <;> (try (simp (maxSteps := 2000000) -implicitDefEqProofs only [hle, s_alt, s_alt20, s_alt2t, s_alt2f, ↓s_loopi, ↓v_pq, ↓PRE, POST, CORE, Nat.reduceDiv, Nat.reduceMod, Int.reduceLT, Int.reduceLE, Int.reduceToNat, Int.reduceAdd, ↓reduceIte, Nat.reduceEqDiff, Nat.reduceAdd, Nat.reduceMul, Nat.reduceSub, Nat.reduceLeDiff, Nat.reduceLT, reduceCtorEq, if_true, eq_self, forall_const, implies_true])) <;> (try simp only [Sz.Le, Sz.LeL, List.getElem?_cons_zero, List.getElem?_cons_succ]) <;> (try simp))
  · intro _
    have j0 : ¬ (l.length : Int) < (l.length : Int) := by omega
    rw [List.take_length]
    simp (maxSteps := 2000000) -implicitDefEqProofs only [j0, s_alt, s_alt20, s_alt2t, s_alt2f, ↓s_loopi, ↓v_pq, ↓PRE, POST, CORE, Nat.reduceDiv, Nat.reduceMod, Int.reduceLT, Int.reduceLE, Int.reduceToNat, Int.reduceAdd, ↓reduceIte, Nat.reduceEqDiff, Nat.reduceAdd, Nat.reduceMul, Nat.reduceSub, Nat.reduceLeDiff, Nat.reduceLT, reduceCtorEq, if_true, eq_self, forall_const, implies_true]
    exact fin_row gV_len (by omega) _ _ _ 0 (fun h => by rw [h]; rfl) (fun h => ⟨rS_ne (fun e => h (List.length_eq_zero_iff.1 e)), rM_at gV_len (by omega) h⟩) hk
def c23 [Inp] : Trans := fun args m k => ∃ (s1 s2 : SV) (a b : List Ra.Rg), args = [s1, s2] ∧ rdG m s1 = some a ∧ rdG m s2 = some b ∧ a.length ≤ 100000 ∧ b.length ≤ 100000 ∧ k (.v (.bool (a == b))) m
theorem g23 [Inp] : GOk Try.prog [⟨22, true, c22⟩] := GOk.cons c22_ok (g0 _)
theorem c23_ok [I : Inp] : Contract Try.prog 23 true c23 := by
  refine .read fn23 (G := fun J => [⟨22, true, @c22 J⟩]) (fun J => @g23 J) _ fun args m k h => ?_
  obtain ⟨s1, s2, a, b, rfl, ha, hb, hna, hnb, hk⟩ := h
  refine ⟨by simp, fun J hJ us hus => ?_⟩
  obtain ⟨u, t1, rfl, hu1, u2, t2, rfl, hu2, rfl⟩ := hus
  obtain ⟨p, cc, rfl, hin⟩ := rdG_knows ha hu1
  obtain ⟨p', cc', rfl, hin'⟩ := rdG_knows hb hu2
  rw [List.map_cons, List.map_cons, List.map_nil, of_sl, of_sl]
  simp (maxSteps := 2000000) -implicitDefEqProofs only [↓x23, ↓r23, ↓c22, s_alt, s_alt20, s_alt2t, s_alt2f, ↓s_loopi, ↓v_pq, ↓PRE, POST, CORE, Nat.reduceDiv, Nat.reduceMod, Int.reduceLT, Int.reduceLE, Int.reduceToNat, Int.reduceAdd, ↓reduceIte, Nat.reduceEqDiff, Nat.reduceAdd, Nat.reduceMul, Nat.reduceSub, Nat.reduceLeDiff, Nat.reduceLT, reduceCtorEq, if_true, eq_self, forall_const, implies_true]
  refine ⟨_, a, rfl, rdG_v hin, hna, ?_⟩
  simp (maxSteps := 2000000) -implicitDefEqProofs only [s_len, s_alt, s_alt20, s_alt2t, s_alt2f, ↓s_loopi, ↓v_pq, ↓PRE, POST, CORE, Nat.reduceDiv, Nat.reduceMod, Int.reduceLT, Int.reduceLE, Int.reduceToNat, Int.reduceAdd, ↓reduceIte, Nat.reduceEqDiff, Nat.reduceAdd, Nat.reduceMul, Nat.reduceSub, Nat.reduceLeDiff, Nat.reduceLT, reduceCtorEq, if_true, eq_self, forall_const, implies_true]
  by_cases hab : a.length = b.length
  case neg =>
    have h1 : ((a.length : Int) != (b.length : Int)) = true := by simp; omega
    have h2 : (a == b) = false := by
      rw [Bool.eq_false_iff]
      intro h
      exact hab (by rw [beq_iff_eq] at h; rw [h])
    rw [h2] at hk
    simp (maxSteps := 2000000) -implicitDefEqProofs only [h1, s_alt, s_alt20, s_alt2t, s_alt2f, ↓s_loopi, ↓v_pq, ↓PRE, POST, CORE, Nat.reduceDiv, Nat.reduceMod, Int.reduceLT, Int.reduceLE, Int.reduceToNat, Int.reduceAdd, ↓reduceIte, Nat.reduceEqDiff, Nat.reduceAdd, Nat.reduceMul, Nat.reduceSub, Nat.reduceLeDiff, Nat.reduceLT, reduceCtorEq, if_true, eq_self, forall_const, implies_true]
    exact hk
  have h1 : ((a.length : Int) != (b.length : Int)) = false := by simp; omega
  simp (maxSteps := 2000000) -implicitDefEqProofs only [h1, s_alt, s_alt20, s_alt2t, s_alt2f, ↓s_loopi, ↓v_pq, ↓PRE, POST, CORE, Nat.reduceDiv, Nat.reduceMod, Int.reduceLT, Int.reduceLE, Int.reduceToNat, Int.reduceAdd, ↓reduceIte, Nat.reduceEqDiff, Nat.reduceAdd, Nat.reduceMul, Nat.reduceSub, Nat.reduceLeDiff, Nat.reduceLT, reduceCtorEq, if_true, eq_self, forall_const, implies_true]
  refine TXi_of (TX_count (@g23 J) a.length (fun x => [(1, .v (.slice p' b.length cc')), (5, rS 0 2 a.length), (15, .v (.int .i64 (a.length : Int))), (16, .v (.int .i64 (x : Int)))]) (fun x => rM (vL gV a)) (fun x => a.take x = b.take x) (by simp) ?_ ?_ ?_)
  · by_cases h0 : a = []
    · rw [h0, vL_nil, rM_0, List.length_nil, rS_0]
      exact (by refine ⟨[], by simp [NdL, NdA, oO_cells, oO_own, iL_nil], ?_, ?_, keep0 hJ⟩ <;> simp only [FitM, FitE, ObLe, LeL, Le, List.cons_append, List.nil_append] <;> (try (simp (maxSteps := 2000000) -implicitDefEqProofs only [s_alt, s_alt20, s_alt2t, s_alt2f, ↓s_loopi, ↓v_pq, ↓PRE, POST, CORE, Nat.reduceDiv, Nat.reduceMod, Int.reduceLT, Int.reduceLE, Int.reduceToNat, Int.reduceAdd, ↓reduceIte, Nat.reduceEqDiff, Nat.reduceAdd, Nat.reduceMul, Nat.reduceSub, Nat.reduceLeDiff, Nat.reduceLT, reduceCtorEq, if_true, eq_self, forall_const, implies_true])) <;> (try simp only [Sz.Le, Sz.LeL, List.getElem?_cons_zero, List.getElem?_cons_succ]) <;> (try simp))
    · rw [rM_ne (vL_ne gV_len (by omega) h0), rS_ne (fun e => h0 (List.length_eq_zero_iff.1 e))]
      exact (by refine ⟨[0], by simp [NdL, NdA, oO_cells, oO_own, iL_nil], ?_, ?_, keep0 hJ⟩ <;> simp only [FitM, FitE, ObLe, LeL, Le, List.cons_append, List.nil_append] <;> (try (simp (maxSteps := 2000000) -implicitDefEqProofs only [vL_le, s_alt, s_alt20, s_alt2t, s_alt2f, ↓s_loopi, ↓v_pq, ↓PRE, POST, CORE, Nat.reduceDiv, Nat.reduceMod, Int.reduceLT, Int.reduceLE, Int.reduceToNat, Int.reduceAdd, ↓reduceIte, Nat.reduceEqDiff, Nat.reduceAdd, Nat.reduceMul, Nat.reduceSub, Nat.reduceLeDiff, Nat.reduceLT, reduceCtorEq, if_true, eq_self, forall_const, implies_true])) <;> (try simp only [Sz.Le, Sz.LeL, List.getElem?_cons_zero, List.getElem?_cons_succ]) <;> (try simp))
  · intro x hx hI
    obtain ⟨r, hr⟩ : ∃ r, a[x]? = some r := ⟨_, List.getElem?_eq_getElem hx⟩
    obtain ⟨q, hq⟩ : ∃ q, b[x]? = some q := ⟨_, List.getElem?_eq_getElem (by omega)⟩
    have hp : p'.isSome = true := inpL_isSome hin' (by omega)
    have f : inpL (plusA p' (x * 2)) 2 = some [.int .i64 q.fr, .int .i64 q.to] := inp_item gV_len hin' rfl hq
    have f2 : ((vL gV a).drop (x * 2)).take 2 = [.v (.int .i64 r.fr), .v (.int .i64 r.to)] := vL_item gV_len hr
    have i0 : (0 : Int) ≤ (x : Int) := by omega
    have i1 : (x : Int) < (a.length : Int) := by omega
    have i2 : (x : Int) < (b.length : Int) := by omega
    have w1 : IntKind.i64.wrap ((x : Int) + 1) = (x : Int) + 1 := Sz.w_64 (by omega) (by omega)
    have h0 : a ≠ [] := fun e => by rw [e] at hx; simp at hx
    have hl : x * 2 + 2 ≤ (vL gV a).length := by rw [g_len]; omega
    have hle : ∀ g, LeL g (vL gV a) (vL gV a) = True := fun g => vL_le
    rw [rM_ne (vL_ne gV_len (by omega) h0), rS_ne (fun e => h0 (List.length_eq_zero_iff.1 e))]
    simp (maxSteps := 2000000) -implicitDefEqProofs only [i0, i1, i2, hp, f, f2, hl, w1, s_alt, s_alt20, s_alt2t, s_alt2f, ↓s_loopi, ↓v_pq, ↓PRE, POST, CORE, Nat.reduceDiv, Nat.reduceMod, Int.reduceLT, Int.reduceLE, Int.reduceToNat, Int.reduceAdd, ↓reduceIte, Nat.reduceEqDiff, Nat.reduceAdd, Nat.reduceMul, Nat.reduceSub, Nat.reduceLeDiff, Nat.reduceLT, reduceCtorEq, if_true, eq_self, forall_const, implies_true]
    by_cases hrq : r = q
    · subst hrq
      rw [beq_self_eq_true, beq_self_eq_true]
      refine ⟨by rw [take_snoc hr, take_snoc hq, hI], ?_⟩
      exact (by refine ⟨[0], by simp [NdL, NdA, oO_cells, oO_own, iL_nil], ?_, ?_, keep0 hJ⟩ <;> simp only [FitM, FitE, ObLe, LeL, Le, List.cons_append, List.nil_append] <;> (try (simp (maxSteps := 2000000) -implicitDefEqProofs only [hle, s_alt, s_alt20, s_alt2t, s_alt2f, ↓s_loopi, ↓v_pq, ↓PRE, POST, CORE, Nat.reduceDiv, Nat.reduceMod, Int.reduceLT, Int.reduceLE, Int.reduceToNat, Int.reduceAdd, ↓reduceIte, Nat.reduceEqDiff, Nat.reduceAdd, Nat.reduceMul, Nat.reduceSub, Nat.reduceLeDiff, Nat.reduceLT, reduceCtorEq, if_true, eq_self, forall_const, implies_true])) <;> (try simp only [Sz.Le, Sz.LeL, List.getElem?_cons_zero, List.getElem?_cons_succ]) <;> (try simp))
    · have h2 : (a == b) = false := by
        rw [Bool.eq_false_iff]
        intro h
        rw [beq_iff_eq] at h
        rw [h, hq] at hr
        injection hr with hr
        exact hrq hr.symm
      have h3 : (r.fr == q.fr && r.to == q.to) = false := by
        rw [Bool.eq_false_iff]
        intro h
        simp only [Bool.and_eq_true, beq_iff_eq] at h
        obtain ⟨f1, t1⟩ := r
        obtain ⟨f2, t2⟩ := q
        exact hrq (by simp only at h; rw [h.1, h.2])
      rw [h2] at hk
      rw [h3]
      exact hk
  · intro hI
    have j0 : ¬ (a.length : Int) < (a.length : Int) := by omega
    rw [List.take_length, List.take_of_length_le (by omega)] at hI
    rw [hI, beq_self_eq_true] at hk
    simp (maxSteps := 2000000) -implicitDefEqProofs only [j0, s_alt, s_alt20, s_alt2t, s_alt2f, ↓s_loopi, ↓v_pq, ↓PRE, POST, CORE, Nat.reduceDiv, Nat.reduceMod, Int.reduceLT, Int.reduceLE, Int.reduceToNat, Int.reduceAdd, ↓reduceIte, Nat.reduceEqDiff, Nat.reduceAdd, Nat.reduceMul, Nat.reduceSub, Nat.reduceLeDiff, Nat.reduceLT, reduceCtorEq, if_true, eq_self, forall_const, implies_true]
    exact hk
def badR (p : Option Int) (r : Ra.Rg) : Bool := decide (r.to ≤ r.fr) || (decide (r.fr < -1099511627776) || (decide (1099511627776 < r.to) || (match p with | some q => decide (r.fr ≤ q) | none => false)))
theorem isF_cons (p : Option Int) (r : Ra.Rg) (l : List Ra.Rg) : Ra.isF p (r :: l) = (!badR p r && Ra.isF (some r.to) l) := by
  have h1 : decide (r.fr < r.to) = !decide (r.to ≤ r.fr) := by rw [Bool.eq_iff_iff]; simp
  have h2 : decide (-Ra.Mx ≤ r.fr) = !decide (r.fr < -1099511627776) := by unfold Ra.Mx; rw [Bool.eq_iff_iff]; simp
  have h3 : decide (r.to ≤ Ra.Mx) = !decide (1099511627776 < r.to) := by unfold Ra.Mx; rw [Bool.eq_iff_iff]; simp
  unfold badR
  cases p with
  | none =>
    simp only [Ra.isF]
    rw [h1, h2, h3]
    cases decide (r.to ≤ r.fr) <;> cases decide (r.fr < -1099511627776) <;> cases decide (1099511627776 < r.to) <;> rfl
  | some q =>
    have h4 : decide (q < r.fr) = !decide (r.fr ≤ q) := by rw [Bool.eq_iff_iff]; simp
    simp only [Ra.isF]
    rw [h1, h2, h3, h4]
    cases decide (r.to ≤ r.fr) <;> cases decide (r.fr < -1099511627776) <;> cases decide (1099511627776 < r.to) <;> cases decide (r.fr ≤ q) <;> rfl
def prv (l : List Ra.Rg) (x : Nat) : Option Int := match x with | 0 => none | x + 1 => l[x]?.map Ra.Rg.to
def c25 [Inp] : Trans := fun args m k => ∃ (s : SV) (l : List Ra.Rg), args = [s] ∧ rdG m s = some l ∧ l.length ≤ 100000 ∧ k (.v (.bool (Ra.isF none l))) m
theorem c25_ok [I : Inp] : Contract Try.prog 25 true c25 := by
  refine .read fn25 (G := fun J => []) (fun J => @g0 J _) _ fun args m k h => ?_
  obtain ⟨s, l, rfl, hl, hmax, hk⟩ := h
  refine ⟨by simp, fun J hJ us hus => ?_⟩
  obtain ⟨u, t1, rfl, hu1, rfl⟩ := hus
  obtain ⟨p, cc, rfl, hin⟩ := rdG_knows hl hu1
  rw [List.map_cons, List.map_nil, of_sl]
  simp (maxSteps := 2000000) -implicitDefEqProofs only [↓x25, ↓r25, s_alt, s_alt20, s_alt2t, s_alt2f, ↓s_loopi, ↓v_pq, ↓PRE, POST, CORE, Nat.reduceDiv, Nat.reduceMod, Int.reduceLT, Int.reduceLE, Int.reduceToNat, Int.reduceAdd, ↓reduceIte, Nat.reduceEqDiff, Nat.reduceAdd, Nat.reduceMul, Nat.reduceSub, Nat.reduceLeDiff, Nat.reduceLT, reduceCtorEq, if_true, eq_self, forall_const, implies_true]
  refine TXi_of (TX_count (@g0 J _) l.length (fun x => [(0, .v (.slice p l.length cc)), (5, .v (.slice p l.length cc)), (6, .v (.int .i64 (l.length : Int))), (7, .v (.int .i64 (x : Int)))]) (fun x => []) (fun x => Ra.isF none l = Ra.isF (prv l x) (l.drop x)) rfl ?_ ?_ ?_)
  · exact (by refine ⟨[], by simp [NdL, NdA, oO_cells, oO_own, iL_nil], ?_, ?_, keep0 hJ⟩ <;> simp only [FitM, FitE, ObLe, LeL, Le, List.cons_append, List.nil_append] <;> (try (simp (maxSteps := 2000000) -implicitDefEqProofs only [s_alt, s_alt20, s_alt2t, s_alt2f, ↓s_loopi, ↓v_pq, ↓PRE, POST, CORE, Nat.reduceDiv, Nat.reduceMod, Int.reduceLT, Int.reduceLE, Int.reduceToNat, Int.reduceAdd, ↓reduceIte, Nat.reduceEqDiff, Nat.reduceAdd, Nat.reduceMul, Nat.reduceSub, Nat.reduceLeDiff, Nat.reduceLT, reduceCtorEq, if_true, eq_self, forall_const, implies_true])) <;> (try simp only [Sz.Le, Sz.LeL, List.getElem?_cons_zero, List.getElem?_cons_succ]) <;> (try simp))
  · intro x hx hI
    obtain ⟨r, hr⟩ : ∃ r, l[x]? = some r := ⟨_, List.getElem?_eq_getElem hx⟩
    have hp : p.isSome = true := inpL_isSome hin (by omega)
    have f : inpL (plusA p (x * 2)) 2 = some [.int .i64 r.fr, .int .i64 r.to] := inp_item gV_len hin rfl hr
    have i0 : (0 : Int) ≤ (x : Int) := by omega
    have i1 : (x : Int) < (l.length : Int) := by omega
    have w1 : IntKind.i64.wrap ((x : Int) + 1) = (x : Int) + 1 := Sz.w_64 (by omega) (by omega)
    have hdr : l.drop x = r :: l.drop (x + 1) := by
      rw [List.drop_eq_getElem_cons hx]
      congr 1
      rw [List.getElem?_eq_getElem hx] at hr
      injection hr
    have hpv : prv l (x + 1) = some r.to := by simp [prv, hr]
    rw [hdr, isF_cons] at hI
    have fin : badR (prv l x) r = true → k (.v (.bool false)) m := fun hb => by
      rw [hI, hb] at hk
      exact hk
    have nxt : badR (prv l x) r = false → Ra.isF none l = Ra.isF (prv l (x + 1)) (l.drop (x + 1)) := fun hb => by
      rw [hI, hb, hpv]
      rfl
    cases x with
    | zero =>
      have hb : badR (prv l 0) r = (decide (r.to ≤ r.fr) || (decide (r.fr < -1099511627776) || decide (1099511627776 < r.to))) := by simp [badR, prv]
      rw [hb] at fin nxt
      rw [Nat.zero_mul] at f
      have w2 : IntKind.i64.wrap (1 : Int) = 1 := rfl
      have w3 : (0 : Int) < (l.length : Int) := by omega
      simp (maxSteps := 2000000) -implicitDefEqProofs only [i1, hp, f, w2, w3, ge_iff_le, s_alt, s_alt20, s_alt2t, s_alt2f, ↓s_loopi, ↓v_pq, ↓PRE, POST, CORE, Nat.reduceDiv, Nat.reduceMod, Int.reduceLT, Int.reduceLE, Int.reduceToNat, Int.reduceAdd, ↓reduceIte, Nat.reduceEqDiff, Nat.reduceAdd, Nat.reduceMul, Nat.reduceSub, Nat.reduceLeDiff, Nat.reduceLT, reduceCtorEq, if_true, eq_self, forall_const, implies_true]
      cases c1 : decide (r.to ≤ r.fr) with
      | true => simp only [if_true, Bool.true_eq_false, if_false]; exact fin (by rw [c1]; rfl)
      | false =>
        cases c2 : decide (r.fr < -1099511627776) with
        | true => simp only [if_true, Bool.true_eq_false, if_false]; exact fin (by rw [c1, c2]; rfl)
        | false =>
          cases c3 : decide (1099511627776 < r.to) with
          | true => simp only [if_true, Bool.true_eq_false, if_false]; exact fin (by rw [c1, c2, c3]; rfl)
          | false =>
            simp only [if_true]
            exact ⟨nxt (by rw [c1, c2, c3]; rfl), (by refine ⟨[], by simp [NdL, NdA, oO_cells, oO_own, iL_nil], ?_, ?_, keep0 hJ⟩ <;> simp only [FitM, FitE, ObLe, LeL, Le, List.cons_append, List.nil_append] <;> (try (simp (maxSteps := 2000000) -implicitDefEqProofs only [s_alt, s_alt20, s_alt2t, s_alt2f, ↓s_loopi, ↓v_pq, ↓PRE, POST, CORE, Nat.reduceDiv, Nat.reduceMod, Int.reduceLT, Int.reduceLE, Int.reduceToNat, Int.reduceAdd, ↓reduceIte, Nat.reduceEqDiff, Nat.reduceAdd, Nat.reduceMul, Nat.reduceSub, Nat.reduceLeDiff, Nat.reduceLT, reduceCtorEq, if_true, eq_self, forall_const, implies_true])) <;> (try simp only [Sz.Le, Sz.LeL, List.getElem?_cons_zero, List.getElem?_cons_succ]) <;> (try simp))⟩
    | succ y =>
      obtain ⟨q, hq⟩ : ∃ q, l[y]? = some q := ⟨_, List.getElem?_eq_getElem (by omega)⟩
      have hb : badR (prv l (y + 1)) r = (decide (r.to ≤ r.fr) || (decide (r.fr < -1099511627776) || (decide (1099511627776 < r.to) || decide (r.fr ≤ q.to)))) := by simp [badR, prv, hq]
      rw [hb] at fin nxt
      have f' : inpL (plusA p (y * 2)) 2 = some [.int .i64 q.fr, .int .i64 q.to] := inp_item gV_len hin rfl hq
      have e1 : ((y + 1 : Nat) : Int) = (y : Int) + 1 := by omega
      have w2 : IntKind.i64.wrap ((y : Int) + 1 - 1) = (y : Int) := by rw [Int.add_sub_cancel]; exact Sz.w_64 (by omega) (by omega)
      rw [e1] at i0 i1 w1
      have i2 : (0 : Int) < (y : Int) + 1 := by omega
      have i3 : (0 : Int) ≤ (y : Int) := by omega
      have i4 : (y : Int) < (l.length : Int) := by omega
      have i5 : ((y : Int) + 1).toNat = y + 1 := by omega
      have f2 : inpL (plusA (plusA p (y * 2)) 1) 1 = some [.int .i64 q.to] := by
        have := inpL_part f' (o := 1) (j := 1) (by omega)
        exact this
      rw [e1]
      have e2 : ((y + 1 + 1 : Nat) : Int) = (y : Int) + 1 + 1 := by omega
      simp (maxSteps := 2000000) -implicitDefEqProofs only [i0, i1, i2, i3, i4, i5, hp, f, f2, w1, w2, ge_iff_le, s_alt, s_alt20, s_alt2t, s_alt2f, ↓s_loopi, ↓v_pq, ↓PRE, POST, CORE, Nat.reduceDiv, Nat.reduceMod, Int.reduceLT, Int.reduceLE, Int.reduceToNat, Int.reduceAdd, ↓reduceIte, Nat.reduceEqDiff, Nat.reduceAdd, Nat.reduceMul, Nat.reduceSub, Nat.reduceLeDiff, Nat.reduceLT, reduceCtorEq, if_true, eq_self, forall_const, implies_true]
      cases c1 : decide (r.to ≤ r.fr) with
      | true => simp only [if_true, Bool.true_eq_false, if_false]; exact fin (by rw [c1]; rfl)
      | false =>
        cases c2 : decide (r.fr < -1099511627776) with
        | true => simp only [if_true, Bool.true_eq_false, if_false]; exact fin (by rw [c1, c2]; rfl)
        | false =>
          cases c3 : decide (1099511627776 < r.to) with
          | true => simp only [if_true, Bool.true_eq_false, if_false]; exact fin (by rw [c1, c2, c3]; rfl)
          | false =>
            cases c4 : decide (r.fr ≤ q.to) with
            | true => simp only [if_true]; exact fin (by rw [c1, c2, c3, c4]; rfl)
            | false =>
              simp only [if_true, Bool.false_eq_true, if_false]
              exact ⟨nxt (by rw [c1, c2, c3, c4]; rfl), (by refine ⟨[], by simp [NdL, NdA, oO_cells, oO_own, iL_nil], ?_, ?_, keep0 hJ⟩ <;> simp only [FitM, FitE, ObLe, LeL, Le, List.cons_append, List.nil_append] <;> (try (simp (maxSteps := 2000000) -implicitDefEqProofs only [e2, s_alt, s_alt20, s_alt2t, s_alt2f, ↓s_loopi, ↓v_pq, ↓PRE, POST, CORE, Nat.reduceDiv, Nat.reduceMod, Int.reduceLT, Int.reduceLE, Int.reduceToNat, Int.reduceAdd, ↓reduceIte, Nat.reduceEqDiff, Nat.reduceAdd, Nat.reduceMul, Nat.reduceSub, Nat.reduceLeDiff, Nat.reduceLT, reduceCtorEq, if_true, eq_self, forall_const, implies_true])) <;> (try simp only [Sz.Le, Sz.LeL, List.getElem?_cons_zero, List.getElem?_cons_succ]) <;> (try simp))⟩
  · intro hI
    have j0 : ¬ (l.length : Int) < (l.length : Int) := by omega
    rw [List.drop_length] at hI
    have : Ra.isF none l = true := hI
    rw [this] at hk
    simp (maxSteps := 2000000) -implicitDefEqProofs only [j0, s_alt, s_alt20, s_alt2t, s_alt2f, ↓s_loopi, ↓v_pq, ↓PRE, POST, CORE, Nat.reduceDiv, Nat.reduceMod, Int.reduceLT, Int.reduceLE, Int.reduceToNat, Int.reduceAdd, ↓reduceIte, Nat.reduceEqDiff, Nat.reduceAdd, Nat.reduceMul, Nat.reduceSub, Nat.reduceLeDiff, Nat.reduceLT, reduceCtorEq, if_true, eq_self, forall_const, implies_true]
    exact hk
end Rc
end Go.Proofs.Ytcejgadbpahbmaa
end
section
namespace Go.Proofs.Ytcejgadbpahbmaa.Sz
open Go.RowKit Go.Sort
variable {P : Program} {base : Nat → Prop} {w0 W : World} {r : List Loc} {m : Mem}
theorem IsL_vs {us : List Value} {r : List Loc} : ∀ {xs : List Value}, SV.IsL r (xs.map SV.v) us → us = xs := by
  intro xs
  induction xs generalizing us with
  | nil => intro h; exact h
  | cons x xs ih =>
    intro h
    obtain ⟨u, t, rfl, h1, h2⟩ := h
    simp only [SV.Is] at h1
    rw [h1, ih h2]
end Go.Proofs.Ytcejgadbpahbmaa.Sz
end
section
namespace Go.Proofs.Ytcejgadbpahbmaa.Sz
open Go.RowKit Go.Sort
variable {P : Program} {base : Nat → Prop} {w0 W : World} {r : List Loc} {m : Mem}
theorem row_thereV [Inp] (h : St base w0 r m W) {k : Nat} {l : Loc} {us : List Value} (hl : r[k]? = some l) (hob : m[k]? = some ⟨true, us.map SV.v⟩) :
    ∃ c T, W.heap[l.blk]? = some (.cells c T (0, 0)) ∧ l.off + l.room ≤ c.size ∧ us.length ≤ l.room ∧ ∀ (j : Nat) x, us[j]? = some x → c[l.off + j]? = some x := by
  have hO := h.obj k l _ hl hob
  obtain ⟨c, T, fr, g1, g2, g3, g4⟩ := hO.there rfl (.inl rfl)
  have g5 := hO.fits
  simp only [List.length_map] at g5 g3
  have := g4 rfl
  subst this
  have g6 := IsL_vs g3
  refine ⟨c, T, g1, g2, g5, fun j x hx => ?_⟩
  have hj : j < us.length := (List.getElem?_eq_some_iff.1 hx).1
  have e : ((c.toList.drop l.off).take us.length)[j]? = us[j]? := by rw [g6]
  rw [List.getElem?_take_of_lt hj, List.getElem?_drop, hx] at e
  rw [← Array.getElem?_toList]
  exact e
theorem holds_rowV [Inp] (h : St base w0 r m W) {k : Nat} {l : Loc} {us : List Value} (hl : r[k]? = some l) (hob : m[k]? = some ⟨true, us.map SV.v⟩) : Holds id W l.blk (l.off + 0) us.toArray := by
  obtain ⟨c, T, g1, g2, g3, g4⟩ := row_thereV h hl hob
  intro j hj
  have hj' : j < us.length := by simpa using hj
  have hx : us[j]? = some us[j] := List.getElem?_eq_getElem hj'
  refine ⟨?_, ?_⟩
  · have : us.toArray[j]! = us[j] := by rw [getElem!_pos _ j (by simpa using hj')]; simp
    rw [this, Nat.add_zero]
    simp only [World.cell?, g1]
    exact g4 j _ hx
  · simp only [World.frozen?, g1]
    simp
theorem heap_putV (W : World) (n b o : Nat) (ys : Array Value) (os : Array Obj) {j : Nat} (hj : j < W.heap.size) :
    (grow (putRow id (Sort.ahead W n) b o ys) os).heap[j]? = if b = j then W.heap[j]?.map (onCells (putCells id o ys)) else W.heap[j]? := by
  simp only [grow, putRow, mapBlock, Sort.ahead]
  rw [Array.getElem?_append_left (by simpa using hj), Array.getElem?_modify]
theorem put_rowV [Inp] (h : St base w0 r m W) {k : Nat} {l : Loc} {us : List Value} (hl : r[k]? = some l) (hob : m[k]? = some ⟨true, us.map SV.v⟩) (ys : List Value) (hlen : ys.length = us.length) (n : Nat) (os : Array Obj) :
    St base w0 r (m.set k ⟨true, ys.map SV.v⟩) (grow (putRow id (Sort.ahead W n) l.blk (l.off + 0) ys.toArray) os) := by
  obtain ⟨c, T, g1, g2, g3, g4⟩ := row_thereV h hl hob
  have hO := h.obj k l _ hl hob
  have hlt := hO.lt
  have hb := hO.own rfl
  have hh := @heap_putV W n l.blk (l.off + 0) ys.toArray os
  generalize hW1 : grow (putRow id (Sort.ahead W n) l.blk (l.off + 0) ys.toArray) os = W1 at hh ⊢
  have hsz : W.heap.size ≤ W1.heap.size := by rw [← hW1]; simp [grow, putRow, mapBlock, Sort.ahead]
  have hme : W1.heap[l.blk]? = some (.cells (putCells id (l.off + 0) ys.toArray c) T (0, 0)) := by
    rw [hh hlt, if_pos rfl, g1]
    rfl
  refine h.wr hl hob rfl ⟨by rw [← hW1]; rfl, by rw [← hW1]; rfl, by rw [← hW1]; rfl, hsz, fun j hj hn => ?_, fun j d T2 fr2 hd => ?_⟩ (fun j hj hn => ?_) _ ⟨fun _ _ => ?_, ?_, fun _ => hb, Nat.lt_of_lt_of_le hlt hsz, trivial⟩ rfl
  · rw [hh hj, if_neg (fun e : l.blk = j => hn (by rw [← e]; exact hb))]
  · have hj : j < W.heap.size := (Array.getElem?_eq_some_iff.1 hd).1
    by_cases e : l.blk = j
    · subst e
      rw [g1] at hd
      injection hd with hd
      injection hd with e1 e2 e3
      subst e1
      exact ⟨_, _, _, hme, by simp [putCells]⟩
    · exact ⟨d, T2, fr2, by rw [hh hj, if_neg e]; exact hd, rfl⟩
  · rw [hh hj, if_neg (fun e => hn e.symm)]
  · refine ⟨_, T, (0, 0), hme, by simp only [putCells, Array.size_mapIdx]; exact g2, ?_, fun _ => rfl⟩
    have e : (((putCells id (l.off + 0) ys.toArray c).toList.drop l.off).take (ys.map SV.v).length) = ys := by
      apply List.ext_getElem?
      intro j
      by_cases hj : j < ys.length
      · rw [List.getElem?_take_of_lt (by simpa using hj), List.getElem?_drop, Array.getElem?_toList, List.getElem?_eq_getElem hj]
        have hc : l.off + j < c.size := by omega
        simp only [putCells, Array.getElem?_mapIdx, Array.getElem?_eq_getElem hc, Option.map_some, Nat.add_zero]
        rw [if_pos ⟨by omega, by simp; omega⟩]
        have : l.off + j - l.off = j := by omega
        rw [this, getElem!_pos _ j (by simpa using hj)]
        simp
      · rw [List.getElem?_eq_none (by simp; omega), List.getElem?_eq_none (by omega)]
    rw [e]
    exact IsL_v _
  · show (ys.map SV.v).length ≤ l.room
    rw [List.length_map]
    omega
theorem rowV_cell {α : Type} {cs : α → List Value} {z : Nat} (hz : ∀ x, (cs x).length = z) : ∀ (l : List α) (i j : Nat), j < z → (rowV cs l)[i * z + j]? = l[i]?.bind fun x => (cs x)[j]?
  | [], i, j, hj => by simp [rowV]
  | x :: l, 0, j, hj => by
    have e : rowV cs (x :: l) = cs x ++ rowV cs l := rfl
    rw [e, Nat.zero_mul, Nat.zero_add, List.getElem?_append_left (by rw [hz]; exact hj)]
    rfl
  | x :: l, i + 1, j, hj => by
    have e : rowV cs (x :: l) = cs x ++ rowV cs l := rfl
    rw [e, List.getElem?_append_right (by rw [hz, Nat.succ_mul]; omega), hz, show (i + 1) * z + j - z = i * z + j by rw [Nat.succ_mul]; omega, rowV_cell hz l i j hj]
    rfl
theorem flat_eq {α : Type} [Inhabited α] {cs : α → List Value} {z : Nat} (hz : ∀ x, (cs x).length = z) (d : Array α) : Go.Sort.flatK cs z d = (rowV cs d.toList).toArray := by
  refine ext_get! (by rw [size_flatK]; simp [rowV_len hz]) fun t ht => ?_
  have ht' : t < d.size * z := by simpa using ht
  have hz0 : 0 < z := by
    rcases Nat.eq_zero_or_pos z with h | h
    · subst h; simp at ht'
    · exact h
  have h1 : t / z < d.size := Nat.div_lt_of_lt_mul (by rw [Nat.mul_comm]; exact ht')
  have h2 : t % z < z := Nat.mod_lt _ hz0
  have h3 := rowV_cell hz d.toList (t / z) (t % z) h2
  rw [Nat.div_add_mod' t z] at h3
  rw [get_flatK _ _ _ t ht']
  have h4 : d.toList[t / z]? = some d[t / z] := by rw [Array.getElem?_toList, Array.getElem?_eq_getElem h1]
  rw [h4, Option.bind_some] at h3
  have h5 : d[t / z]! = d[t / z] := getElem!_pos d _ h1
  rw [h5]
  have h6 : t < (rowV cs d.toList).length := by rw [rowV_len hz]; simpa using ht'
  rw [getElem!_pos (rowV cs d.toList).toArray t (by simpa using h6)]
  rw [List.getElem?_eq_getElem h6] at h3
  rw [getElem!_pos (cs d[t / z]) (t % z) (by rw [hz]; exact h2)]
  rw [List.getElem?_eq_getElem (by rw [hz]; exact h2)] at h3
  injection h3 with h3
  simpa using h3.symm
def sortKT {α : Type} (cs : α → List Value) (z : Nat) (g : FuncId) (cf : α → α → Int) : Trans := fun args m k => (∃ j l, args = [.row j 0 l.length z, .fn g []] ∧ m[j]? = some ⟨true, (rowV cs l).map SV.v⟩ ∧ l.length ≤ 1000000 ∧
    ∀ l', l'.Perm l → (l'.Pairwise fun x y => ¬ cf y x < 0) → k (.tup []) (m.set j ⟨true, (rowV cs l').map SV.v⟩)) ∨ (∃ a c, args = [.v (.slice a 0 c), .fn g []] ∧ k (.tup []) m)
theorem sortK_native [Inp] {α : Type} [Inhabited α] {cs : α → List Value} {z : Nat} (hz : ∀ x, (cs x).length = z) {f g : FuncId} {cf : α → α → Int} (he : Enterable P f)
    (hc : ∀ (blk off cap : Nat) (d : Array α) (w : World), HoldsK cs z w blk off d → blk < w.heap.size → d.size < 4611686018427387904 →
      Calls P f #[.slice (some ⟨blk, off, none⟩) d.size cap, .func (.func g) #[] #[]] w fun e w' => e = .returned (.tuple #[]) ∧ ∃ d' n os, PermIn 0 d.size d d' ∧ SortedIn (ltOf cf) 0 d.size d' ∧ w' = sortWorldK cs z w blk off n d' os)
    (hn : ∀ (p : Option Addr) (cap : Nat) (w : World), Calls P f #[.slice p 0 cap, .func (.func g) #[] #[]] w fun e w' => e = .returned (.tuple #[]) ∧ w' = w) : Contract P f false (sortKT cs z g cf) := by
  refine ⟨he, fun args m k base w0 W r vs h hst hvs => ?_⟩
  rcases h with ⟨j, ls, rfl, hm, hzz, hk⟩ | ⟨a, c, rfl, hk⟩
  · obtain ⟨u, t, rfl, hu, u2, t2, rfl, hu2, ht⟩ := hvs
    have ht' : t2 = [] := ht
    subst ht'
    simp only [SV.Is, SV.IsL] at hu hu2
    obtain ⟨l, cap, hl, hcap, hroom, rfl⟩ := hu
    obtain ⟨us, rfl, rfl⟩ := hu2
    have hH : HoldsK cs z W l.blk (l.off + 0) ls.toArray := by
      unfold HoldsK
      rw [flat_eq hz]
      exact holds_rowV hst hl hm
    have hcl := hc l.blk (l.off + 0) cap ls.toArray W hH (hst.obj j l _ hl hm).lt (by simp; omega)
    rw [show ls.toArray.size = ls.length by simp] at hcl
    refine hcl.mono ?_
    rintro e W1 ⟨rfl, d', n, os, ⟨hp1, _, hp3⟩, hs, rfl⟩
    have hd : d'.size = ls.length := by rw [hp1]; simp
    have hperm : d'.toList.Perm ls := by
      have e1 : (d'.extract 0 ls.length).toList = d'.toList := by rw [← hd]; simp
      have e2 : (ls.toArray.extract 0 ls.length).toList = ls := by simp
      rw [e1, e2] at hp3
      exact hp3
    have hsort : d'.toList.Pairwise fun x y => ¬ cf y x < 0 := by
      rw [List.pairwise_iff_getElem]
      intro i j hi hj hij
      have h1 : i < d'.size := by simpa using hi
      have h2 : j < d'.size := by simpa using hj
      have := hs i j (Nat.zero_le _) hij (by omega)
      unfold ltOf at this
      rw [getElem!_pos d' j h2, getElem!_pos d' i h1] at this
      simpa using this
    have hput := put_rowV hst hl hm (rowV cs d'.toList) (by rw [rowV_len hz, rowV_len hz, hperm.length_eq]) n os
    have e3 : sortWorldK cs z W l.blk (l.off + 0) n d' os = grow (putRow id (Sort.ahead W n) l.blk (l.off + 0) (rowV cs d'.toList).toArray) os := by
      unfold sortWorldK putRowK
      rw [flat_eq hz]
    rw [← e3] at hput
    exact ⟨.tup [], _, [], _, hk _ hperm hsort, rfl, by rw [List.append_nil]; exact hput, ⟨[], rfl, rfl⟩, fun h => by cases h⟩
  · obtain ⟨u, t, rfl, hu, u2, t2, rfl, hu2, ht⟩ := hvs
    have ht' : t2 = [] := ht
    subst ht'
    simp only [SV.Is, SV.IsL] at hu hu2
    obtain ⟨us, rfl, rfl⟩ := hu2
    subst hu
    refine (hn a c W).mono ?_
    rintro e W1 ⟨rfl, rfl⟩
    exact ⟨.tup [], m, [], _, hk, rfl, by rw [List.append_nil]; exact hst, ⟨[], rfl, rfl⟩, fun h => by cases h⟩
end Go.Proofs.Ytcejgadbpahbmaa.Sz
end
section
namespace Go.Proofs
open Go.Shelf
def Try.sortEdge_ren : Go.Shelf.Ren := ⟨fun | 6 => 92 | 15 => 107 | 14 => 112 | 28 => 132 | 29 => 133 | 20 => 144 | 21 => 145 | 22 => 146 | 23 => 147 | 24 => 148 | 25 => 149 | 26 => 150 | 27 => 151 | 46 => 162 | 47 => 154 | 48 => 155 | 49 => 163 | 50 => 164 | 57 => 168 | n => n, fun | 22 => 136 | 24 => 140 | 25 => 141 | 3 => 3 | 39 => 104 | 0 => 0 | 53 => 159 | 55 => 161 | 4 => 4 | 46 => 168 | 45 => 167 | 50 => 172 | 5 => 5 | 9 => 9 | 66 => 185 | 70 => 189 | 76 => 195 | 77 => 196 | n => n, fun | n => n⟩
theorem Try.sortEdge : Go.Proofs.SlLaysF0.n6 Try.prog Try.sortEdge_ren := {
  mixed := by kernel_rfl
  f6 := ⟨Try.f92.name, by decide, Try.func92.trans (congrArg some (by kernel_rfl))⟩
  f14 := ⟨Try.f112.name, by decide, Try.func112.trans (congrArg some (by kernel_rfl))⟩
  f15 := Try.func107.trans (congrArg some (by kernel_rfl))
  f20 := ⟨Try.f144.name, by decide, Try.func144.trans (congrArg some (by kernel_rfl))⟩
  f21 := ⟨Try.f145.name, by decide, Try.func145.trans (congrArg some (by kernel_rfl))⟩
  f22 := ⟨Try.f146.name, by decide, Try.func146.trans (congrArg some (by kernel_rfl))⟩
  f23 := ⟨Try.f147.name, by decide, Try.func147.trans (congrArg some (by kernel_rfl))⟩
  f24 := ⟨Try.f148.name, by decide, Try.func148.trans (congrArg some (by kernel_rfl))⟩
  f25 := ⟨Try.f149.name, by decide, Try.func149.trans (congrArg some (by kernel_rfl))⟩
  f26 := ⟨Try.f150.name, by decide, Try.func150.trans (congrArg some (by kernel_rfl))⟩
  f27 := ⟨Try.f151.name, by decide, Try.func151.trans (congrArg some (by kernel_rfl))⟩
  f28 := Try.func132.trans (congrArg some (by kernel_rfl))
  f29 := Try.func133.trans (congrArg some (by kernel_rfl))
  f46 := ⟨Try.f162.name, by decide, Try.func162.trans (congrArg some (by kernel_rfl))⟩
  f47 := Try.func154.trans (congrArg some (by kernel_rfl))
  f48 := Try.func155.trans (congrArg some (by kernel_rfl))
  f49 := ⟨Try.f163.name, by decide, Try.func163.trans (congrArg some (by kernel_rfl))⟩
  f50 := ⟨Try.f164.name, by decide, Try.func164.trans (congrArg some (by kernel_rfl))⟩
  f57 := ⟨Try.f168.name, by decide, Try.func168.trans (congrArg some (by kernel_rfl))⟩
  t0 := Try.underlying0
  a0 := Try.isAgg0
  z0 := Try.sizeOf0
  v0 := Try.zeroValue0
  t3 := Try.underlying3
  a3 := Try.isAgg3
  z3 := Try.sizeOf3
  v3 := Try.zeroValue3
  t4 := Try.underlying4
  a4 := Try.isAgg4
  z4 := Try.sizeOf4
  v4 := Try.zeroValue4
  t5 := Try.underlying5
  a5 := Try.isAgg5
  z5 := Try.sizeOf5
  v5 := Try.zeroValue5
  t9 := Try.underlying9
  a9 := Try.isAgg9
  z9 := Try.sizeOf9
  v9 := Try.zeroValue9
  t22 := Try.underlying136
  a22 := Try.isAgg136
  z22 := Try.sizeOf136
  v22 := Try.zeroValue136
  t25 := Try.underlying141
  a25 := Try.isAgg141
  z25 := Try.sizeOf141
  v25 := Try.zeroValue141
  t39 := Try.underlying104
  a39 := Try.isAgg104
  z39 := Try.sizeOf104
  v39 := Try.zeroValue104
  t45 := Try.underlying167
  a45 := Try.isAgg167
  z45 := Try.sizeOf167
  v45 := Try.zeroValue167
  t46 := Try.underlying168
  a46 := Try.isAgg168
  z46 := Try.sizeOf168
  v46 := Try.zeroValue168
  t50 := Try.underlying172
  a50 := Try.isAgg172
  z50 := Try.sizeOf172
  v50 := Try.zeroValue172
  t53 := Try.underlying159
  a53 := Try.isAgg159
  z53 := Try.sizeOf159
  v53 := Try.zeroValue159
  t55 := Try.underlying161
  a55 := Try.isAgg161
  z55 := Try.sizeOf161
  v55 := Try.zeroValue161
  t66 := Try.underlying185
  a66 := Try.isAgg185
  z66 := Try.sizeOf185
  v66 := Try.zeroValue185
  t70 := Try.underlying189
  a70 := Try.isAgg189
  z70 := Try.sizeOf189
  v70 := Try.zeroValue189
  t76 := Try.underlying195
  a76 := Try.isAgg195
  z76 := Try.sizeOf195
  v76 := Try.zeroValue195
  t77 := Try.underlying196
  a77 := Try.isAgg196
  z77 := Try.sizeOf196
  v77 := Try.zeroValue196 }
def Try.lays122_ren : Go.Shelf.Ren := ⟨fun | 122 => 50 | 215 => 85 | n => n, fun | 3 => 3 | 4 => 4 | n => n, fun | n => n⟩
theorem Try.lays122 : Go.Proofs.Lays.n122 Try.prog Try.lays122_ren := {
  mixed := by kernel_rfl
  f122 := Try.func50.trans (congrArg some (by kernel_rfl))
  f215 := Try.func85.trans (congrArg some (by kernel_rfl))
  t3 := Try.underlying3
  a3 := Try.isAgg3
  z3 := Try.sizeOf3
  v3 := Try.zeroValue3
  t4 := Try.underlying4
  a4 := Try.isAgg4
  z4 := Try.sizeOf4
  v4 := Try.zeroValue4 }
theorem Try.cmp_Compare_int (x y : Int) (w : World) :
    Calls Try.prog 50 #[.int .i64 x, .int .i64 y] w fun e w' => e = .returned (.int .i64 (Lib.compareInt x y)) ∧ w' = w := Any.cmp_Compare_int Try.lays122 x y w
end Go.Proofs
end
section
namespace Go.Proofs.Ytcejgadbpahbmaa
open Go.RowKit Go.Sort Sz
set_option maxHeartbeats 4000000
set_option maxRecDepth 20000
namespace Rc
instance : Inhabited Ra.Ed := ⟨⟨0, 0, false⟩⟩
def cmpE (x y : Ra.Ed) : Int := Lib.compareInt x.at_ y.at_
theorem ltE (x y : Ra.Ed) : ltOf cmpE x y = decide (x.at_ < y.at_) := by
  unfold ltOf cmpE Lib.compareInt
  by_cases h1 : x.at_ < y.at_
  · simp [h1]
  · by_cases h2 : y.at_ < x.at_ <;> simp [h1, h2]
theorem swoE : SWO (ltOf cmpE) where
  irrefl x := by rw [ltE]; simp
  trans x y z h1 h2 := by rw [ltE] at *; simp at *; omega
  ntrans x y z h1 h2 := by rw [ltE] at *; simp at *; omega
theorem cmpE_neg (x y : Ra.Ed) : cmpE x y < 0 ↔ x.at_ < y.at_ := by
  have := ltE x y
  unfold ltOf at this
  rw [← decide_eq_true_iff (p := cmpE x y < 0), this, decide_eq_true_iff]
theorem closure93 (x y : Ra.Ed) (W : World) : Calls Try.prog 93 #[.agg #[.int .i64 x.at_, .int .i64 x.up, .bool x.sec], .agg #[.int .i64 y.at_, .int .i64 y.up, .bool y.sec]] W fun e w' => e = .returned (.int .i64 (cmpE x y)) ∧ ∃ q os', w' = grow (W.drewN q) os' := by
  have hcon := fun W' => Try.cmp_Compare_int x.at_ y.at_ W'
  unfold cmpE
  generalize Lib.compareInt x.at_ y.at_ = r at hcon ⊢
  go_enter Try.func93, Try.ntmps93
  go_wp2_with (go_at_call 50; refine (hcon _).mono ?_; rintro e w' ⟨rfl, rfl⟩)
  go_ret
  exact ⟨rfl, 0, _, by rw [alloc_eq_grow, alloc_eq_grow, grow_grow]; rfl⟩
theorem cmpLays93 (blk off size : Nat) (w : World) : CmpLays Try.prog 93 #[] eV 3 cmpE blk off size w :=
  fun _ _ _ _ x y => closure93 x y _
abbrev c92 : Trans := sortKT eV 3 93 cmpE
theorem c92_ok [Inp] : Contract Try.prog 92 false c92 := by
  have eg : ∀ args w, (callFunc 93 args).run Try.prog w = .ok (.enter 93 args) w := enters_of Try.func93 (by kernel_rfl) rfl
  refine sortK_native (f := 92) (g := 93) (cf := cmpE) eV_len ⟨_, Try.func92, by kernel_rfl, by kernel_rfl⟩ (fun blk off cap d w hH hblk hsz => ?_) (fun p cap w => ?_)
  · exact AnyQ.slices_SortFunc Try.sortEdge 3 Try.isAgg140 Try.sizeOf140 eV eV_len (fun x v hv => by simp [eV] at hv; rcases hv with rfl | rfl | rfl <;> rfl) cmpE swoE 93 #[] blk off cap d w eg (cmpLays93 blk off d.size w) hH hblk hsz
  · exact AnyF.slices_SortFunc_none Try.sortEdge p cap _ w
end Rc
end Go.Proofs.Ytcejgadbpahbmaa
end
section
namespace Go.Proofs.Ytcejgadbpahbmaa.Ra
def insE (x : Ed) : List Ed → List Ed
  | [] => [x]
  | y :: l => if x.at_ ≤ y.at_ then x :: y :: l else y :: insE x l
def istE : List Ed → List Ed
  | [] => []
  | x :: l => insE x (istE l)
theorem insE_perm (x : Ed) : ∀ l, (insE x l).Perm (x :: l)
  | [] => List.Perm.refl _
  | y :: l => by
    unfold insE
    split
    · exact List.Perm.refl _
    · exact ((insE_perm x l).cons y).trans (List.Perm.swap x y l)
theorem insE_sorted {x : Ed} : ∀ {l : List Ed}, (l.Pairwise fun e f => e.at_ ≤ f.at_) → (insE x l).Pairwise fun e f => e.at_ ≤ f.at_
  | [], _ => by simp [insE]
  | y :: l, h => by
    rw [List.pairwise_cons] at h
    unfold insE
    split
    · rename_i hxy
      rw [List.pairwise_cons, List.pairwise_cons]
      refine ⟨fun z hz => ?_, h.1, h.2⟩
      rcases List.mem_cons.1 hz with rfl | hz
      · exact hxy
      · have := h.1 z hz; omega
    · rename_i hxy
      rw [List.pairwise_cons]
      refine ⟨fun z hz => ?_, insE_sorted h.2⟩
      rcases List.mem_cons.1 ((insE_perm x l).mem_iff.1 hz) with rfl | hz
      · omega
      · exact h.1 z hz
theorem istE_ok : ∀ l, ((istE l).Pairwise fun e f => e.at_ ≤ f.at_) ∧ (istE l).Perm l
  | [] => ⟨by simp [istE], List.Perm.refl _⟩
  | x :: l => ⟨insE_sorted (istE_ok l).1, (insE_perm x _).trans ((istE_ok l).2.cons x)⟩
def swp (T : Bool → Bool → Bool) (a b : List Rg) : List Rg := sw T (istE (edges a false ++ edges b true)) (edges a false ++ edges b true).length
theorem swp_set {T : Bool → Bool → Bool} (hT : T false false = false) (a b : List Rg) : isSet T a b (swp T a b) := by
  have h := istE_ok (edges a false ++ edges b true)
  have hl : (edges a false ++ edges b true).length = (istE (edges a false ++ edges b true)).length := h.2.length_eq.symm
  unfold swp
  rw [hl]
  exact sweep_ok hT h.2 h.1
theorem sw_swp {T : Bool → Bool → Bool} (hT : T false false = false) {a b : List Rg} {es : List Ed} (hp : es.Perm (edges a false ++ edges b true)) (hs : es.Pairwise fun e f => e.at_ ≤ f.at_) : sw T es es.length = swp T a b :=
  isSet_eq (sweep_ok hT hp hs) (swp_set hT a b)
theorem setTo_len (out : List Rg) (x : Int) : (setTo out x).length = out.length := by
  rcases List.eq_nil_or_concat out with rfl | ⟨D, r, rfl⟩
  · rfl
  · rw [List.concat_eq_append, setTo_app]; simp
theorem stepO_len (out : List Rg) (x : Int) (i : Bool) : (stepO out x i).length ≤ out.length + 1 := by
  unfold stepO
  split
  · split
    · rw [setTo_len]; omega
    · simp
  · split
    · rw [setTo_len]; omega
    · omega
theorem sw_len (T : Bool → Bool → Bool) (es : List Ed) : ∀ i, (sw T es i).length ≤ i
  | 0 => Nat.le_refl _
  | i + 1 => by
    have ih := sw_len T es i
    unfold sw
    split
    · omega
    · split
      · have := stepO_len (sw T es i) (by assumption : Ed).at_
        exact Nat.le_trans (this _) (by omega)
      · omega
theorem edg_len (b : Bool) (r : Rg) : (edg b r).length ≤ 2 := by unfold edg; split <;> simp
theorem edges_len (l : List Rg) (b : Bool) : (edges l b).length ≤ 2 * l.length := by
  induction l with
  | nil => simp [edges]
  | cons r l ih =>
    have : edges (r :: l) b = edg b r ++ edges l b := rfl
    rw [this, List.length_append, List.length_cons]
    have := edg_len b r
    omega
theorem swp_len (T : Bool → Bool → Bool) (a b : List Rg) : (swp T a b).length ≤ 2 * (a.length + b.length) := by
  have h := sw_len T (istE (edges a false ++ edges b true)) (edges a false ++ edges b true).length
  have h1 := edges_len a false
  have h2 := edges_len b true
  rw [List.length_append] at h
  unfold swp
  rw [List.length_append]
  omega
theorem sw_skip {T : Bool → Bool → Bool} {es : List Ed} {i : Nat} (h : nxt es i = true) : sw T es (i + 1) = sw T es i := by
  rw [sw, if_pos h]
theorem sw_step {T : Bool → Bool → Bool} {es : List Ed} {i : Nat} {e : Ed} (h : nxt es i = false) (he : es[i]? = some e) : sw T es (i + 1) = stepO (sw T es i) e.at_ (T (decide (0 < dep (es.take (i + 1)) false)) (decide (0 < dep (es.take (i + 1)) true))) := by
  rw [sw, if_neg (by rw [h]; simp), he]
theorem step_nil {x : Int} {i : Bool} : stepO [] x i = if i = true then [⟨x, Mx + 1⟩] else [] := by
  unfold stepO opn endAt
  cases i <;> simp
theorem step_app {D : List Rg} {r : Rg} {x : Int} {i : Bool} : stepO (D ++ [r]) x i = if i = true then (if x < r.to then D ++ [r] else if r.to = x then D ++ [⟨r.fr, Mx + 1⟩] else D ++ [r] ++ [⟨x, Mx + 1⟩]) else (if x < r.to then D ++ [⟨r.fr, x⟩] else D ++ [r]) := by
  unfold stepO opn endAt
  rw [last_app, setTo_app, setTo_app]
  by_cases h : x < r.to <;> cases i <;> simp [h]
theorem edg_up (b : Bool) (r : Rg) : ∀ e ∈ edg b r, -1 ≤ e.up ∧ e.up ≤ 1 := fun e he => by
  unfold edg at he
  split at he
  · rcases List.mem_cons.1 he with rfl | he
    · exact ⟨by simp, by simp⟩
    · rw [List.mem_singleton.1 he]; exact ⟨by simp, by simp⟩
  · simp at he
theorem edges_up (l : List Rg) (b : Bool) : ∀ e ∈ edges l b, -1 ≤ e.up ∧ e.up ≤ 1 := fun e he => by
  obtain ⟨r, _, h⟩ := List.mem_flatMap.1 he
  exact edg_up b r e h
theorem dep_bnd {es : List Ed} (h : ∀ e ∈ es, -1 ≤ e.up ∧ e.up ≤ 1) (b : Bool) : -(es.length : Int) ≤ dep es b ∧ dep es b ≤ es.length := by
  induction es with
  | nil => simp [dep]
  | cons e es ih =>
    rw [dep_cons, List.length_cons]
    have h1 := ih fun x hx => h x (List.mem_cons_of_mem _ hx)
    have h2 := h e List.mem_cons_self
    split <;> omega
theorem dep_snoc {es : List Ed} {i : Nat} {e : Ed} (h : es[i]? = some e) (b : Bool) : dep (es.take (i + 1)) b = dep (es.take i) b + if e.sec = b then e.up else 0 := by
  rw [List.take_add_one, h, dep_app]
  congr 1
  simp [dep]
end Go.Proofs.Ytcejgadbpahbmaa.Ra
end
section
namespace Go.Proofs.Ytcejgadbpahbmaa
open Go.RowKit Sz
set_option maxHeartbeats 16000000
set_option maxRecDepth 20000
namespace Rc
theorem findM_snd (key : Value) : ∀ (ps : List (Value × SV)) (n k : Nat), (findM key n ps).map (·.2) = (findM key k ps).map (·.2)
  | [], n, k => rfl
  | p :: ps, n, k => by
    unfold findM
    cases keq key p.1
    · exact findM_snd key ps _ _
    · rfl
theorem getM_nil (key : Value) : getM key [] = none := rfl
theorem getM_cons (key : Value) (p : Value × SV) (ps : List (Value × SV)) : getM key (p :: ps) = if keq key p.1 = true then some p.2 else getM key ps := by
  unfold getM
  rw [findM]
  cases h : keq key p.1
  · simp only [cond_false, Bool.false_eq_true, if_false]
    exact findM_snd key ps _ _
  · simp
theorem keq_bool {b : Bool} {v : Value} (h : keq (.bool b) v = true) : v = .bool b := by
  cases v <;> simp_all [keq]
theorem keq_bb (b c : Bool) : keq (.bool b) (.bool c) = (b == c) := rfl
theorem getM_put (b c : Bool) (y : SV) : ∀ ps : List (Value × SV), getM (.bool b) (putM (.bool c) y ps) = if b = c then some y else getM (.bool b) ps
  | [] => by
    rw [putM, getM_cons, getM_nil, keq_bb]
    simp
  | p :: ps => by
    rw [putM]
    cases h : keq (.bool c) p.1
    · rw [cond_false, getM_cons, getM_cons, getM_put b c y ps]
      by_cases hb : b = c
      · subst hb
        simp [h]
      · simp [hb]
    · rw [cond_true, getM_cons, getM_cons, keq_bool h, keq_bb]
      by_cases hb : b = c <;> simp [hb]
theorem mle_put {g : List Nat} (key : Value) (z : Value) : ∀ {ps : List (Value × SV)}, MLe g ps ps → MLe g (putM key (.v z) ps) (putM key (.v z) ps)
  | [], _ => by simp [putM, MLe, Le]
  | p :: ps, h => by
    simp only [MLe] at h
    rw [putM]
    cases keq key p.1
    · simp only [cond_false, MLe]
      exact ⟨trivial, h.2.1, mle_put key z h.2.2⟩
    · simp only [cond_true, MLe, Le]
      exact ⟨trivial, trivial, h.2.2⟩
def vMap (ps : List (Value × SV)) (D : Bool → Int) : Prop := (∀ b, lookR false (.v (.int .i64 0)) (getM (.bool b) ps) = .v (.int .i64 (D b))) ∧ ∀ g, MLe g ps ps
theorem vMap_nil : vMap [] fun _ => 0 := ⟨fun b => rfl, fun g => by simp [MLe]⟩
theorem vMap_put {ps : List (Value × SV)} {D : Bool → Int} (h : vMap ps D) (c : Bool) (y : Int) : vMap (putM (.bool c) (.v (.int .i64 y)) ps) fun b => if b = c then y else D b := by
  refine ⟨fun b => ?_, fun g => mle_put _ _ (h.2 g)⟩
  rw [getM_put]
  by_cases hb : b = c
  · simp [hb, lookR]
  · simp only [hb, if_false]
    exact h.1 b
def trT (T : Bool → Bool → Bool) : Trans := fun args m k => ∃ p q : Bool, args = [.v (.bool p), .v (.bool q)] ∧ k (.v (.bool (T p q))) m
theorem aT {T : Bool → Bool → Bool} {p q : Bool} {m : Mem} {k : SV → Mem → Prop} : trT T [.v (.bool p), .v (.bool q)] m k = k (.v (.bool (T p q))) m := by
  unfold trT
  refine propext ⟨fun h => ?_, fun h => ⟨p, q, rfl, h⟩⟩
  obtain ⟨p', q', e, h⟩ := h
  injection e with e1 e2
  injection e2 with e2 _
  injection e1 with e1
  injection e1 with e1
  injection e2 with e2
  injection e2 with e2
  rw [e1, e2]
  exact h
-- almshouse/ranges.With$1 (2 parameters)
def x59 : XC := (.seq (.tree (.seq ⟨some 4, none, (.ofA (.mv (.cst (.v (.bool false)))))⟩
 .done))
 (.seq (.tree (.seq ⟨some 5, none, (.ofA (.mv (.tmp 0)))⟩
 (.seq ⟨some 6, none, (.ofA (.mv (.tmp 5)))⟩
 (.seq ⟨some 7, some (6, false), (.ofA (.mv (.tmp 1)))⟩
 (.seq ⟨some 8, none, (.ofA (.pick (.tmp 6) (.cst (.v (.bool true))) (.tmp 7)))⟩
 (.seq ⟨some 4, none, (.ofA (.mv (.tmp 8)))⟩
 .done))))))
 .ret))
def r59 : List XR := [.tmp 4]
theorem fn59 : FnX Try.prog 59 [92] 9 x59 r59 := ⟨_, Try.func59, by kernel_rfl, by kernel_rfl, by kernel_rfl, by kernel_rfl⟩
-- almshouse/ranges.But$1 (2 parameters)
def x60 : XC := (.seq (.tree (.seq ⟨some 4, none, (.ofA (.mv (.cst (.v (.bool false)))))⟩
 .done))
 (.seq (.tree (.seq ⟨some 5, none, (.ofA (.mv (.tmp 0)))⟩
 (.seq ⟨some 6, none, (.ofA (.mv (.tmp 5)))⟩
 (.seq ⟨some 7, some (6, true), (.ofA (.mv (.tmp 1)))⟩
 (.seq ⟨some 8, some (6, true), (.ofA (.un .not (.tmp 7)))⟩
 (.seq ⟨some 9, none, (.ofA (.pick (.tmp 6) (.tmp 8) (.cst (.v (.bool false)))))⟩
 (.seq ⟨some 4, none, (.ofA (.mv (.tmp 9)))⟩
 .done)))))))
 .ret))
def r60 : List XR := [.tmp 4]
theorem fn60 : FnX Try.prog 60 [92] 10 x60 r60 := ⟨_, Try.func60, by kernel_rfl, by kernel_rfl, by kernel_rfl, by kernel_rfl⟩
-- almshouse/ranges.Both$1 (2 parameters)
theorem c59_ok [Inp] : Contract Try.prog 59 true (trT Ra.tOr) := by
  refine .plainArgs fn59 (g0 _) _ fun args m k h => ?_
  obtain ⟨p, q, rfl, hk⟩ := h
  refine ⟨by simp [plainL, SV.plain], by simp, ?_⟩
  simp (maxSteps := 2000000) -implicitDefEqProofs only [↓x59, ↓r59, s_alt, s_alt20, s_alt2t, s_alt2f, ↓s_loopi, ↓v_pq, ↓PRE, POST, CORE, Nat.reduceDiv, Nat.reduceMod, Int.reduceLT, Int.reduceLE, Int.reduceToNat, Int.reduceAdd, ↓reduceIte, Nat.reduceEqDiff, Nat.reduceAdd, Nat.reduceMul, Nat.reduceSub, Nat.reduceLeDiff, Nat.reduceLT, reduceCtorEq, if_true, eq_self, forall_const, implies_true]
  cases p <;> exact hk
theorem c60_ok [Inp] : Contract Try.prog 60 true (trT Ra.tBut) := by
  refine .plainArgs fn60 (g0 _) _ fun args m k h => ?_
  obtain ⟨p, q, rfl, hk⟩ := h
  refine ⟨by simp [plainL, SV.plain], by simp, ?_⟩
  cases p
  · simp (maxSteps := 2000000) -implicitDefEqProofs only [↓x60, ↓r60, s_alt, s_alt20, s_alt2t, s_alt2f, ↓s_loopi, ↓v_pq, ↓PRE, POST, CORE, Nat.reduceDiv, Nat.reduceMod, Int.reduceLT, Int.reduceLE, Int.reduceToNat, Int.reduceAdd, ↓reduceIte, Nat.reduceEqDiff, Nat.reduceAdd, Nat.reduceMul, Nat.reduceSub, Nat.reduceLeDiff, Nat.reduceLT, reduceCtorEq, if_true, eq_self, forall_const, implies_true]
    exact hk
  · simp (maxSteps := 2000000) -implicitDefEqProofs only [↓x60, ↓r60, s_alt, s_alt20, s_alt2t, s_alt2f, ↓s_loopi, ↓v_pq, ↓PRE, POST, CORE, Nat.reduceDiv, Nat.reduceMod, Int.reduceLT, Int.reduceLE, Int.reduceToNat, Int.reduceAdd, ↓reduceIte, Nat.reduceEqDiff, Nat.reduceAdd, Nat.reduceMul, Nat.reduceSub, Nat.reduceLeDiff, Nat.reduceLT, reduceCtorEq, if_true, eq_self, forall_const, implies_true]
    exact hk
-- almshouse/ranges.sweep (3 parameters)
def x58 : XC := (.seq (.tree (.seq ⟨some 6, none, (.ofA (.mv (.cst (.v (.slice none 0 0)))))⟩
 .done))
 (.seq (.tree (.seq ⟨some 15, none, (.ofA (.mv (.tmp 0)))⟩
 (.seq ⟨some 16, none, (.call (.cst (.fn 91 [])) [(.tmp 15), (.cst (.v (.bool false)))])⟩
 (.seq ⟨some 17, none, (.ofA (.mv (.tmp 1)))⟩
 (.seq ⟨some 18, none, (.call (.cst (.fn 91 [])) [(.tmp 17), (.cst (.v (.bool true)))])⟩
 (.seq ⟨some 19, none, (.app 3 24 (.tmp 16) (.tmp 18))⟩
 (.seq ⟨some 7, none, (.ofA (.mv (.tmp 19)))⟩
 .done)))))))
 (.seq (.tree (.seq ⟨some 20, none, (.ofA (.mv (.tmp 7)))⟩
 (.seq ⟨some 21, none, (.call (.cst (.fn 92 [])) [(.tmp 20), (.cst (.fn 93 []))])⟩
 .done)))
 (.seq (.tree (.seq ⟨some 8, none, (.ofA (.mv (.cst (.v (.slice none 0 0)))))⟩
 .done))
 (.seq (.tree (.seq ⟨some 22, none, (.mkMap .bool)⟩
 (.seq ⟨some 9, none, (.ofA (.mv (.tmp 22)))⟩
 .done)))
 (.seq (.seq (.tree (.seq ⟨some 23, none, (.ofA (.mv (.tmp 7)))⟩
 (.seq ⟨some 24, none, (.ofA (.len (.tmp 23)))⟩
 (.seq ⟨some 25, none, (.ofA (.mv (.cst (.v (.int .i64 0)))))⟩
 .done))))
 (.block 0 (.loop (.seq (.tree (.seq ⟨some 26, none, (.ofA (.bin .lss (.tmp 25) (.tmp 24)))⟩
 .done))
 (.seq (.cond (.tmp 26)
 .skip
 (.exit 0))
 (.seq (.block 1 (.seq (.tree (.seq ⟨some 27, none, (.ofA (.mv (.tmp 25)))⟩
 (.seq ⟨some 28, none, (.ofA (.isl 3 (.tmp 23) (.tmp 25)))⟩
 (.seq ⟨some 29, none, (.ofA (.load (some 3) (.tmp 28)))⟩
 (.seq ⟨some 11, none, (.alloc [(.v (.int .i64 0)), (.v (.int .i64 0)), (.v (.bool false))])⟩
 (.seq ⟨some 10, none, (.ofA (.mv (.tmp 27)))⟩
 (.seq ⟨none, none, (.store 3 (.tmp 11) (.tmp 29))⟩
 .done)))))))
 (.seq (.tree (.seq ⟨some 30, none, (.ofA (.mv (.tmp 9)))⟩
 (.seq ⟨some 31, none, (.ofA (.faddr 2 (.tmp 11)))⟩
 (.seq ⟨some 32, none, (.ofA (.load none (.tmp 31)))⟩
 (.seq ⟨some 33, none, (.ofA (.look .bool (.v (.int .i64 0)) false (.tmp 30) (.tmp 32)))⟩
 (.seq ⟨some 34, none, (.ofA (.faddr 1 (.tmp 11)))⟩
 (.seq ⟨some 35, none, (.ofA (.load none (.tmp 34)))⟩
 (.seq ⟨some 36, none, (.ofA (.bin .add (.tmp 33) (.tmp 35)))⟩
 (.seq ⟨none, none, (.mapUpd .bool (.tmp 30) (.tmp 32) (.tmp 36))⟩
 .done)))))))))
 (.seq (.seq (.tree (.take ⟨some 37, none, (.ofA (.mv (.tmp 10)))⟩
 (.take ⟨some 38, none, (.ofA (.bin .add (.tmp 37) (.cst (.v (.int .i64 1)))))⟩
 (.take ⟨some 39, none, (.ofA (.mv (.tmp 7)))⟩
 (.take ⟨some 40, none, (.ofA (.len (.tmp 39)))⟩
 (.take ⟨some 41, none, (.ofA (.bin .lss (.tmp 38) (.tmp 40)))⟩
 (.take ⟨some 42, none, (.ofA (.mv (.tmp 41)))⟩
 (.take ⟨some 43, some (42, true), (.ofA (.mv (.tmp 7)))⟩
 (.take ⟨some 44, some (42, true), (.ofA (.mv (.tmp 10)))⟩
 (.take ⟨some 45, some (42, true), (.ofA (.bin .add (.tmp 44) (.cst (.v (.int .i64 1)))))⟩
 (.take ⟨some 46, some (42, true), (.ofA (.isl 3 (.tmp 43) (.tmp 45)))⟩
 (.take ⟨some 47, some (42, true), (.ofA (.faddr 0 (.tmp 46)))⟩
 (.take ⟨some 48, some (42, true), (.ofA (.load none (.tmp 47)))⟩
 (.take ⟨some 49, some (42, true), (.ofA (.faddr 0 (.tmp 11)))⟩
 (.take ⟨some 50, some (42, true), (.ofA (.load none (.tmp 49)))⟩
 (.take ⟨some 51, some (42, true), (.ofA (.bin .eql (.tmp 48) (.tmp 50)))⟩
 (.take ⟨some 52, none, (.ofA (.pick (.tmp 42) (.tmp 51) (.cst (.v (.bool false)))))⟩
 .done)))))))))))))))))
 (.cond (.tmp 52)
 (.exit 1)
 .skip))
 (.seq (.tree (.seq ⟨some 53, none, (.ofA (.mv (.tmp 2)))⟩
 (.seq ⟨some 54, none, (.ofA (.mv (.tmp 9)))⟩
 (.seq ⟨some 55, none, (.ofA (.look .bool (.v (.int .i64 0)) false (.tmp 54) (.cst (.v (.bool false)))))⟩
 (.seq ⟨some 56, none, (.ofA (.bin .gtr (.tmp 55) (.cst (.v (.int .i64 0)))))⟩
 (.seq ⟨some 57, none, (.ofA (.mv (.tmp 9)))⟩
 (.seq ⟨some 58, none, (.ofA (.look .bool (.v (.int .i64 0)) false (.tmp 57) (.cst (.v (.bool true)))))⟩
 (.seq ⟨some 59, none, (.ofA (.bin .gtr (.tmp 58) (.cst (.v (.int .i64 0)))))⟩
 (.seq ⟨some 60, none, (.call (.tmp 53) [(.tmp 56), (.tmp 59)])⟩
 (.seq ⟨some 61, none, (.ofA (.mv (.tmp 8)))⟩
 (.seq ⟨some 62, none, (.ofA (.len (.tmp 61)))⟩
 (.seq ⟨some 63, none, (.ofA (.bin .sub (.tmp 62) (.cst (.v (.int .i64 1)))))⟩
 (.seq ⟨some 12, none, (.ofA (.mv (.tmp 60)))⟩
 (.seq ⟨some 13, none, (.ofA (.mv (.tmp 63)))⟩
 .done))))))))))))))
 (.seq (.tree (.take ⟨some 64, none, (.ofA (.mv (.tmp 13)))⟩
 (.take ⟨some 65, none, (.ofA (.bin .geq (.tmp 64) (.cst (.v (.int .i64 0)))))⟩
 (.take ⟨some 66, none, (.ofA (.mv (.tmp 65)))⟩
 (.take ⟨some 67, some (66, true), (.ofA (.mv (.tmp 8)))⟩
 (.take ⟨some 68, some (66, true), (.ofA (.mv (.tmp 13)))⟩
 (.take ⟨some 69, some (66, true), (.ofA (.isl 2 (.tmp 67) (.tmp 68)))⟩
 (.take ⟨some 70, some (66, true), (.ofA (.faddr 1 (.tmp 69)))⟩
 (.take ⟨some 71, some (66, true), (.ofA (.load none (.tmp 70)))⟩
 (.take ⟨some 72, some (66, true), (.ofA (.faddr 0 (.tmp 11)))⟩
 (.take ⟨some 73, some (66, true), (.ofA (.load none (.tmp 72)))⟩
 (.take ⟨some 74, some (66, true), (.ofA (.bin .gtr (.tmp 71) (.tmp 73)))⟩
 (.take ⟨some 75, none, (.ofA (.pick (.tmp 66) (.tmp 74) (.cst (.v (.bool false)))))⟩
 (.take ⟨some 14, none, (.ofA (.mv (.tmp 75)))⟩
 .done))))))))))))))
 (.block 2 (.seq (.tree (.seq ⟨some 77, none, (.ofA (.mv (.tmp 12)))⟩
 (.seq ⟨some 78, none, (.ofA (.mv (.tmp 77)))⟩
 (.seq ⟨some 79, some (78, true), (.ofA (.mv (.tmp 14)))⟩
 (.seq ⟨some 80, some (78, true), (.ofA (.un .not (.tmp 79)))⟩
 (.seq ⟨some 81, none, (.ofA (.pick (.tmp 78) (.tmp 80) (.cst (.v (.bool false)))))⟩
 (.seq ⟨some 76, none, (.ofA (.mv (.tmp 81)))⟩
 .done)))))))
 (.cond (.tmp 76)
 (.seq (.tree (.take ⟨some 82, none, (.ofA (.mv (.tmp 13)))⟩
 (.take ⟨some 83, none, (.ofA (.bin .geq (.tmp 82) (.cst (.v (.int .i64 0)))))⟩
 (.take ⟨some 84, none, (.ofA (.mv (.tmp 83)))⟩
 (.take ⟨some 85, some (84, true), (.ofA (.mv (.tmp 8)))⟩
 (.take ⟨some 86, some (84, true), (.ofA (.mv (.tmp 13)))⟩
 (.take ⟨some 87, some (84, true), (.ofA (.isl 2 (.tmp 85) (.tmp 86)))⟩
 (.take ⟨some 88, some (84, true), (.ofA (.faddr 1 (.tmp 87)))⟩
 (.take ⟨some 89, some (84, true), (.ofA (.load none (.tmp 88)))⟩
 (.take ⟨some 90, some (84, true), (.ofA (.faddr 0 (.tmp 11)))⟩
 (.take ⟨some 91, some (84, true), (.ofA (.load none (.tmp 90)))⟩
 (.take ⟨some 92, some (84, true), (.ofA (.bin .eql (.tmp 89) (.tmp 91)))⟩
 (.take ⟨some 93, none, (.ofA (.pick (.tmp 84) (.tmp 92) (.cst (.v (.bool false)))))⟩
 .done)))))))))))))
 (.cond (.tmp 93)
 (.tree (.seq ⟨some 94, none, (.ofA (.mv (.tmp 8)))⟩
 (.seq ⟨some 95, none, (.ofA (.mv (.tmp 13)))⟩
 (.seq ⟨some 96, none, (.ofA (.isl 2 (.tmp 94) (.tmp 95)))⟩
 (.seq ⟨some 97, none, (.ofA (.faddr 1 (.tmp 96)))⟩
 (.seq ⟨none, none, (.store 1 (.tmp 97) (.cst (.v (.int .i64 1099511627777))))⟩
 .done))))))
 (.tree (.seq ⟨some 98, none, (.ofA (.mv (.tmp 8)))⟩
 (.seq ⟨some 99, none, (.ofA (.faddr 0 (.tmp 11)))⟩
 (.seq ⟨some 100, none, (.ofA (.load none (.tmp 99)))⟩
 (.seq ⟨some 101, none, (.build [(.v (.int .i64 0)), (.v (.int .i64 0))] [(0, 1, (.tmp 100)), (1, 1, (.cst (.v (.int .i64 1099511627777))))])⟩
 (.seq ⟨some 102, none, (.buildSl 2 1 [(.v (.int .i64 0)), (.v (.int .i64 0))] [(0, 2, (.tmp 101))])⟩
 (.seq ⟨some 103, none, (.app 2 16 (.tmp 98) (.tmp 102))⟩
 (.seq ⟨some 8, none, (.ofA (.mv (.tmp 103)))⟩
 .done))))))))))
 (.seq (.tree (.seq ⟨some 105, none, (.ofA (.mv (.tmp 12)))⟩
 (.seq ⟨some 106, none, (.ofA (.un .not (.tmp 105)))⟩
 (.seq ⟨some 107, none, (.ofA (.mv (.tmp 106)))⟩
 (.seq ⟨some 108, some (107, true), (.ofA (.mv (.tmp 14)))⟩
 (.seq ⟨some 109, none, (.ofA (.pick (.tmp 107) (.tmp 108) (.cst (.v (.bool false)))))⟩
 (.seq ⟨some 104, none, (.ofA (.mv (.tmp 109)))⟩
 .done)))))))
 (.cond (.tmp 104)
 (.tree (.seq ⟨some 110, none, (.ofA (.mv (.tmp 8)))⟩
 (.seq ⟨some 111, none, (.ofA (.mv (.tmp 13)))⟩
 (.seq ⟨some 112, none, (.ofA (.faddr 0 (.tmp 11)))⟩
 (.seq ⟨some 113, none, (.ofA (.load none (.tmp 112)))⟩
 (.seq ⟨some 114, none, (.ofA (.isl 2 (.tmp 110) (.tmp 111)))⟩
 (.seq ⟨some 115, none, (.ofA (.faddr 1 (.tmp 114)))⟩
 (.seq ⟨none, none, (.store 1 (.tmp 115) (.tmp 113))⟩
 .done))))))))
 .skip)))))))))))
 (.tree (.seq ⟨some 116, none, (.ofA (.bin .add (.tmp 25) (.cst (.v (.int .i64 1)))))⟩
 (.seq ⟨some 25, none, (.ofA (.mv (.tmp 116)))⟩
 .done)))))))))
 (.seq (.tree (.seq ⟨some 117, none, (.ofA (.mv (.tmp 8)))⟩
 (.seq ⟨some 6, none, (.ofA (.mv (.tmp 117)))⟩
 .done)))
 .ret)))))))
def r58 : List XR := [.tmp 6]
theorem fn58 : FnX Try.prog 58 [92] 118 x58 r58 := ⟨_, Try.func58, by kernel_rfl, by kernel_rfl, by kernel_rfl, by kernel_rfl⟩
def body58 : XC := (.seq (.tree (.seq ⟨some 26, none, (.ofA (.bin .lss (.tmp 25) (.tmp 24)))⟩
 .done))
 (.seq (.cond (.tmp 26)
 .skip
 (.exit 0))
 (.seq (.block 1 (.seq (.tree (.seq ⟨some 27, none, (.ofA (.mv (.tmp 25)))⟩
 (.seq ⟨some 28, none, (.ofA (.isl 3 (.tmp 23) (.tmp 25)))⟩
 (.seq ⟨some 29, none, (.ofA (.load (some 3) (.tmp 28)))⟩
 (.seq ⟨some 11, none, (.alloc [(.v (.int .i64 0)), (.v (.int .i64 0)), (.v (.bool false))])⟩
 (.seq ⟨some 10, none, (.ofA (.mv (.tmp 27)))⟩
 (.seq ⟨none, none, (.store 3 (.tmp 11) (.tmp 29))⟩
 .done)))))))
 (.seq (.tree (.seq ⟨some 30, none, (.ofA (.mv (.tmp 9)))⟩
 (.seq ⟨some 31, none, (.ofA (.faddr 2 (.tmp 11)))⟩
 (.seq ⟨some 32, none, (.ofA (.load none (.tmp 31)))⟩
 (.seq ⟨some 33, none, (.ofA (.look .bool (.v (.int .i64 0)) false (.tmp 30) (.tmp 32)))⟩
 (.seq ⟨some 34, none, (.ofA (.faddr 1 (.tmp 11)))⟩
 (.seq ⟨some 35, none, (.ofA (.load none (.tmp 34)))⟩
 (.seq ⟨some 36, none, (.ofA (.bin .add (.tmp 33) (.tmp 35)))⟩
 (.seq ⟨none, none, (.mapUpd .bool (.tmp 30) (.tmp 32) (.tmp 36))⟩
 .done)))))))))
 (.seq (.seq (.tree (.take ⟨some 37, none, (.ofA (.mv (.tmp 10)))⟩
 (.take ⟨some 38, none, (.ofA (.bin .add (.tmp 37) (.cst (.v (.int .i64 1)))))⟩
 (.take ⟨some 39, none, (.ofA (.mv (.tmp 7)))⟩
 (.take ⟨some 40, none, (.ofA (.len (.tmp 39)))⟩
 (.take ⟨some 41, none, (.ofA (.bin .lss (.tmp 38) (.tmp 40)))⟩
 (.take ⟨some 42, none, (.ofA (.mv (.tmp 41)))⟩
 (.take ⟨some 43, some (42, true), (.ofA (.mv (.tmp 7)))⟩
 (.take ⟨some 44, some (42, true), (.ofA (.mv (.tmp 10)))⟩
 (.take ⟨some 45, some (42, true), (.ofA (.bin .add (.tmp 44) (.cst (.v (.int .i64 1)))))⟩
 (.take ⟨some 46, some (42, true), (.ofA (.isl 3 (.tmp 43) (.tmp 45)))⟩
 (.take ⟨some 47, some (42, true), (.ofA (.faddr 0 (.tmp 46)))⟩
 (.take ⟨some 48, some (42, true), (.ofA (.load none (.tmp 47)))⟩
 (.take ⟨some 49, some (42, true), (.ofA (.faddr 0 (.tmp 11)))⟩
 (.take ⟨some 50, some (42, true), (.ofA (.load none (.tmp 49)))⟩
 (.take ⟨some 51, some (42, true), (.ofA (.bin .eql (.tmp 48) (.tmp 50)))⟩
 (.take ⟨some 52, none, (.ofA (.pick (.tmp 42) (.tmp 51) (.cst (.v (.bool false)))))⟩
 .done)))))))))))))))))
 (.cond (.tmp 52)
 (.exit 1)
 .skip))
 (.seq (.tree (.seq ⟨some 53, none, (.ofA (.mv (.tmp 2)))⟩
 (.seq ⟨some 54, none, (.ofA (.mv (.tmp 9)))⟩
 (.seq ⟨some 55, none, (.ofA (.look .bool (.v (.int .i64 0)) false (.tmp 54) (.cst (.v (.bool false)))))⟩
 (.seq ⟨some 56, none, (.ofA (.bin .gtr (.tmp 55) (.cst (.v (.int .i64 0)))))⟩
 (.seq ⟨some 57, none, (.ofA (.mv (.tmp 9)))⟩
 (.seq ⟨some 58, none, (.ofA (.look .bool (.v (.int .i64 0)) false (.tmp 57) (.cst (.v (.bool true)))))⟩
 (.seq ⟨some 59, none, (.ofA (.bin .gtr (.tmp 58) (.cst (.v (.int .i64 0)))))⟩
 (.seq ⟨some 60, none, (.call (.tmp 53) [(.tmp 56), (.tmp 59)])⟩
 (.seq ⟨some 61, none, (.ofA (.mv (.tmp 8)))⟩
 (.seq ⟨some 62, none, (.ofA (.len (.tmp 61)))⟩
 (.seq ⟨some 63, none, (.ofA (.bin .sub (.tmp 62) (.cst (.v (.int .i64 1)))))⟩
 (.seq ⟨some 12, none, (.ofA (.mv (.tmp 60)))⟩
 (.seq ⟨some 13, none, (.ofA (.mv (.tmp 63)))⟩
 .done))))))))))))))
 (.seq (.tree (.take ⟨some 64, none, (.ofA (.mv (.tmp 13)))⟩
 (.take ⟨some 65, none, (.ofA (.bin .geq (.tmp 64) (.cst (.v (.int .i64 0)))))⟩
 (.take ⟨some 66, none, (.ofA (.mv (.tmp 65)))⟩
 (.take ⟨some 67, some (66, true), (.ofA (.mv (.tmp 8)))⟩
 (.take ⟨some 68, some (66, true), (.ofA (.mv (.tmp 13)))⟩
 (.take ⟨some 69, some (66, true), (.ofA (.isl 2 (.tmp 67) (.tmp 68)))⟩
 (.take ⟨some 70, some (66, true), (.ofA (.faddr 1 (.tmp 69)))⟩
 (.take ⟨some 71, some (66, true), (.ofA (.load none (.tmp 70)))⟩
 (.take ⟨some 72, some (66, true), (.ofA (.faddr 0 (.tmp 11)))⟩
 (.take ⟨some 73, some (66, true), (.ofA (.load none (.tmp 72)))⟩
 (.take ⟨some 74, some (66, true), (.ofA (.bin .gtr (.tmp 71) (.tmp 73)))⟩
 (.take ⟨some 75, none, (.ofA (.pick (.tmp 66) (.tmp 74) (.cst (.v (.bool false)))))⟩
 (.take ⟨some 14, none, (.ofA (.mv (.tmp 75)))⟩
 .done))))))))))))))
 (.block 2 (.seq (.tree (.seq ⟨some 77, none, (.ofA (.mv (.tmp 12)))⟩
 (.seq ⟨some 78, none, (.ofA (.mv (.tmp 77)))⟩
 (.seq ⟨some 79, some (78, true), (.ofA (.mv (.tmp 14)))⟩
 (.seq ⟨some 80, some (78, true), (.ofA (.un .not (.tmp 79)))⟩
 (.seq ⟨some 81, none, (.ofA (.pick (.tmp 78) (.tmp 80) (.cst (.v (.bool false)))))⟩
 (.seq ⟨some 76, none, (.ofA (.mv (.tmp 81)))⟩
 .done)))))))
 (.cond (.tmp 76)
 (.seq (.tree (.take ⟨some 82, none, (.ofA (.mv (.tmp 13)))⟩
 (.take ⟨some 83, none, (.ofA (.bin .geq (.tmp 82) (.cst (.v (.int .i64 0)))))⟩
 (.take ⟨some 84, none, (.ofA (.mv (.tmp 83)))⟩
 (.take ⟨some 85, some (84, true), (.ofA (.mv (.tmp 8)))⟩
 (.take ⟨some 86, some (84, true), (.ofA (.mv (.tmp 13)))⟩
 (.take ⟨some 87, some (84, true), (.ofA (.isl 2 (.tmp 85) (.tmp 86)))⟩
 (.take ⟨some 88, some (84, true), (.ofA (.faddr 1 (.tmp 87)))⟩
 (.take ⟨some 89, some (84, true), (.ofA (.load none (.tmp 88)))⟩
 (.take ⟨some 90, some (84, true), (.ofA (.faddr 0 (.tmp 11)))⟩
 (.take ⟨some 91, some (84, true), (.ofA (.load none (.tmp 90)))⟩
 (.take ⟨some 92, some (84, true), (.ofA (.bin .eql (.tmp 89) (.tmp 91)))⟩
 (.take ⟨some 93, none, (.ofA (.pick (.tmp 84) (.tmp 92) (.cst (.v (.bool false)))))⟩
 .done)))))))))))))
 (.cond (.tmp 93)
 (.tree (.seq ⟨some 94, none, (.ofA (.mv (.tmp 8)))⟩
 (.seq ⟨some 95, none, (.ofA (.mv (.tmp 13)))⟩
 (.seq ⟨some 96, none, (.ofA (.isl 2 (.tmp 94) (.tmp 95)))⟩
 (.seq ⟨some 97, none, (.ofA (.faddr 1 (.tmp 96)))⟩
 (.seq ⟨none, none, (.store 1 (.tmp 97) (.cst (.v (.int .i64 1099511627777))))⟩
 .done))))))
 (.tree (.seq ⟨some 98, none, (.ofA (.mv (.tmp 8)))⟩
 (.seq ⟨some 99, none, (.ofA (.faddr 0 (.tmp 11)))⟩
 (.seq ⟨some 100, none, (.ofA (.load none (.tmp 99)))⟩
 (.seq ⟨some 101, none, (.build [(.v (.int .i64 0)), (.v (.int .i64 0))] [(0, 1, (.tmp 100)), (1, 1, (.cst (.v (.int .i64 1099511627777))))])⟩
 (.seq ⟨some 102, none, (.buildSl 2 1 [(.v (.int .i64 0)), (.v (.int .i64 0))] [(0, 2, (.tmp 101))])⟩
 (.seq ⟨some 103, none, (.app 2 16 (.tmp 98) (.tmp 102))⟩
 (.seq ⟨some 8, none, (.ofA (.mv (.tmp 103)))⟩
 .done))))))))))
 (.seq (.tree (.seq ⟨some 105, none, (.ofA (.mv (.tmp 12)))⟩
 (.seq ⟨some 106, none, (.ofA (.un .not (.tmp 105)))⟩
 (.seq ⟨some 107, none, (.ofA (.mv (.tmp 106)))⟩
 (.seq ⟨some 108, some (107, true), (.ofA (.mv (.tmp 14)))⟩
 (.seq ⟨some 109, none, (.ofA (.pick (.tmp 107) (.tmp 108) (.cst (.v (.bool false)))))⟩
 (.seq ⟨some 104, none, (.ofA (.mv (.tmp 109)))⟩
 .done)))))))
 (.cond (.tmp 104)
 (.tree (.seq ⟨some 110, none, (.ofA (.mv (.tmp 8)))⟩
 (.seq ⟨some 111, none, (.ofA (.mv (.tmp 13)))⟩
 (.seq ⟨some 112, none, (.ofA (.faddr 0 (.tmp 11)))⟩
 (.seq ⟨some 113, none, (.ofA (.load none (.tmp 112)))⟩
 (.seq ⟨some 114, none, (.ofA (.isl 2 (.tmp 110) (.tmp 111)))⟩
 (.seq ⟨some 115, none, (.ofA (.faddr 1 (.tmp 114)))⟩
 (.seq ⟨none, none, (.store 1 (.tmp 115) (.tmp 113))⟩
 .done))))))))
 .skip)))))))))))
 (.tree (.seq ⟨some 116, none, (.ofA (.bin .add (.tmp 25) (.cst (.v (.int .i64 1)))))⟩
 (.seq ⟨some 25, none, (.ofA (.mv (.tmp 116)))⟩
 .done))))))
def c58 [Inp] (g : FuncId) (T : Bool → Bool → Bool) : Trans := fun args m k => ∃ (s1 s2 : SV) (a b : List Ra.Rg), args = [s1, s2, .fn g []] ∧ rdG m s1 = some a ∧ rdG m s2 = some b ∧ a.length ≤ 10000 ∧ b.length ≤ 10000 ∧ k (rS m.length 2 (Ra.swp T a b).length) (m ++ rM (vL gV (Ra.swp T a b)))
def G58 [Inp] (g : FuncId) (T : Bool → Bool → Bool) : List CEntry := [⟨g, true, trT T⟩, ⟨91, true, c91⟩, ⟨92, false, c92⟩]
theorem g58 [Inp] {g : FuncId} {T : Bool → Bool → Bool} (h : Contract Try.prog g true (trT T)) : GOk Try.prog (G58 g T) := GOk.cons h (GOk.cons c91_ok (GOk.cons c92_ok (g0 _)))
theorem isKb {b : Bool} : isK .bool (.bool b) = true := rfl
def L58 (g : FuncId) (T : Bool → Bool → Bool) (es : List Ra.Ed) (x : Nat) (out : List Ra.Rg) : List (Nat × SV) := [(2, .fn g []), (7, .row 0 0 es.length 3), (8, oV 2 2 out.length), (9, .mp 1), (23, .row 0 0 es.length 3), (24, .v (.int .i64 (es.length : Int))), (25, .v (.int .i64 (x : Int)))]
def M58 (es : List Ra.Ed) (ps : List (Value × SV)) (out : List Ra.Rg) : Mem := [⟨true, vL eV es⟩, mapO .bool ps, oO (vL gV out)]
theorem obM {g : List Nat} {ps : List (Value × SV)} (h : MLe g ps ps) : ObLe g (mapO .bool ps) (mapO .bool ps) := .inr ⟨fun h => h, by simp only [mapO, LeL], rfl, rfl, h⟩
theorem obV {g : List Nat} {l : List Value} : ObLe g ⟨true, l.map SV.v⟩ ⟨true, l.map SV.v⟩ := .inr ⟨fun h => h, LeL_v g l, trivial⟩
section
variable {J : Inp} {g : FuncId} {T : Bool → Bool → Bool} {es : List Ra.Ed} {ps : List (Value × SV)} {out : List Ra.Rg} {x : Nat} {e : Env} {m : Mem}
theorem fit58n (hJ : J.keep = 0) (h1 : m[0]? = some ⟨true, vL eV es⟩) (h2 : m[1]? = some (mapO .bool ps)) (hp : ∀ g, MLe g ps ps) (e2 : e 2 = .fn g []) (e7 : e 7 = .row 0 0 es.length 3) (e8 : e 8 = .v (.slice none 0 0)) (e9 : e 9 = .mp 1) (e23 : e 23 = .row 0 0 es.length 3) (e24 : e 24 = .v (.int .i64 (es.length : Int))) (e25 : e 25 = .v (.int .i64 (x : Int))) : @Fit J e m (L58 g T es x []) (M58 es ps []) := by
  refine ⟨[0, 1, 0], by simp [M58, NdL, NdA, oO_nil, vL_nil], ?_, ?_, keep0 hJ⟩
  · simp only [M58, FitM, h1, h2]
    exact ⟨obV, obM (hp _), .inl rfl, trivial⟩
  · simp only [L58, FitE, e2, e7, e8, e9, e23, e24, e25, List.length_nil, oV_0]
    simp [Le, LeL]
theorem fit58s (hJ : J.keep = 0) {k : Nat} (hk : k ≠ 0 ∧ k ≠ 1) (hout : out ≠ []) (h1 : m[0]? = some ⟨true, vL eV es⟩) (h2 : m[1]? = some (mapO .bool ps)) (h3 : m[k]? = some ⟨true, vL gV out⟩) (hp : ∀ g, MLe g ps ps) (e2 : e 2 = .fn g []) (e7 : e 7 = .row 0 0 es.length 3) (e8 : e 8 = .row k 0 out.length 2) (e9 : e 9 = .mp 1) (e23 : e 23 = .row 0 0 es.length 3) (e24 : e 24 = .v (.int .i64 (es.length : Int))) (e25 : e 25 = .v (.int .i64 (x : Int))) : @Fit J e m (L58 g T es x out) (M58 es ps out) := by
  have hl : out.length ≠ 0 := fun h => hout (List.length_eq_zero_iff.1 h)
  have hO : oO (vL gV out) = ⟨true, vL gV out⟩ := by
    rw [oO_vL gV_len (by omega)]
    cases out with
    | nil => exact (hout rfl).elim
    | cons r o => rfl
  have hV : oV 2 2 out.length = .row 2 0 out.length 2 := if_neg hl
  refine ⟨[0, 1, k], ?_, ?_, ?_, keep0 hJ⟩
  · have h1 : ¬ (0 : Nat) = k := fun h => hk.1 h.symm
    have h2 : ¬ (1 : Nat) = k := fun h => hk.2 h.symm
    simp [M58, NdL, NdA, h1, h2]
  · simp only [M58, FitM, h1, h2, h3, hO]
    exact ⟨obV, obM (hp _), obV, trivial⟩
  · simp only [L58, FitE, e2, e7, e8, e9, e23, e24, e25, hV]
    simp [Le, LeL]
end
theorem loop58 [J : Inp] (hJ : J.keep = 0) {g : FuncId} {T : Bool → Bool → Bool} (hg : Contract Try.prog g true (trT T)) (g91 : (g = 91) = False) (g92 : (g = 92) = False) (es : List Ra.Ed) (hup : ∀ e ∈ es, -1 ≤ e.up ∧ e.up ≤ 1) (hn : es.length ≤ 100000) {e : Env} {m : Mem} {Q : Post}
    (h0 : Fit e m (L58 g T es 0 []) (M58 es [] []))
    (last : ∀ ps, vMap ps (fun b => Ra.dep es b) → evX Try.prog 118 [92] (G58 g T) body58 (slots (L58 g T es es.length (Ra.sw T es es.length))) (M58 es ps (Ra.sw T es es.length)) (thenQ (fun _ _ => False) Q)) : TX Try.prog 118 [92] (.loop body58) e m Q := by
  refine TX_countS (g58 hg) es.length (fun x ps => L58 g T es x (Ra.sw T es x)) (fun x ps => M58 es ps (Ra.sw T es x)) (fun x ps => vMap ps fun b => Ra.dep (es.take x) b) [] vMap_nil h0 (fun x ps hx hm => ?_) (fun ps hm => last ps (by rwa [List.take_length] at hm))
  obtain ⟨e, he⟩ : ∃ e, es[x]? = some e := ⟨_, List.getElem?_eq_getElem hx⟩
  have he' := hup e (List.mem_of_getElem? he)
  have hb := fun b => Ra.dep_bnd (es := es.take x) (fun y hy => hup y (List.mem_of_mem_take hy)) b
  have hlt : (es.take x).length = x := by rw [List.length_take]; omega
  have hbs := hb e.sec
  rw [hlt] at hbs
  have i0 : (0 : Int) ≤ (x : Int) := by omega
  have i1 : (x : Int) < (es.length : Int) := by omega
  have i5 : ((x : Int) + 1).toNat = x + 1 := by omega
  have i6 : (0 : Int) ≤ (x : Int) + 1 := by omega
  have w1 : IntKind.i64.wrap ((x : Int) + 1) = (x : Int) + 1 := Sz.w_64 (by omega) (by omega)
  have w2 : IntKind.i64.wrap (Ra.dep (es.take x) e.sec + e.up) = Ra.dep (es.take x) e.sec + e.up := Sz.w_64 (by omega) (by omega)
  have hf : ((vL eV es).drop (x * 3)).take 3 = [.v (.int .i64 e.at_), .v (.int .i64 e.up), .v (.bool e.sec)] := vL_item eV_len he
  have hl : x * 3 + 3 ≤ (vL eV es).length := by rw [e_len]; omega
  have hmap := hm.1 e.sec
  have hput := vMap_put hm e.sec (Ra.dep (es.take x) e.sec + e.up)
  have hD : (fun b => if b = e.sec then Ra.dep (es.take x) e.sec + e.up else Ra.dep (es.take x) b) = fun b => Ra.dep (es.take (x + 1)) b := funext fun b => by
    rw [Ra.dep_snoc he]
    by_cases h : b = e.sec
    · subst h; simp
    · rw [if_neg h, if_neg (fun e => h e.symm)]; omega
  rw [hD] at hput
  have hm0 := hput.1 false
  have hm1 := hput.1 true
  have hles : ∀ g, LeL g (vL eV es) (vL eV es) = True := fun g => vL_le
  have hmle : ∀ g, MLe g (putM (.bool e.sec) (.v (.int .i64 (Ra.dep (es.take x) e.sec + e.up))) ps) (putM (.bool e.sec) (.v (.int .i64 (Ra.dep (es.take x) e.sec + e.up))) ps) = True := fun g => by simp only [eq_iff_iff, iff_true]; exact hput.2 g
  obtain ⟨inn, hinn⟩ : ∃ inn, inn = T (decide (0 < Ra.dep (es.take (x + 1)) false)) (decide (0 < Ra.dep (es.take (x + 1)) true)) := ⟨_, rfl⟩
  have hskip := @Ra.sw_skip T es x
  have hstep := fun h => @Ra.sw_step T es x e h he
  rw [← hinn] at hstep
  have hol := Ra.sw_len T es x
  have hles' : ∀ g, LeL g (vL gV (Ra.sw T es x)) (vL gV (Ra.sw T es x)) = True := fun g => vL_le
  have e2 : ((x + 1 : Nat) : Int) = (x : Int) + 1 := by omega
  generalize hout : Ra.sw T es x = out at hskip hstep hol hles' ⊢
  rw [show L58 g T es x out = [(2, .fn g []), (7, .row 0 0 es.length 3), (8, oV 2 2 out.length), (9, .mp 1), (23, .row 0 0 es.length 3), (24, .v (.int .i64 (es.length : Int))), (25, .v (.int .i64 (x : Int)))] from rfl, show M58 es ps out = [⟨true, vL eV es⟩, mapO .bool ps, oO (vL gV out)] from rfl]
  have hO : out ≠ [] → some (oO (vL gV out)) = some ⟨true, vL gV out⟩ := fun h => by
    rw [oO_vL gV_len (by omega)]
    cases out with
    | nil => exact (h rfl).elim
    | cons r o => rfl
  have hV : out ≠ [] → oV 2 2 out.length = .row 2 0 out.length 2 := fun h => if_neg fun e => h (List.length_eq_zero_iff.1 e)
  have w0 : IntKind.i64.wrap ((0 : Int) - 1) = -1 := rfl
  have e25 : (SV.v (.int .i64 ((x : Int) + 1))) = .v (.int .i64 ((x + 1 : Nat) : Int)) := by rw [e2]
  by_cases hx1 : x + 1 < es.length
  · obtain ⟨f, hf'⟩ : ∃ f, es[x + 1]? = some f := ⟨_, List.getElem?_eq_getElem hx1⟩
    have j1 : (x : Int) + 1 < (es.length : Int) := by omega
    have hat : (vL eV es)[(x + 1) * 3]? = some (.v (.int .i64 f.at_)) := vL_at eV_len hf' (j := 0) (by omega)
    by_cases hfe : f.at_ = e.at_
    · have hnx : Ra.nxt es x = true := by simp [Ra.nxt, he, hf', hfe]
      have hfb : (f.at_ == e.at_) = true := by simpa using hfe
      simp (maxSteps := 2000000) -implicitDefEqProofs only [↓body58, i0, i1, i5, i6, w1, w2, hf, hl, hmap, isKb, j1, hat, hfb, s_alt, s_alt20, s_alt2t, s_alt2f, ↓s_loopi, ↓v_pq, ↓PRE, POST, CORE, Nat.reduceDiv, Nat.reduceMod, Int.reduceLT, Int.reduceLE, Int.reduceToNat, Int.reduceAdd, ↓reduceIte, Nat.reduceEqDiff, Nat.reduceAdd, Nat.reduceMul, Nat.reduceSub, Nat.reduceLeDiff, Nat.reduceLT, reduceCtorEq, if_true, eq_self, forall_const, implies_true]
      refine ⟨_, hput, ?_⟩
      rw [hskip hnx]
      have e25 : (SV.v (.int .i64 ((x : Int) + 1))) = .v (.int .i64 ((x + 1 : Nat) : Int)) := by rw [e2]
      by_cases ho : out = []
      · subst ho
        exact fit58n hJ rfl rfl hput.2 rfl rfl rfl rfl rfl rfl e25
      · exact fit58s hJ (k := 2) (by omega) ho rfl rfl (hO ho) hput.2 rfl rfl (hV ho) rfl rfl rfl e25
    · have hnx : Ra.nxt es x = false := by simp [Ra.nxt, he, hf', hfe]
      have hfb : (f.at_ == e.at_) = false := by simpa using hfe
      rw [hstep hnx]
      rcases List.eq_nil_or_concat out with ho | ⟨D, r, ho⟩
      · subst ho
        rw [List.length_nil, vL_nil, oO_nil, oV_0, Ra.step_nil]
        cases inn with
        | true =>
          simp (maxSteps := 2000000) -implicitDefEqProofs only [↓body58, ↓G58, i0, i1, i5, i6, w0, w1, w2, hf, hl, hmap, isKb, j1, hat, hfb, hm0, hm1, ↓aT, ← hinn, inp00, Option.map_some, List.map_nil, s_alt, s_alt20, s_alt2t, s_alt2f, ↓s_loopi, ↓v_pq, ↓PRE, POST, CORE, Nat.reduceDiv, Nat.reduceMod, Int.reduceLT, Int.reduceLE, Int.reduceToNat, Int.reduceAdd, ↓reduceIte, Nat.reduceEqDiff, Nat.reduceAdd, Nat.reduceMul, Nat.reduceSub, Nat.reduceLeDiff, Nat.reduceLT, reduceCtorEq, if_true, eq_self, forall_const, implies_true]
          refine ⟨by unfold maxLen; omega, _, hput, ?_⟩
          exact fit58s hJ (k := 5) (by omega) (by simp) rfl rfl rfl hput.2 rfl rfl rfl rfl rfl rfl e25
        | false =>
          simp (maxSteps := 2000000) -implicitDefEqProofs only [↓body58, ↓G58, i0, i1, i5, i6, w0, w1, w2, hf, hl, hmap, isKb, j1, hat, hfb, hm0, hm1, ↓aT, ← hinn, s_alt, s_alt20, s_alt2t, s_alt2f, ↓s_loopi, ↓v_pq, ↓PRE, POST, CORE, Nat.reduceDiv, Nat.reduceMod, Int.reduceLT, Int.reduceLE, Int.reduceToNat, Int.reduceAdd, ↓reduceIte, Nat.reduceEqDiff, Nat.reduceAdd, Nat.reduceMul, Nat.reduceSub, Nat.reduceLeDiff, Nat.reduceLT, reduceCtorEq, if_true, eq_self, forall_const, implies_true]
          exact ⟨_, hput, fit58n hJ rfl rfl hput.2 rfl rfl rfl rfl rfl rfl e25⟩
      · rw [List.concat_eq_append] at ho
        subst ho
        have hne : D ++ [r] ≠ [] := by simp
        rw [hV hne, show oO (vL gV (D ++ [r])) = ⟨true, vL gV (D ++ [r])⟩ from by have := hO hne; injection this, Ra.step_app]
        have hDn : (D ++ [r]).length = D.length + 1 := by simp
        have hgV : ∀ q : Ra.Rg, vL gV (D ++ [q]) = vL gV D ++ [.v (.int .i64 q.fr), .v (.int .i64 q.to)] := fun q => by rw [← vL_app]; rfl
        have hCl : (vL gV D).length = D.length * 2 := g_len
        rw [hDn, hgV r]
        rw [hDn] at hol
        have k0 : (0 : Int) ≤ (D.length : Int) := by omega
        have k1 : (D.length : Int) < ((D.length + 1 : Nat) : Int) := by omega
        have w3 : IntKind.i64.wrap (((D.length + 1 : Nat) : Int) - 1) = (D.length : Int) := by
          rw [show ((D.length + 1 : Nat) : Int) - 1 = (D.length : Int) by omega]
          exact Sz.w_64 (by omega) (by omega)
        have hgV2 : ∀ q : Ra.Rg, vL gV (D ++ [r] ++ [q]) = vL gV D ++ [.v (.int .i64 r.fr), .v (.int .i64 r.to)] ++ [.v (.int .i64 q.fr), .v (.int .i64 q.to)] := fun q => by rw [← vL_app, hgV]; rfl
        have hDn' : ∀ q : Ra.Rg, (D ++ [q]).length = D.length + 1 := fun q => by simp
        have hDn2 : ∀ q : Ra.Rg, (D ++ [r] ++ [q]).length = D.length + 1 + 1 := fun q => by simp
        generalize vL gV D = C at hCl hgV hgV2 ⊢
        have hto : ∀ a b : SV, (C ++ [a, b])[D.length * 2 + 1]? = some b := fun a b => by
          rw [List.getElem?_append_right (by omega), hCl, show D.length * 2 + 1 - D.length * 2 = 1 by omega]
          rfl
        have hov : ∀ a b s : SV, over (C ++ [a, b]) (D.length * 2 + 1) [s] = C ++ [a, s] := fun a b s => by
          unfold over
          rw [List.take_append, List.drop_append, List.take_of_length_le (by omega), hCl, show D.length * 2 + 1 - D.length * 2 = 1 by omega, show D.length * 2 + 1 + [s].length - D.length * 2 = 2 by simp; omega, List.drop_of_length_le (by simp; omega)]
          simp
        have hls : ∀ a b : SV, D.length * 2 + 1 + 1 ≤ (C ++ [a, b]).length := fun a b => by rw [List.length_append, hCl]; simp
        have hl2 : ∀ a b : SV, (C ++ [a, b]).length = (D.length + 1) * 2 := fun a b => by rw [List.length_append, hCl]; simp; omega
        have htk : ∀ a b : SV, (C ++ [a, b]).take ((D.length + 1) * 2) = C ++ [a, b] := fun a b => List.take_of_length_le (by rw [hl2]; exact Nat.le_refl _)
        cases inn with
        | true =>
          by_cases h1 : e.at_ < r.to
          · rw [if_pos rfl, if_pos h1]
            simp (maxSteps := 2000000) -implicitDefEqProofs only [↓body58, ↓G58, i0, i1, i5, i6, w0, w1, w2, hf, hl, hmap, isKb, j1, hat, hfb, hm0, hm1, ↓aT, ← hinn, w3, k0, k1, hto, h1, s_alt, s_alt20, s_alt2t, s_alt2f, ↓s_loopi, ↓v_pq, ↓PRE, POST, CORE, Nat.reduceDiv, Nat.reduceMod, Int.reduceLT, Int.reduceLE, Int.reduceToNat, Int.reduceAdd, ↓reduceIte, Nat.reduceEqDiff, Nat.reduceAdd, Nat.reduceMul, Nat.reduceSub, Nat.reduceLeDiff, Nat.reduceLT, reduceCtorEq, if_true, eq_self, forall_const, implies_true]
            refine ⟨_, hput, ?_⟩
            exact fit58s hJ (k := 2) (by omega) hne rfl rfl (by rw [hgV]; rfl) hput.2 rfl rfl (by rw [hDn]; rfl) rfl rfl rfl e25
          · by_cases h2 : r.to = e.at_
            · have h2b : (r.to == e.at_) = true := by simpa using h2
              rw [if_pos rfl, if_neg h1, if_pos h2]
              simp (maxSteps := 2000000) -implicitDefEqProofs only [↓body58, ↓G58, i0, i1, i5, i6, w0, w1, w2, hf, hl, hmap, isKb, j1, hat, hfb, hm0, hm1, ↓aT, ← hinn, w3, k0, k1, hto, h1, h2b, hov, hls, s_alt, s_alt20, s_alt2t, s_alt2f, ↓s_loopi, ↓v_pq, ↓PRE, POST, CORE, Nat.reduceDiv, Nat.reduceMod, Int.reduceLT, Int.reduceLE, Int.reduceToNat, Int.reduceAdd, ↓reduceIte, Nat.reduceEqDiff, Nat.reduceAdd, Nat.reduceMul, Nat.reduceSub, Nat.reduceLeDiff, Nat.reduceLT, reduceCtorEq, if_true, eq_self, forall_const, implies_true]
              refine ⟨_, hput, ?_⟩
              exact fit58s hJ (k := 2) (by omega) (by simp) rfl rfl (by rw [hgV]; rfl) hput.2 rfl rfl (by rw [hDn']; rfl) rfl rfl rfl e25
            · have h2b : (r.to == e.at_) = false := by simpa using h2
              rw [if_pos rfl, if_neg h1, if_neg h2]
              simp (maxSteps := 2000000) -implicitDefEqProofs only [↓body58, ↓G58, i0, i1, i5, i6, w0, w1, w2, hf, hl, hmap, isKb, j1, hat, hfb, hm0, hm1, ↓aT, ← hinn, w3, k0, k1, hto, h1, h2b, hl2, htk, Nat.le_refl, s_alt, s_alt20, s_alt2t, s_alt2f, ↓s_loopi, ↓v_pq, ↓PRE, POST, CORE, Nat.reduceDiv, Nat.reduceMod, Int.reduceLT, Int.reduceLE, Int.reduceToNat, Int.reduceAdd, ↓reduceIte, Nat.reduceEqDiff, Nat.reduceAdd, Nat.reduceMul, Nat.reduceSub, Nat.reduceLeDiff, Nat.reduceLT, reduceCtorEq, if_true, eq_self, forall_const, implies_true]
              refine ⟨⟨by unfold maxLen; omega, by omega⟩, _, hput, ?_⟩
              exact fit58s hJ (k := 5) (by omega) (by simp) rfl rfl (by rw [hgV2]; rfl) hput.2 rfl rfl (by rw [hDn2]; rfl) rfl rfl rfl e25
        | false =>
          rw [if_neg (by simp)]
          by_cases h1 : e.at_ < r.to
          · rw [if_pos h1]
            simp (maxSteps := 2000000) -implicitDefEqProofs only [↓body58, ↓G58, i0, i1, i5, i6, w0, w1, w2, hf, hl, hmap, isKb, j1, hat, hfb, hm0, hm1, ↓aT, ← hinn, w3, k0, k1, hto, h1, hov, hls, s_alt, s_alt20, s_alt2t, s_alt2f, ↓s_loopi, ↓v_pq, ↓PRE, POST, CORE, Nat.reduceDiv, Nat.reduceMod, Int.reduceLT, Int.reduceLE, Int.reduceToNat, Int.reduceAdd, ↓reduceIte, Nat.reduceEqDiff, Nat.reduceAdd, Nat.reduceMul, Nat.reduceSub, Nat.reduceLeDiff, Nat.reduceLT, reduceCtorEq, if_true, eq_self, forall_const, implies_true]
            refine ⟨_, hput, ?_⟩
            exact fit58s hJ (k := 2) (by omega) (by simp) rfl rfl (by rw [hgV]; rfl) hput.2 rfl rfl (by rw [hDn']; rfl) rfl rfl rfl e25
          · rw [if_neg h1]
            simp (maxSteps := 2000000) -implicitDefEqProofs only [↓body58, ↓G58, i0, i1, i5, i6, w0, w1, w2, hf, hl, hmap, isKb, j1, hat, hfb, hm0, hm1, ↓aT, ← hinn, w3, k0, k1, hto, h1, s_alt, s_alt20, s_alt2t, s_alt2f, ↓s_loopi, ↓v_pq, ↓PRE, POST, CORE, Nat.reduceDiv, Nat.reduceMod, Int.reduceLT, Int.reduceLE, Int.reduceToNat, Int.reduceAdd, ↓reduceIte, Nat.reduceEqDiff, Nat.reduceAdd, Nat.reduceMul, Nat.reduceSub, Nat.reduceLeDiff, Nat.reduceLT, reduceCtorEq, if_true, eq_self, forall_const, implies_true]
            refine ⟨_, hput, ?_⟩
            exact fit58s hJ (k := 2) (by omega) hne rfl rfl (by rw [hgV]; rfl) hput.2 rfl rfl (by rw [hDn]; rfl) rfl rfl rfl e25
  · have hnx : Ra.nxt es x = false := by simp [Ra.nxt, he, List.getElem?_eq_none (Nat.not_lt.1 hx1)]
    have j1 : ¬ (x : Int) + 1 < (es.length : Int) := by omega
    rw [hstep hnx]
    rcases List.eq_nil_or_concat out with ho | ⟨D, r, ho⟩
    · subst ho
      rw [List.length_nil, vL_nil, oO_nil, oV_0, Ra.step_nil]
      cases inn with
      | true =>
        simp (maxSteps := 2000000) -implicitDefEqProofs only [↓body58, ↓G58, i0, i1, i5, i6, w0, w1, w2, hf, hl, hmap, isKb, j1, hm0, hm1, ↓aT, ← hinn, inp00, Option.map_some, List.map_nil, s_alt, s_alt20, s_alt2t, s_alt2f, ↓s_loopi, ↓v_pq, ↓PRE, POST, CORE, Nat.reduceDiv, Nat.reduceMod, Int.reduceLT, Int.reduceLE, Int.reduceToNat, Int.reduceAdd, ↓reduceIte, Nat.reduceEqDiff, Nat.reduceAdd, Nat.reduceMul, Nat.reduceSub, Nat.reduceLeDiff, Nat.reduceLT, reduceCtorEq, if_true, eq_self, forall_const, implies_true]
        refine ⟨by unfold maxLen; omega, _, hput, ?_⟩
        exact fit58s hJ (k := 5) (by omega) (by simp) rfl rfl rfl hput.2 rfl rfl rfl rfl rfl rfl e25
      | false =>
        simp (maxSteps := 2000000) -implicitDefEqProofs only [↓body58, ↓G58, i0, i1, i5, i6, w0, w1, w2, hf, hl, hmap, isKb, j1, hm0, hm1, ↓aT, ← hinn, s_alt, s_alt20, s_alt2t, s_alt2f, ↓s_loopi, ↓v_pq, ↓PRE, POST, CORE, Nat.reduceDiv, Nat.reduceMod, Int.reduceLT, Int.reduceLE, Int.reduceToNat, Int.reduceAdd, ↓reduceIte, Nat.reduceEqDiff, Nat.reduceAdd, Nat.reduceMul, Nat.reduceSub, Nat.reduceLeDiff, Nat.reduceLT, reduceCtorEq, if_true, eq_self, forall_const, implies_true]
        exact ⟨_, hput, fit58n hJ rfl rfl hput.2 rfl rfl rfl rfl rfl rfl e25⟩
    · rw [List.concat_eq_append] at ho
      subst ho
      have hne : D ++ [r] ≠ [] := by simp
      rw [hV hne, show oO (vL gV (D ++ [r])) = ⟨true, vL gV (D ++ [r])⟩ from by have := hO hne; injection this, Ra.step_app]
      have hDn : (D ++ [r]).length = D.length + 1 := by simp
      have hgV : ∀ q : Ra.Rg, vL gV (D ++ [q]) = vL gV D ++ [.v (.int .i64 q.fr), .v (.int .i64 q.to)] := fun q => by rw [← vL_app]; rfl
      have hCl : (vL gV D).length = D.length * 2 := g_len
      rw [hDn, hgV r]
      rw [hDn] at hol
      have k0 : (0 : Int) ≤ (D.length : Int) := by omega
      have k1 : (D.length : Int) < ((D.length + 1 : Nat) : Int) := by omega
      have w3 : IntKind.i64.wrap (((D.length + 1 : Nat) : Int) - 1) = (D.length : Int) := by
        rw [show ((D.length + 1 : Nat) : Int) - 1 = (D.length : Int) by omega]
        exact Sz.w_64 (by omega) (by omega)
      have hgV2 : ∀ q : Ra.Rg, vL gV (D ++ [r] ++ [q]) = vL gV D ++ [.v (.int .i64 r.fr), .v (.int .i64 r.to)] ++ [.v (.int .i64 q.fr), .v (.int .i64 q.to)] := fun q => by rw [← vL_app, hgV]; rfl
      have hDn' : ∀ q : Ra.Rg, (D ++ [q]).length = D.length + 1 := fun q => by simp
      have hDn2 : ∀ q : Ra.Rg, (D ++ [r] ++ [q]).length = D.length + 1 + 1 := fun q => by simp
      generalize vL gV D = C at hCl hgV hgV2 ⊢
      have hto : ∀ a b : SV, (C ++ [a, b])[D.length * 2 + 1]? = some b := fun a b => by
        rw [List.getElem?_append_right (by omega), hCl, show D.length * 2 + 1 - D.length * 2 = 1 by omega]
        rfl
      have hov : ∀ a b s : SV, over (C ++ [a, b]) (D.length * 2 + 1) [s] = C ++ [a, s] := fun a b s => by
        unfold over
        rw [List.take_append, List.drop_append, List.take_of_length_le (by omega), hCl, show D.length * 2 + 1 - D.length * 2 = 1 by omega, show D.length * 2 + 1 + [s].length - D.length * 2 = 2 by simp; omega, List.drop_of_length_le (by simp; omega)]
        simp
      have hls : ∀ a b : SV, D.length * 2 + 1 + 1 ≤ (C ++ [a, b]).length := fun a b => by rw [List.length_append, hCl]; simp
      have hl2 : ∀ a b : SV, (C ++ [a, b]).length = (D.length + 1) * 2 := fun a b => by rw [List.length_append, hCl]; simp; omega
      have htk : ∀ a b : SV, (C ++ [a, b]).take ((D.length + 1) * 2) = C ++ [a, b] := fun a b => List.take_of_length_le (by rw [hl2]; exact Nat.le_refl _)
      cases inn with
      | true =>
        by_cases h1 : e.at_ < r.to
        · rw [if_pos rfl, if_pos h1]
          simp (maxSteps := 2000000) -implicitDefEqProofs only [↓body58, ↓G58, i0, i1, i5, i6, w0, w1, w2, hf, hl, hmap, isKb, j1, hm0, hm1, ↓aT, ← hinn, w3, k0, k1, hto, h1, s_alt, s_alt20, s_alt2t, s_alt2f, ↓s_loopi, ↓v_pq, ↓PRE, POST, CORE, Nat.reduceDiv, Nat.reduceMod, Int.reduceLT, Int.reduceLE, Int.reduceToNat, Int.reduceAdd, ↓reduceIte, Nat.reduceEqDiff, Nat.reduceAdd, Nat.reduceMul, Nat.reduceSub, Nat.reduceLeDiff, Nat.reduceLT, reduceCtorEq, if_true, eq_self, forall_const, implies_true]
          refine ⟨_, hput, ?_⟩
          exact fit58s hJ (k := 2) (by omega) hne rfl rfl (by rw [hgV]; rfl) hput.2 rfl rfl (by rw [hDn]; rfl) rfl rfl rfl e25
        · by_cases h2 : r.to = e.at_
          · have h2b : (r.to == e.at_) = true := by simpa using h2
            rw [if_pos rfl, if_neg h1, if_pos h2]
            simp (maxSteps := 2000000) -implicitDefEqProofs only [↓body58, ↓G58, i0, i1, i5, i6, w0, w1, w2, hf, hl, hmap, isKb, j1, hm0, hm1, ↓aT, ← hinn, w3, k0, k1, hto, h1, h2b, hov, hls, s_alt, s_alt20, s_alt2t, s_alt2f, ↓s_loopi, ↓v_pq, ↓PRE, POST, CORE, Nat.reduceDiv, Nat.reduceMod, Int.reduceLT, Int.reduceLE, Int.reduceToNat, Int.reduceAdd, ↓reduceIte, Nat.reduceEqDiff, Nat.reduceAdd, Nat.reduceMul, Nat.reduceSub, Nat.reduceLeDiff, Nat.reduceLT, reduceCtorEq, if_true, eq_self, forall_const, implies_true]
            refine ⟨_, hput, ?_⟩
            exact fit58s hJ (k := 2) (by omega) (by simp) rfl rfl (by rw [hgV]; rfl) hput.2 rfl rfl (by rw [hDn']; rfl) rfl rfl rfl e25
          · have h2b : (r.to == e.at_) = false := by simpa using h2
            rw [if_pos rfl, if_neg h1, if_neg h2]
            simp (maxSteps := 2000000) -implicitDefEqProofs only [↓body58, ↓G58, i0, i1, i5, i6, w0, w1, w2, hf, hl, hmap, isKb, j1, hm0, hm1, ↓aT, ← hinn, w3, k0, k1, hto, h1, h2b, hl2, htk, Nat.le_refl, s_alt, s_alt20, s_alt2t, s_alt2f, ↓s_loopi, ↓v_pq, ↓PRE, POST, CORE, Nat.reduceDiv, Nat.reduceMod, Int.reduceLT, Int.reduceLE, Int.reduceToNat, Int.reduceAdd, ↓reduceIte, Nat.reduceEqDiff, Nat.reduceAdd, Nat.reduceMul, Nat.reduceSub, Nat.reduceLeDiff, Nat.reduceLT, reduceCtorEq, if_true, eq_self, forall_const, implies_true]
            refine ⟨⟨by unfold maxLen; omega, by omega⟩, _, hput, ?_⟩
            exact fit58s hJ (k := 5) (by omega) (by simp) rfl rfl (by rw [hgV2]; rfl) hput.2 rfl rfl (by rw [hDn2]; rfl) rfl rfl rfl e25
      | false =>
        rw [if_neg (by simp)]
        by_cases h1 : e.at_ < r.to
        · rw [if_pos h1]
          simp (maxSteps := 2000000) -implicitDefEqProofs only [↓body58, ↓G58, i0, i1, i5, i6, w0, w1, w2, hf, hl, hmap, isKb, j1, hm0, hm1, ↓aT, ← hinn, w3, k0, k1, hto, h1, hov, hls, s_alt, s_alt20, s_alt2t, s_alt2f, ↓s_loopi, ↓v_pq, ↓PRE, POST, CORE, Nat.reduceDiv, Nat.reduceMod, Int.reduceLT, Int.reduceLE, Int.reduceToNat, Int.reduceAdd, ↓reduceIte, Nat.reduceEqDiff, Nat.reduceAdd, Nat.reduceMul, Nat.reduceSub, Nat.reduceLeDiff, Nat.reduceLT, reduceCtorEq, if_true, eq_self, forall_const, implies_true]
          refine ⟨_, hput, ?_⟩
          exact fit58s hJ (k := 2) (by omega) (by simp) rfl rfl (by rw [hgV]; rfl) hput.2 rfl rfl (by rw [hDn']; rfl) rfl rfl rfl e25
        · rw [if_neg h1]
          simp (maxSteps := 2000000) -implicitDefEqProofs only [↓body58, ↓G58, i0, i1, i5, i6, w0, w1, w2, hf, hl, hmap, isKb, j1, hm0, hm1, ↓aT, ← hinn, w3, k0, k1, hto, h1, s_alt, s_alt20, s_alt2t, s_alt2f, ↓s_loopi, ↓v_pq, ↓PRE, POST, CORE, Nat.reduceDiv, Nat.reduceMod, Int.reduceLT, Int.reduceLE, Int.reduceToNat, Int.reduceAdd, ↓reduceIte, Nat.reduceEqDiff, Nat.reduceAdd, Nat.reduceMul, Nat.reduceSub, Nat.reduceLeDiff, Nat.reduceLT, reduceCtorEq, if_true, eq_self, forall_const, implies_true]
          refine ⟨_, hput, ?_⟩
          exact fit58s hJ (k := 2) (by omega) hne rfl rfl (by rw [hgV]; rfl) hput.2 rfl rfl (by rw [hDn]; rfl) rfl rfl rfl e25
end Rc
end Go.Proofs.Ytcejgadbpahbmaa
end
