/- Symbolic walks, part A: symbolic values, the call's own objects, and what a world has of them. No condition. -/
import Derived.Below
import Derived.OrdersHeld
import Derived.Laws.AppendOwn
import Derived.Laws.CopyRow
import Derived.MapKept
namespace Go.Proofs.Ytibefgdjijmncaa.Sz
open Go.RowKit
set_option linter.unusedVariables false
/-- Where an object lies: its block, its first cell there, and how many cells there are from it on. -/
structure Loc where
  blk : Nat
  off : Nat
  room : Nat
/-- What an object hides: what holds of the world where it lies, as long as its block and the hidden ones stay; other objects that it leads to. -/
structure Abs where
  holds : List Loc → Loc → List Nat → World → Prop
  stable : ∀ (ls : List Loc) (l : Loc) (fp : List Nat) (W W' : World), holds ls l fp W → W.heap.size ≤ W'.heap.size → (∀ b ∈ l.blk :: fp, W'.heap[b]? = W.heap[b]?) → holds ls l fp W'
/-- A symbolic value: plain, a pointer to a cell of an object, a slice of elements of some cells each, a struct's or an array's cells, several values, a function with what it captures, or whatever. -/
inductive SV where
  | v (x : Value)
  | ptr (k o : Nat)
  | row (k o n sz : Nat)
  | agg (cs : List SV)
  | tup (vs : List SV)
  | fn (f : FuncId) (cap : List SV)
  | bnd (f : FuncId) (first : List SV)
  | emp
  | any
  | zro
  | mp (k : Nat)
  deriving Inhabited
mutual
def SV.Is (r : List Loc) : SV → Value → Prop
  | .v x, u => u = x
  | .ptr k o, u => ∃ l, r[k]? = some l ∧ u = .pointer (some ⟨l.blk, l.off + o, none⟩)
  | .row k o n sz, u => ∃ l cap, r[k]? = some l ∧ n ≤ cap ∧ o + cap * sz ≤ l.room ∧ u = .slice (some ⟨l.blk, l.off + o, none⟩) n cap
  | .agg cs, u => ∃ us, u = .agg us.toArray ∧ SV.IsL r cs us
  | .tup cs, u => ∃ us, u = .tuple us.toArray ∧ SV.IsL r cs us
  | .fn f cs, u => ∃ us, u = .func (.func f) #[] us.toArray ∧ SV.IsL r cs us
  | .bnd f cs, u => ∃ us, u = .func (.func f) us.toArray #[] ∧ SV.IsL r cs us
  | .emp, u => ∃ a c, u = .slice (some a) 0 c ∧ a.spot = none
  | .any, _ => True
  | .zro, u => ∃ a, u = .slice a 0 0 ∧ ∀ x, a = some x → x.spot = none
  | .mp k, u => ∃ l, r[k]? = some l ∧ u = .map (some l.blk)
def SV.IsL (r : List Loc) : List SV → List Value → Prop
  | [], us => us = []
  | c :: cs, us => ∃ u t, us = u :: t ∧ c.Is r u ∧ SV.IsL r cs t
end
mutual
theorem SV.Is.grow {r : List Loc} (t : List Loc) : ∀ {s : SV} {u : Value}, s.Is r u → s.Is (r ++ t) u
  | .v x, u, h => h
  | .ptr k o, u, h => by
    simp only [SV.Is] at h ⊢
    obtain ⟨l, h1, h2⟩ := h
    exact ⟨l, by rw [List.getElem?_append_left (List.getElem?_eq_some_iff.1 h1).1]; exact h1, h2⟩
  | .row k o n sz, u, h => by
    simp only [SV.Is] at h ⊢
    obtain ⟨l, cap, h1, h2⟩ := h
    exact ⟨l, cap, by rw [List.getElem?_append_left (List.getElem?_eq_some_iff.1 h1).1]; exact h1, h2⟩
  | .agg cs, u, h => by
    simp only [SV.Is] at h ⊢
    obtain ⟨us, h1, h2⟩ := h
    exact ⟨us, h1, SV.IsL.grow t h2⟩
  | .tup cs, u, h => by
    simp only [SV.Is] at h ⊢
    obtain ⟨us, h1, h2⟩ := h
    exact ⟨us, h1, SV.IsL.grow t h2⟩
  | .fn f cs, u, h => by
    simp only [SV.Is] at h ⊢
    obtain ⟨us, h1, h2⟩ := h
    exact ⟨us, h1, SV.IsL.grow t h2⟩
  | .bnd f cs, u, h => by
    simp only [SV.Is] at h ⊢
    obtain ⟨us, h1, h2⟩ := h
    exact ⟨us, h1, SV.IsL.grow t h2⟩
  | .emp, u, h => by simpa only [SV.Is] using h
  | .any, u, h => by simp only [SV.Is]
  | .zro, u, h => by simpa only [SV.Is] using h
  | .mp k, u, h => by
    simp only [SV.Is] at h ⊢
    obtain ⟨l, h1, h2⟩ := h
    exact ⟨l, by rw [List.getElem?_append_left (List.getElem?_eq_some_iff.1 h1).1]; exact h1, h2⟩
theorem SV.IsL.grow {r : List Loc} (t : List Loc) : ∀ {s : List SV} {u : List Value}, SV.IsL r s u → SV.IsL (r ++ t) s u
  | [], u, h => h
  | c :: cs, u, h => by
    simp only [SV.IsL] at h ⊢
    obtain ⟨x, y, h1, h2, h3⟩ := h
    exact ⟨x, y, h1, SV.Is.grow t h2, SV.IsL.grow t h3⟩
end
section
variable {r : List Loc}
theorem IsL_len : ∀ {s : List SV} {u : List Value}, SV.IsL r s u → u.length = s.length
  | [], u, h => by simp only [SV.IsL] at h; subst h; rfl
  | c :: cs, u, h => by
    simp only [SV.IsL] at h
    obtain ⟨x, y, rfl, _, h3⟩ := h
    simp [IsL_len h3]
theorem IsL_get : ∀ {s : List SV} {u : List Value} {i : Nat} {c : SV}, SV.IsL r s u → s[i]? = some c → ∃ x, u[i]? = some x ∧ c.Is r x
  | [], u, i, c, h, hi => by simp at hi
  | d :: cs, u, 0, c, h, hi => by
    simp only [SV.IsL] at h
    obtain ⟨x, y, rfl, h2, h3⟩ := h
    simp at hi; subst hi
    exact ⟨x, rfl, h2⟩
  | d :: cs, u, i + 1, c, h, hi => by
    simp only [SV.IsL] at h
    obtain ⟨x, y, rfl, h2, h3⟩ := h
    simpa using IsL_get h3 (by simpa using hi)
theorem IsL_of : ∀ {s : List SV} {u : List Value}, u.length = s.length → (∀ (i : Nat) (c : SV) (x : Value), s[i]? = some c → u[i]? = some x → c.Is r x) → SV.IsL r s u
  | [], u, h, _ => by simp only [SV.IsL]; exact List.length_eq_zero_iff.1 (by simpa using h)
  | c :: cs, [], h, _ => by simp at h
  | c :: cs, x :: u, h, hg => by
    simp only [SV.IsL]
    exact ⟨x, u, rfl, hg 0 c x rfl rfl, IsL_of (by simpa using h) (fun i d y h1 h2 => hg (i + 1) d y (by simpa using h1) (by simpa using h2))⟩
theorem IsL_append {s t : List SV} {u x : List Value} (h : SV.IsL r s u) (h2 : SV.IsL r t x) : SV.IsL r (s ++ t) (u ++ x) := by
  induction s generalizing u with
  | nil => simp only [SV.IsL] at h; subst h; simpa using h2
  | cons c cs ih =>
    simp only [SV.IsL] at h
    obtain ⟨y, z, rfl, h3, h4⟩ := h
    simp only [List.cons_append, SV.IsL]
    exact ⟨y, _, rfl, h3, ih h4⟩
theorem IsL_drop {s : List SV} {u : List Value} (n : Nat) (h : SV.IsL r s u) : SV.IsL r (s.drop n) (u.drop n) := by
  induction n generalizing s u with
  | zero => simpa using h
  | succ n ih =>
    cases s with
    | nil => simp only [SV.IsL] at h; subst h; simp [SV.IsL]
    | cons c cs =>
      simp only [SV.IsL] at h
      obtain ⟨y, z, rfl, h3, h4⟩ := h
      simpa using ih h4
theorem IsL_take {s : List SV} {u : List Value} (n : Nat) (h : SV.IsL r s u) : SV.IsL r (s.take n) (u.take n) := by
  induction n generalizing s u with
  | zero => simp [SV.IsL]
  | succ n ih =>
    cases s with
    | nil => simp only [SV.IsL] at h; subst h; simp [SV.IsL]
    | cons c cs =>
      simp only [SV.IsL] at h
      obtain ⟨y, z, rfl, h3, h4⟩ := h
      simp only [List.take_succ_cons, SV.IsL]
      exact ⟨y, _, rfl, h3, ih h4⟩
theorem IsL_set {s : List SV} {u : List Value} (n : Nat) {c : SV} {x : Value} (h : SV.IsL r s u) (hc : c.Is r x) : SV.IsL r (s.set n c) (u.set n x) := by
  induction n generalizing s u with
  | zero =>
    cases s with
    | nil => simp only [SV.IsL] at h; subst h; simp [SV.IsL]
    | cons d cs =>
      simp only [SV.IsL] at h
      obtain ⟨y, z, rfl, h3, h4⟩ := h
      simp only [List.set_cons_zero, SV.IsL]
      exact ⟨x, z, rfl, hc, h4⟩
  | succ n ih =>
    cases s with
    | nil => simp only [SV.IsL] at h; subst h; simp [SV.IsL]
    | cons d cs =>
      simp only [SV.IsL] at h
      obtain ⟨y, z, rfl, h3, h4⟩ := h
      simp only [List.set_cons_succ, SV.IsL]
      exact ⟨y, _, rfl, h3, ih h4⟩
theorem IsL_v (us : List Value) : SV.IsL r (us.map SV.v) us := by
  induction us with
  | nil => simp [SV.IsL]
  | cons u us ih => simp only [List.map_cons, SV.IsL]; exact ⟨u, us, rfl, by simp [SV.Is], ih⟩
end
/-- Is it the value of one cell? -/
def SV.one : SV → Bool
  | .v x => x.oneCell'
  | .ptr .. | .row .. | .fn .. | .bnd .. | .emp | .zro | .mp .. => true
  | _ => false
theorem SV.one_is {r : List Loc} {s : SV} {u : Value} (h : s.one = true) (hs : s.Is r u) : u.oneCell' = true := by
  cases s <;> simp only [SV.one] at h <;> simp only [SV.Is] at hs
  case v x => subst hs; exact h
  case ptr => obtain ⟨l, _, rfl⟩ := hs; rfl
  case row => obtain ⟨l, c, _, _, _, rfl⟩ := hs; rfl
  case fn => obtain ⟨us, rfl, _⟩ := hs; rfl
  case bnd => obtain ⟨us, rfl, _⟩ := hs; rfl
  case emp => obtain ⟨a, c, rfl, _⟩ := hs; rfl
  case zro => obtain ⟨a, rfl, _⟩ := hs; rfl
  case mp => obtain ⟨l, _, rfl⟩ := hs; rfl
  all_goals simp at h
theorem IsL_one {r : List Loc} {s : List SV} {u : List Value} (h : SV.IsL r s u) (h1 : s.all SV.one = true) : ∀ x ∈ u, x.oneCell' = true := by
  induction s generalizing u with
  | nil => simp only [SV.IsL] at h; subst h; simp
  | cons c cs ih =>
    simp only [SV.IsL] at h
    obtain ⟨y, z, rfl, h3, h4⟩ := h
    simp at h1
    intro x hx
    simp at hx
    rcases hx with rfl | hx
    · exact SV.one_is h1.1 h3
    · exact ih h4 (by simpa using h1.2) x hx
/-- A value as a symbolic one, its parts side by side. -/
def SV.of : Value → SV
  | .agg cs => .agg (cs.toList.map .v)
  | .tuple vs => .tup (vs.toList.map .v)
  | x => .v x
theorem SV.of_is (r : List Loc) (u : Value) : (SV.of u).Is r u := by
  cases u <;> simp only [SV.of, SV.Is]
  case agg cs => exact ⟨cs.toList, by simp, IsL_v _⟩
  case tuple cs => exact ⟨cs.toList, by simp, IsL_v _⟩
/-- What an object is beside its cells: nothing, a map's entries (key, value), or something that is hidden, with the objects that it leads to. -/
inductive KT where
  | int (k : IntKind)
  | str
  | bool
  deriving DecidableEq
def KT.desc : KT → TypeDesc
  | .int k => .int k
  | .str => .string
  | .bool => .bool
inductive ExtV where
  | no
  | map (kt : KT) (es : List (Value × SV))
  | abs (A : Abs) (refs : List Nat)
class Ext where
  v : ExtV
instance noExt : Ext := ⟨.no⟩
/-- An object of the walk: is it the call's own (written by nobody else), and its cells. -/
structure SObj where
  own : Bool
  cells : List SV
  [x : Ext]
/-- Is it a map? -/
def SObj.isM (o : SObj) : Bool := match o.x.v with | .map _ _ => true | _ => false
@[simp] theorem isM_no {o : Bool} {cs : List SV} : (⟨o, cs⟩ : SObj).isM = false := rfl
/-- The memory of a walk. -/
abbrev Mem := List SObj
/-- What stood in w and may not be written (base: what may) is in w' as it was; the streams are as they were. -/
structure Low (base : Nat → Prop) (w w' : World) : Prop where
  os : w'.os = w.os
  tape : w'.tape = w.tape
  output : w'.output = w.output
  size : w.heap.size ≤ w'.heap.size
  block : ∀ k, k < w.heap.size → ¬ base k → w'.heap[k]? = w.heap[k]?
  shape : ∀ (k : Nat) (c : Array Value) (T : TypeId) (fr : Nat × Nat), w.heap[k]? = some (Obj.cells c T fr) → ∃ (c' : Array Value) (T' : TypeId) (fr' : Nat × Nat), w'.heap[k]? = some (Obj.cells c' T' fr') ∧ c'.size = c.size
theorem Low.refl (base : Nat → Prop) (w : World) : Low base w w := ⟨rfl, rfl, rfl, Nat.le_refl _, fun _ _ _ => rfl, fun k c T fr h => ⟨c, T, fr, h, rfl⟩⟩
theorem Low.trans {base : Nat → Prop} {a b c : World} (h : Low base a b) (k : Low base b c) : Low base a c :=
  ⟨k.os.trans h.os, k.tape.trans h.tape, k.output.trans h.output, Nat.le_trans h.size k.size, fun i hi hb => (k.block i (Nat.lt_of_lt_of_le hi h.size) hb).trans (h.block i hi hb), fun i d T fr hd => by
    obtain ⟨d1, T1, fr1, h1, e1⟩ := h.shape i d T fr hd
    obtain ⟨d2, T2, fr2, h2, e2⟩ := k.shape i d1 T1 fr1 h1
    exact ⟨d2, T2, fr2, h2, e2.trans e1⟩⟩
theorem Low.of_below {base : Nat → Prop} {w w' : World} (h : Below w.heap.size w w') : Low base w w' := ⟨h.os, h.tape, h.output, h.size, fun k hk _ => h.block k hk, fun k c T fr hk => ⟨c, T, fr, by rw [h.block k (Array.getElem?_eq_some_iff.1 hk).1]; exact hk, rfl⟩⟩
theorem Low.below {w w' : World} (h : Low (fun k => w.heap.size ≤ k) w w') : Below w.heap.size w w' := ⟨h.os, h.tape, h.output, h.size, fun k hk => h.block k hk (by omega)⟩
/-- The entries of a map. -/
def MapIs (r : List Loc) (d : TypeDesc) : Nat → List (Value × SV) → List MapEntry → Prop
  | _, [], es => es = []
  | n, p :: ps, es => ∃ e t, es = e :: t ∧ p.1 = e.key ∧ p.2.Is r e.val ∧ e.born = n ∧ Go.MapKept.IsKey d e.key ∧ MapIs r d (n + 1) ps t
theorem MapIs.grow {r : List Loc} {d : TypeDesc} (t : List Loc) : ∀ {n : Nat} {ps : List (Value × SV)} {es : List MapEntry}, MapIs r d n ps es → MapIs (r ++ t) d n ps es
  | n, [], es, h => h
  | n, p :: ps, es, h => by
    obtain ⟨e, t', rfl, h1, h2, h3, h4, h5⟩ := h
    exact ⟨e, t', rfl, h1, h2.grow t, h3, h4, MapIs.grow t h5⟩
/-- What is known of an object beside its cells. -/
def ExtIs (r : List Loc) (w : World) (l : Loc) (o : SObj) : Prop := match o.x.v with
  | .no => True
  | .map kt ps => (o.cells = [] ∧ l.room = 0 ∧ o.own = true) ∧ ∃ es, w.heap[l.blk]? = some (.map es ps.length) ∧ MapIs r kt.desc 0 ps es.toList
  | .abs _ _ => o.own = true
/-- What is hidden. -/
def HidIs (r : List Loc) (w : World) (l : Loc) (fp : List Nat) (o : SObj) : Prop := match o.x.v with
  | .abs A refs => ∃ ls, refs.mapM (r[·]?) = some ls ∧ A.holds ls l fp w
  | _ => True
@[simp] theorem hid_no {r : List Loc} {w : World} {l : Loc} {fp : List Nat} {o : Bool} {cs : List SV} : HidIs r w l fp ⟨o, cs⟩ = True := rfl
@[simp] theorem ext_no {r : List Loc} {w : World} {l : Loc} {o : Bool} {cs : List SV} : ExtIs r w l ⟨o, cs⟩ = True := rfl
structure ObjAt (base : Nat → Prop) (r : List Loc) (w : World) (l : Loc) (o : SObj) : Prop where
  there : o.isM = false → (o.own = true ∨ o.cells ≠ []) → ∃ c T fr, w.heap[l.blk]? = some (.cells c T fr) ∧ l.off + l.room ≤ c.size ∧ SV.IsL r o.cells ((c.toList.drop l.off).take o.cells.length) ∧ (o.own = true → fr = (0, 0))
  fits : o.cells.length ≤ l.room
  own : o.own = true → base l.blk
  lt : l.blk < w.heap.size
  ext : ExtIs r w l o
/-- The hidden blocks: whose they are. -/
structure Hid (base : Nat → Prop) (r : List Loc) (m : Mem) (w : World) (F : Nat → List Nat) : Prop where
  is : ∀ (k : Nat) (l : Loc) (o : SObj), r[k]? = some l → m[k]? = some o → HidIs r w l (F k) o
  base : ∀ k, ∀ b ∈ F k, base b ∧ b < w.heap.size
  far : ∀ k, ∀ b ∈ F k, ∀ (k' : Nat) (l : Loc) (o : SObj), r[k']? = some l → m[k']? = some o → (o.own = true ∨ o.cells ≠ []) → l.blk ≠ b
  apart : ∀ k k', ∀ b ∈ F k, b ∈ F k' → k = k'
/-- Cells that lie in memory from the beginning on, and are never written. -/
class Inp where
  at_ : Addr → Option Value
  keep : Nat
/-- The first objects are where they were. -/
def Kp [Inp] (r r' : List Loc) : Prop := ∀ (k : Nat) (l : Loc), k < Inp.keep → r[k]? = some l → r'[k]? = some l
theorem Kp.refl [Inp] (r : List Loc) : Kp r r := fun _ _ _ h => h
theorem Kp.trans [Inp] {r r' r'' : List Loc} (h : Kp r r') (h2 : Kp r' r'') : Kp r r'' := fun k l hk hl => h2 k l hk (h k l hk hl)
theorem Kp.ext [Inp] (r t : List Loc) : Kp r (r ++ t) := fun k l _ hl => by
  rw [List.getElem?_append_left (List.getElem?_eq_some_iff.1 hl).1]; exact hl
/-- What a world has of a walk's memory; below base it is as w0 was. -/
structure St [Inp] (base : Nat → Prop) (w0 : World) (r : List Loc) (m : Mem) (w : World) : Prop where
  low : Low base w0 w
  from_ : ∀ k, w0.heap.size ≤ k → base k
  inp : ∀ a u, Inp.at_ a = some u → ¬ base a.block ∧ w0.cell? a = some u
  len : r.length = m.length
  obj : ∀ (k : Nat) (l : Loc) (o : SObj), r[k]? = some l → m[k]? = some o → ObjAt base r w l o
  sep : ∀ (k k' : Nat) (l l' : Loc) (o o' : SObj), r[k]? = some l → r[k']? = some l' → m[k]? = some o → m[k']? = some o' → k ≠ k' → o.own = true → (o'.own = true ∨ o'.cells ≠ []) → l.blk ≠ l'.blk
  hid : ∃ F, Hid base r m w F
/-- What stood in a world stands in the other one. -/
def Same [Inp] (r : List Loc) (w w' : World) : Prop := (∀ b, b < w.heap.size → w'.heap[b]? = w.heap[b]?) ∧ ∀ a u, Inp.at_ a = some u → w.cell? a = some u → w'.cell? a = some u
theorem Same.refl [Inp] (r : List Loc) (w : World) : Same r w w := ⟨fun _ _ => rfl, fun _ _ _ h => h⟩
theorem Same.trans [Inp] {r : List Loc} {a b c : World} (h : Same r a b) (h2 : Same r b c) : Same r a c := ⟨fun k hk => by
  have e := h.1 k hk
  rw [Array.getElem?_eq_getElem hk] at e
  exact (h2.1 k (Array.getElem?_eq_some_iff.1 e).1).trans (h.1 k hk), fun x u hx hu => h2.2 x u hx (h.2 x u hx hu)⟩
theorem Same.part [Inp] {r t : List Loc} {a b : World} (h : Same (r ++ t) a b) : Same r a b := h
theorem ExtIs.same {r : List Loc} {w w' : World} {l : Loc} {o : SObj} (h : ExtIs r w l o) (hs : w'.heap[l.blk]? = w.heap[l.blk]?) : ExtIs r w' l o := by
  unfold ExtIs at h ⊢
  split
  · trivial
  · rename_i kt ps he
    simp only [he] at h
    obtain ⟨h0, es, h1, h2⟩ := h
    exact ⟨h0, es, hs.trans h1, h2⟩
  · rename_i A refs he
    simp only [he] at h
    exact h
theorem mapM_grow {r t : List Loc} : ∀ {refs : List Nat} {ls : List Loc}, refs.mapM (r[·]?) = some ls → refs.mapM ((r ++ t)[·]?) = some ls
  | [], ls, h => h
  | k :: ks, ls, h => by
    rw [List.mapM_cons] at h ⊢
    obtain ⟨a, ha, h⟩ := Option.bind_eq_some_iff.1 h
    obtain ⟨b, hb, h⟩ := Option.bind_eq_some_iff.1 h
    have ha' : (r ++ t)[k]? = some a := by rw [List.getElem?_append_left (List.getElem?_eq_some_iff.1 ha).1]; exact ha
    simp only [ha', mapM_grow hb]
    exact h
theorem ExtIs.grow {r : List Loc} {w : World} {l : Loc} {o : SObj} (h : ExtIs r w l o) (t : List Loc) : ExtIs (r ++ t) w l o := by
  unfold ExtIs at h ⊢
  split
  · trivial
  · rename_i kt ps he
    simp only [he] at h
    obtain ⟨h0, es, h1, h2⟩ := h
    exact ⟨h0, es, h1, h2.grow t⟩
  · rename_i A refs he
    simp only [he] at h
    exact h
theorem HidIs.same {r : List Loc} {w w' : World} {l : Loc} {fp : List Nat} {o : SObj} (h : HidIs r w l fp o) (hsz : w.heap.size ≤ w'.heap.size) (hs : ∀ b ∈ l.blk :: fp, w'.heap[b]? = w.heap[b]?) : HidIs r w' l fp o := by
  unfold HidIs at h ⊢
  split
  · rename_i A refs he
    simp only [he] at h
    obtain ⟨ls, h1, h2⟩ := h
    exact ⟨ls, h1, A.stable ls l fp w w' h2 hsz hs⟩
  · trivial
theorem HidIs.grow {r : List Loc} {w : World} {l : Loc} {fp : List Nat} {o : SObj} (h : HidIs r w l fp o) (t : List Loc) : HidIs (r ++ t) w l fp o := by
  unfold HidIs at h ⊢
  split
  · rename_i A refs he
    simp only [he] at h
    obtain ⟨ls, h1, h2⟩ := h
    exact ⟨ls, mapM_grow h1, h2⟩
  · trivial
/-- Does it hide something? -/
def SObj.isA (o : SObj) : Bool := match o.x.v with | .abs _ _ => true | _ => false
@[simp] theorem isA_no {o : Bool} {cs : List SV} : (⟨o, cs⟩ : SObj).isA = false := rfl
theorem HidIs.not {r : List Loc} {w : World} {l : Loc} {fp : List Nat} {o : SObj} (h : o.isA = false) : HidIs r w l fp o := by
  unfold HidIs
  unfold SObj.isA at h
  split
  · rename_i A refs he
    simp [he] at h
  · trivial
theorem ObjAt.same {base : Nat → Prop} {r : List Loc} {w w' : World} {l : Loc} {o : SObj} (h : ObjAt base r w l o) (hs : w'.heap[l.blk]? = w.heap[l.blk]?) : ObjAt base r w' l o := by
  obtain ⟨h1, h3, h4, h5, h6⟩ := h
  refine ⟨fun hm ha => ?_, h3, h4, ?_, h6.same hs⟩
  · obtain ⟨c, T, fr, h1, h2⟩ := h1 hm ha
    exact ⟨c, T, fr, hs.trans h1, h2⟩
  · rw [Array.getElem?_eq_getElem h5] at hs
    exact (Array.getElem?_eq_some_iff.1 hs).1
theorem ObjAt.grow {base : Nat → Prop} {r : List Loc} {w : World} {l : Loc} {o : SObj} (h : ObjAt base r w l o) (t : List Loc) : ObjAt base (r ++ t) w l o := by
  obtain ⟨h1, h5, h6, h7, h8⟩ := h
  refine ⟨fun hm ha => ?_, h5, h6, h7, h8.grow t⟩
  obtain ⟨c, T, fr, h1, h2, h3, h4⟩ := h1 hm ha
  exact ⟨c, T, fr, h1, h2, SV.IsL.grow t h3, h4⟩
theorem ObjAt.dead {base : Nat → Prop} {r : List Loc} {w : World} {l : Loc} (h : l.blk < w.heap.size) : ObjAt base r w l ⟨false, []⟩ :=
  ⟨fun _ ha => by simp at ha, by simp, by simp, h, trivial⟩
theorem ObjAt.isDead {base : Nat → Prop} {r : List Loc} {w : World} {l : Loc} {o : SObj} (h : ObjAt base r w l o) (ho : o.own = false) (hc : o.cells = []) : o = ⟨false, []⟩ := by
  obtain ⟨own, cells⟩ := o
  rename_i x
  simp only at ho hc
  subst ho; subst hc
  have := h.ext
  unfold ExtIs at this
  obtain ⟨x⟩ := x
  cases x with
  | no => rfl
  | map kt es => exact (Bool.false_ne_true (show (_ ∧ _ ∧ _) ∧ _ from this).1.2.2).elim
  | abs A refs => exact (Bool.false_ne_true (show _ from this)).elim
theorem ObjAt.isA_own {base : Nat → Prop} {r : List Loc} {w : World} {l : Loc} {o : SObj} (h : ObjAt base r w l o) (ha : o.isA = true) : o.own = true := by
  have := h.ext
  unfold ExtIs at this
  unfold SObj.isA at ha
  split at ha
  · rename_i A refs he
    simp only [he] at this
    exact this
  · cases ha
section
variable {base : Nat → Prop} {w0 w w' : World} {r : List Loc} {m : Mem}
theorem cell_lt {a : Addr} {u : Value} (h : w0.cell? a = some u) : a.block < w0.heap.size := by
  unfold World.cell? at h
  by_cases hh : a.block < w0.heap.size
  · exact hh
  · rw [Array.getElem?_eq_none (by omega)] at h; cases h
theorem cell_low {a : Addr} {u : Value} (hl : Low base w0 w) (hn : ¬ base a.block) (h : w0.cell? a = some u) : w.cell? a = some u := by
  unfold World.cell? at h ⊢
  have hlt : a.block < w0.heap.size := by
    by_cases hh : a.block < w0.heap.size
    · exact hh
    · rw [Array.getElem?_eq_none (by omega)] at h; cases h
  rw [hl.block _ hlt hn]; exact h
theorem St.inp_at [Inp] (h : St base w0 r m w) {a : Addr} {u : Value} (ha : Inp.at_ a = some u) : w.cell? a = some u := cell_low h.low (h.inp a u ha).1 (h.inp a u ha).2
theorem St.locs [Inp] (h : St base w0 r m w) : ∀ l ∈ r, l.blk < w.heap.size := by
  intro l hl
  obtain ⟨k, hk⟩ := List.getElem?_of_mem hl
  have hlt : k < m.length := by rw [← h.len]; exact (List.getElem?_eq_some_iff.1 hk).1
  exact (h.obj k l _ hk (List.getElem?_eq_getElem hlt)).lt
theorem St.sblk [Inp] (h : St base w0 r m w) (hs : Same r w w') {k : Nat} {l : Loc} (hl : r[k]? = some l) : w'.heap[l.blk]? = w.heap[l.blk]? := hs.1 _ (h.locs l (List.mem_of_getElem? hl))
theorem Hid.same {F : Nat → List Nat} (h : Hid base r m w F) (hl : ∀ (k : Nat) (l : Loc) (o : SObj), r[k]? = some l → m[k]? = some o → o.isA = true → w'.heap[l.blk]? = w.heap[l.blk]?) (hs : ∀ k, ∀ b ∈ F k, w'.heap[b]? = w.heap[b]?) (hsz : w.heap.size ≤ w'.heap.size) : Hid base r m w' F :=
  ⟨fun k l o h1 h2 => by
    cases ha : o.isA with
    | false => exact HidIs.not ha
    | true =>
      refine (h.is k l o h1 h2).same hsz fun b hb => ?_
      rcases List.mem_cons.1 hb with rfl | hb
      · exact hl k l o h1 h2 ha
      · exact hs k b hb, fun k b hb => ⟨(h.base k b hb).1, Nat.lt_of_lt_of_le (h.base k b hb).2 hsz⟩, h.far, h.apart⟩
theorem St.same [Inp] (h : St base w0 r m w) (hb : Low base w w') (hs : Same r w w') : St base w0 r m w' :=
  ⟨h.low.trans hb, h.from_, h.inp, h.len, fun k l o h1 h2 => (h.obj k l o h1 h2).same (h.sblk hs h1), h.sep, by
    obtain ⟨F, hF⟩ := h.hid
    exact ⟨F, hF.same (fun k l o h1 _ _ => h.sblk hs h1) (fun k b hb' => hs.1 _ (hF.base k b hb').2) hb.size⟩⟩
theorem Same.of_block [Inp] (hs : ∀ b, b < w.heap.size → w'.heap[b]? = w.heap[b]?) : Same r w w' := ⟨hs, fun a u ha hu => by
  have hlt := cell_lt hu
  unfold World.cell? at hu ⊢
  rw [hs _ hlt]; exact hu⟩
theorem Same.below [Inp] (h : St base w0 r m w) (hb : Below w.heap.size w w') : Same r w w' := Same.of_block fun b hbl => hb.block _ hbl
theorem St.below [Inp] (h : St base w0 r m w) (hb : Below w.heap.size w w') : St base w0 r m w' := h.same (Low.of_below hb) (Same.below h hb)
theorem St.drew [Inp] (h : St base w0 r m w) : St base w0 r m w.drew := h.below (Below.refl _ _).drew
theorem get_add {α : Type} {r : List α} {l : α} {k : Nat} {x : α} (hk : (r ++ [l])[k]? = some x) : (k < r.length ∧ r[k]? = some x) ∨ (k = r.length ∧ x = l) := by
  rcases Nat.lt_or_ge k r.length with h1 | h1
  · exact .inl ⟨h1, by rw [List.getElem?_append_left h1] at hk; exact hk⟩
  · rw [List.getElem?_append_right h1] at hk
    have := (List.getElem?_eq_some_iff.1 hk).1
    simp at this
    have e : k = r.length := by omega
    subst e
    simp at hk
    exact .inr ⟨rfl, hk.symm⟩
/-- A new object, in a block that is nobody's. -/
theorem St.addG [Inp] (h : St base w0 r m w) {F : Nat → List Nat} (hF : Hid base r m w F) (l : Loc) (o : SObj) (ho : ObjAt base (r ++ [l]) w l o) (ha : o.isA = false) (hnf : ∀ k, ∀ b ∈ F k, l.blk ≠ b) (hnew : ∀ (k : Nat) (l' : Loc) (o' : SObj), r[k]? = some l' → m[k]? = some o' → (o'.own = true ∨ o'.cells ≠ []) → l'.blk ≠ l.blk) : St base w0 (r ++ [l]) (m ++ [o]) w := by
  have hlen := h.len
  have key : ∀ (k : Nat) (x : Loc) (y : SObj), (r ++ [l])[k]? = some x → (m ++ [o])[k]? = some y → (k < r.length ∧ r[k]? = some x ∧ m[k]? = some y) ∨ (k = r.length ∧ x = l ∧ y = o) := by
    intro k x y h1 h2
    rcases get_add h1 with ⟨hk, hx⟩ | ⟨hk, rfl⟩ <;> rcases get_add h2 with ⟨hk2, hy⟩ | ⟨hk2, rfl⟩
    · exact .inl ⟨hk, hx, hy⟩
    · omega
    · omega
    · exact .inr ⟨hk, rfl, rfl⟩
  refine ⟨h.low, h.from_, h.inp, by simp [hlen], fun k x y h1 h2 => ?_, fun k k' x x' y y' h1 h1' h2 h2' hne hown hal => ?_, fun k => if k < r.length then F k else [], fun k x y h1 h2 => ?_, fun k b hb => ?_, fun k b hb k' x y h1 h2 hal => ?_, fun k k' b hb hb' => ?_⟩
  · rcases key k x y h1 h2 with ⟨hk, hx, hy⟩ | ⟨hk, rfl, rfl⟩
    · exact (h.obj k x y hx hy).grow [l]
    · exact ho
  · rcases key k x y h1 h2 with ⟨hk, hx, hy⟩ | ⟨hk, rfl, rfl⟩ <;> rcases key k' x' y' h1' h2' with ⟨hk3, hx3, hy3⟩ | ⟨hk3, rfl, rfl⟩
    · exact h.sep k k' x x' y y' hx hx3 hy hy3 hne hown hal
    · exact hnew k x y hx hy (.inl hown)
    · exact fun e => hnew k' x' y' hx3 hy3 hal e.symm
    · omega
  · rcases key k x y h1 h2 with ⟨hk, hx, hy⟩ | ⟨hk, rfl, rfl⟩
    · simp only [if_pos hk]; exact (hF.is k x y hx hy).grow [l]
    · exact HidIs.not ha
  · split at hb
    · exact hF.base k b hb
    · simp at hb
  · split at hb
    · rcases key k' x y h1 h2 with ⟨hk, hx, hy⟩ | ⟨hk, rfl, rfl⟩
      · exact hF.far k b hb k' x y hx hy hal
      · exact hnf k b hb
    · simp at hb
  · split at hb
    · split at hb'
      · exact hF.apart k k' b hb hb'
      · simp at hb'
    · simp at hb
/-- A new object, in a new block. -/
theorem St.add [Inp] (h : St base w0 r m w) (hb : Low base w w') (hs : Same r w w') (l : Loc) (o : SObj) (ho : ObjAt base (r ++ [l]) w' l o) (ha : o.isA = false) (hnew : w.heap.size ≤ l.blk) : St base w0 (r ++ [l]) (m ++ [o]) w' := by
  have h' := h.same hb hs
  obtain ⟨F, hF⟩ := h.hid
  have hF' : Hid base r m w' F := hF.same (fun k l o h1 _ _ => h.sblk hs h1) (fun k b hb' => hs.1 _ (hF.base k b hb').2) hb.size
  exact h'.addG hF' l o ho ha (fun k b hb' => by have := (hF.base k b hb').2; omega) (fun k l' o' h1 _ _ => by have := h.locs l' (List.mem_of_getElem? h1); omega)
end
end Go.Proofs.Ytibefgdjijmncaa.Sz
