/- Walks and plain facts for the law QuotaFullest, part MQFA. No condition. -/
import Derived.Test.YtcejgadbpahbmaaRows
import Derived.ProofKit
import Derived.Test.YtcejgadbpahbmaaProg
import Derived.WalkKit
import Derived.WalkLawsBesides
import Derived.Deep.QuietTactic
import Derived.BigQuiet
import Derived.Lib.Hide
import Derived.ChangeKeysEq
import Derived.OpenShut
import Derived.Below
import Derived.OrdersHeld
import Derived.Laws.AppendOwn
import Derived.Laws.CopyRow
import Derived.MapKept
import Derived.Laws.StructEq
import Derived.Laws.Slices
import Derived.Laws.BytesString
set_option linter.unusedVariables false
set_option linter.unusedSimpArgs false
section
namespace Go.Proofs.Ytcejgadbpahbmaa
theorem Try.shared1 : laidOutB Try.pinned.checked.prog = true := by kernel_rfl
theorem Try.shared2 : mapsRowed Try.pinned.checked.prog = true := by kernel_rfl
theorem Try.shared6 : (Try.pinned.checked.prog.stops == []) = true := by kernel_rfl
theorem Try.shared8 : (Try.pinned.checked.prog.stopKnobs == []) = true := by kernel_rfl
theorem Try.shared24 : Try.pinned.checked.prog.stopsHeard = true := by kernel_rfl
theorem Try.shared25 : Try.pinned.checked.prog.mayEnter = true := by kernel_rfl
theorem Try.shared22 : Try.pinned.checked.prog.plainKeys = Rows.rangesLawsRow.plainKeys := by kernel_rfl
theorem Try.shared26 : Try.pinned.checked.prog.liftsFinal = Rows.rangesLawsRow.lifted := by kernel_rfl
theorem Try.shared27 : Try.pinned.checked.prog.make = some Rows.rangesLawsRow.make := by kernel_rfl
theorem Try.ownK : ownKnob Try.prog.godebug = Option.none := by kernel_rfl
end Go.Proofs.Ytcejgadbpahbmaa
end
section
namespace Go.Proofs.Ytcejgadbpahbmaa
open Go.RowKit
section
variable {P : Program} (w : World)
end
end Go.Proofs.Ytcejgadbpahbmaa
end
section
namespace Go.Proofs.Ytcejgadbpahbmaa
open Go.ChangeShapes Go.WideShapes Go.ChangeAt Go.RowKit
theorem laidOut : laidOutB Try.prog = true := Try.shared1
section
variable {H : Type} {enc : TypeId × Value → H} {W W' : World}
theorem args_stay (hb : Below W.heap.size W W') : ∀ {ts : List TypeId} {vs : List Value} {ds : List (DataW H)} {p : List MemPlace}, (∀ t ∈ ts, Try.prog.readableRec t = true ∧ t < Try.prog.types.size) →
    DataW.TrodAll enc Try.prog W 0 (fun _ => true) true ts vs ds p → (∀ x ∈ p, x.block < W.heap.size) → DataW.TrodAll enc Try.prog W' 0 (fun b => decide (b < W.heap.size)) true ts vs ds p
  | [], [], [], _, _, h, _ => h
  | t :: ts, v :: vs, d :: ds, _, hr, h, hlt => by
    obtain ⟨p, q, h1, h2, rfl⟩ := h
    exact ⟨p, q, Below.trod laidOut (hr t (by simp)).1 (hr t (by simp)).2 h1 hb (fun x hx => hlt x (by simp [hx])), args_stay hb (fun t ht => hr t (by simp [ht])) h2 (fun x hx => hlt x (by simp [hx])), rfl⟩
theorem args_length : ∀ {ts : List TypeId} {vs : List Value} {ds : List (DataW H)} {p : List MemPlace}, DataW.TrodAll enc Try.prog W 0 (fun _ => true) true ts vs ds p → ds.length = ts.length ∧ vs.length = ts.length
  | [], [], [], _, _ => ⟨rfl, rfl⟩
  | t :: ts, v :: vs, d :: ds, _, h => by
    obtain ⟨p, q, h1, h2, rfl⟩ := h
    obtain ⟨a, b⟩ := args_length h2
    simp [a, b]
theorem law_step {n : Nat} {f : Func} {spec : ChangeSpec} {ts : List TypeId} (hp : f.params.toList = ts) (hro : f.resultTypes = #[4]) (hv : spec.vars = []) (hr : ∀ t ∈ ts, Try.prog.readableRec t = true ∧ t < Try.prog.types.size)
    (hs : ∀ ds : List (DataW H), ds.length = ts.length → spec.fn H ds = { results := [.lit (.bool true)], args := ds }) {args : Array Value} {ds gs : List (DataW H)} {before : List MemPlace}
    (hW : DataW.Whole enc Try.prog f.params.toList spec.vars false W args.toList ds gs before)
    (hwalk : ∀ p, DataW.TrodAll enc Try.prog W 0 (fun _ => true) true ts args.toList ds p → Calls Try.prog n args W fun e W' => e = .returned (.bool true) ∧ Below W.heap.size W W') :
    Calls Try.prog n args W fun e W' => ∃ v, e = .returned v ∧ spec.post enc Try.prog f false true false false W args v W' := by
  have hW' := hW
  obtain ⟨p, q, hA, hV, rfl, hfz, hnd⟩ := hW
  rw [hv] at hV
  obtain ⟨rfl, rfl⟩ := trodVars_none hV
  rw [hp] at hA
  obtain ⟨hl, _⟩ := args_length hA
  refine (hwalk p hA).mono fun e W' ⟨he, bel⟩ => ?_
  subst he
  have hlt : ∀ x ∈ p, x.block < W.heap.size := fun x hx => hW'.lt x (by simp [hx])
  have hd := hs ds hl
  refine ⟨_, rfl, ds, [], p ++ [], [], p, [], hW', ?_, ?_, ?_, bel.frame _, fun h => by cases h⟩
  · rw [List.append_nil, hd, hro]
    exact trodAll_mk1 (shut_bool Try.underlying4 _)
  · rw [List.append_nil, hd, hp]
    exact args_stay bel hr hA hlt
  · rw [List.append_nil, hd, hv]
    rfl
end
end Go.Proofs.Ytcejgadbpahbmaa
end
section
namespace Go.Proofs.Ytcejgadbpahbmaa.Sz
open Go.RowKit
structure Loc where
  blk : Nat
  off : Nat
  room : Nat
structure Abs where
  holds : List Loc → Loc → List Nat → World → Prop
  stable : ∀ (ls : List Loc) (l : Loc) (fp : List Nat) (W W' : World), holds ls l fp W → W.heap.size ≤ W'.heap.size → (∀ b ∈ l.blk :: fp, W'.heap[b]? = W.heap[b]?) → holds ls l fp W'
inductive SV where
  | v (x : Value)
  | ptr (k o : Nat)
  | row (k o n sz : Nat)
  | agg (cs : List SV)
  | tup (vs : List SV)
  | fn (f : FuncId) (cap : List SV)
  | bnd (f : FuncId) (first : List SV)
  | emp
  | any
  | zro
  | mp (k : Nat)
  deriving Inhabited
mutual
def SV.Is (r : List Loc) : SV → Value → Prop
  | .v x, u => u = x
  | .ptr k o, u => ∃ l, r[k]? = some l ∧ u = .pointer (some ⟨l.blk, l.off + o, none⟩)
  | .row k o n sz, u => ∃ l cap, r[k]? = some l ∧ n ≤ cap ∧ o + cap * sz ≤ l.room ∧ u = .slice (some ⟨l.blk, l.off + o, none⟩) n cap
  | .agg cs, u => ∃ us, u = .agg us.toArray ∧ SV.IsL r cs us
  | .tup cs, u => ∃ us, u = .tuple us.toArray ∧ SV.IsL r cs us
  | .fn f cs, u => ∃ us, u = .func (.func f) #[] us.toArray ∧ SV.IsL r cs us
  | .bnd f cs, u => ∃ us, u = .func (.func f) us.toArray #[] ∧ SV.IsL r cs us
  | .emp, u => ∃ a c, u = .slice (some a) 0 c ∧ a.spot = none
  | .any, _ => True
  | .zro, u => ∃ a, u = .slice a 0 0 ∧ ∀ x, a = some x → x.spot = none
  | .mp k, u => ∃ l, r[k]? = some l ∧ u = .map (some l.blk)
def SV.IsL (r : List Loc) : List SV → List Value → Prop
  | [], us => us = []
  | c :: cs, us => ∃ u t, us = u :: t ∧ c.Is r u ∧ SV.IsL r cs t
end
mutual
theorem SV.Is.grow {r : List Loc} (t : List Loc) : ∀ {s : SV} {u : Value}, s.Is r u → s.Is (r ++ t) u
  | .v x, u, h => h
  | .ptr k o, u, h => by
    simp only [SV.Is] at h ⊢
    obtain ⟨l, h1, h2⟩ := h
    exact ⟨l, by rw [List.getElem?_append_left (List.getElem?_eq_some_iff.1 h1).1]; exact h1, h2⟩
  | .row k o n sz, u, h => by
    simp only [SV.Is] at h ⊢
    obtain ⟨l, cap, h1, h2⟩ := h
    exact ⟨l, cap, by rw [List.getElem?_append_left (List.getElem?_eq_some_iff.1 h1).1]; exact h1, h2⟩
  | .agg cs, u, h => by
    simp only [SV.Is] at h ⊢
    obtain ⟨us, h1, h2⟩ := h
    exact ⟨us, h1, SV.IsL.grow t h2⟩
  | .tup cs, u, h => by
    simp only [SV.Is] at h ⊢
    obtain ⟨us, h1, h2⟩ := h
    exact ⟨us, h1, SV.IsL.grow t h2⟩
  | .fn f cs, u, h => by
    simp only [SV.Is] at h ⊢
    obtain ⟨us, h1, h2⟩ := h
    exact ⟨us, h1, SV.IsL.grow t h2⟩
  | .bnd f cs, u, h => by
    simp only [SV.Is] at h ⊢
    obtain ⟨us, h1, h2⟩ := h
    exact ⟨us, h1, SV.IsL.grow t h2⟩
  | .emp, u, h => by simpa only [SV.Is] using h
  | .any, u, h => by simp only [SV.Is]
  | .zro, u, h => by simpa only [SV.Is] using h
  | .mp k, u, h => by
    simp only [SV.Is] at h ⊢
    obtain ⟨l, h1, h2⟩ := h
    exact ⟨l, by rw [List.getElem?_append_left (List.getElem?_eq_some_iff.1 h1).1]; exact h1, h2⟩
theorem SV.IsL.grow {r : List Loc} (t : List Loc) : ∀ {s : List SV} {u : List Value}, SV.IsL r s u → SV.IsL (r ++ t) s u
  | [], u, h => h
  | c :: cs, u, h => by
    simp only [SV.IsL] at h ⊢
    obtain ⟨x, y, h1, h2, h3⟩ := h
    exact ⟨x, y, h1, SV.Is.grow t h2, SV.IsL.grow t h3⟩
end
section
variable {r : List Loc}
theorem IsL_len : ∀ {s : List SV} {u : List Value}, SV.IsL r s u → u.length = s.length
  | [], u, h => by simp only [SV.IsL] at h; subst h; rfl
  | c :: cs, u, h => by
    simp only [SV.IsL] at h
    obtain ⟨x, y, rfl, _, h3⟩ := h
    simp [IsL_len h3]
theorem IsL_get : ∀ {s : List SV} {u : List Value} {i : Nat} {c : SV}, SV.IsL r s u → s[i]? = some c → ∃ x, u[i]? = some x ∧ c.Is r x
  | [], u, i, c, h, hi => by simp at hi
  | d :: cs, u, 0, c, h, hi => by
    simp only [SV.IsL] at h
    obtain ⟨x, y, rfl, h2, h3⟩ := h
    simp at hi; subst hi
    exact ⟨x, rfl, h2⟩
  | d :: cs, u, i + 1, c, h, hi => by
    simp only [SV.IsL] at h
    obtain ⟨x, y, rfl, h2, h3⟩ := h
    simpa using IsL_get h3 (by simpa using hi)
theorem IsL_of : ∀ {s : List SV} {u : List Value}, u.length = s.length → (∀ (i : Nat) (c : SV) (x : Value), s[i]? = some c → u[i]? = some x → c.Is r x) → SV.IsL r s u
  | [], u, h, _ => by simp only [SV.IsL]; exact List.length_eq_zero_iff.1 (by simpa using h)
  | c :: cs, [], h, _ => by simp at h
  | c :: cs, x :: u, h, hg => by
    simp only [SV.IsL]
    exact ⟨x, u, rfl, hg 0 c x rfl rfl, IsL_of (by simpa using h) (fun i d y h1 h2 => hg (i + 1) d y (by simpa using h1) (by simpa using h2))⟩
theorem IsL_append {s t : List SV} {u x : List Value} (h : SV.IsL r s u) (h2 : SV.IsL r t x) : SV.IsL r (s ++ t) (u ++ x) := by
  induction s generalizing u with
  | nil => simp only [SV.IsL] at h; subst h; simpa using h2
  | cons c cs ih =>
    simp only [SV.IsL] at h
    obtain ⟨y, z, rfl, h3, h4⟩ := h
    simp only [List.cons_append, SV.IsL]
    exact ⟨y, _, rfl, h3, ih h4⟩
theorem IsL_drop {s : List SV} {u : List Value} (n : Nat) (h : SV.IsL r s u) : SV.IsL r (s.drop n) (u.drop n) := by
  induction n generalizing s u with
  | zero => simpa using h
  | succ n ih =>
    cases s with
    | nil => simp only [SV.IsL] at h; subst h; simp [SV.IsL]
    | cons c cs =>
      simp only [SV.IsL] at h
      obtain ⟨y, z, rfl, h3, h4⟩ := h
      simpa using ih h4
theorem IsL_take {s : List SV} {u : List Value} (n : Nat) (h : SV.IsL r s u) : SV.IsL r (s.take n) (u.take n) := by
  induction n generalizing s u with
  | zero => simp [SV.IsL]
  | succ n ih =>
    cases s with
    | nil => simp only [SV.IsL] at h; subst h; simp [SV.IsL]
    | cons c cs =>
      simp only [SV.IsL] at h
      obtain ⟨y, z, rfl, h3, h4⟩ := h
      simp only [List.take_succ_cons, SV.IsL]
      exact ⟨y, _, rfl, h3, ih h4⟩
theorem IsL_v (us : List Value) : SV.IsL r (us.map SV.v) us := by
  induction us with
  | nil => simp [SV.IsL]
  | cons u us ih => simp only [List.map_cons, SV.IsL]; exact ⟨u, us, rfl, by simp [SV.Is], ih⟩
end
def SV.one : SV → Bool
  | .v x => x.oneCell'
  | .ptr .. | .row .. | .fn .. | .bnd .. | .emp | .zro | .mp .. => true
  | _ => false
theorem SV.one_is {r : List Loc} {s : SV} {u : Value} (h : s.one = true) (hs : s.Is r u) : u.oneCell' = true := by
  cases s <;> simp only [SV.one] at h <;> simp only [SV.Is] at hs
  case v x => subst hs; exact h
  case ptr => obtain ⟨l, _, rfl⟩ := hs; rfl
  case row => obtain ⟨l, c, _, _, _, rfl⟩ := hs; rfl
  case fn => obtain ⟨us, rfl, _⟩ := hs; rfl
  case bnd => obtain ⟨us, rfl, _⟩ := hs; rfl
  case emp => obtain ⟨a, c, rfl, _⟩ := hs; rfl
  case zro => obtain ⟨a, rfl, _⟩ := hs; rfl
  case mp => obtain ⟨l, _, rfl⟩ := hs; rfl
  all_goals simp at h
theorem IsL_one {r : List Loc} {s : List SV} {u : List Value} (h : SV.IsL r s u) (h1 : s.all SV.one = true) : ∀ x ∈ u, x.oneCell' = true := by
  induction s generalizing u with
  | nil => simp only [SV.IsL] at h; subst h; simp
  | cons c cs ih =>
    simp only [SV.IsL] at h
    obtain ⟨y, z, rfl, h3, h4⟩ := h
    simp at h1
    intro x hx
    simp at hx
    rcases hx with rfl | hx
    · exact SV.one_is h1.1 h3
    · exact ih h4 (by simpa using h1.2) x hx
def SV.of : Value → SV
  | .agg cs => .agg (cs.toList.map .v)
  | .tuple vs => .tup (vs.toList.map .v)
  | x => .v x
theorem SV.of_is (r : List Loc) (u : Value) : (SV.of u).Is r u := by
  cases u <;> simp only [SV.of, SV.Is]
  case agg cs => exact ⟨cs.toList, by simp, IsL_v _⟩
  case tuple cs => exact ⟨cs.toList, by simp, IsL_v _⟩
inductive KT where
  | int (k : IntKind)
  | str
  | bool
  deriving DecidableEq
def KT.desc : KT → TypeDesc
  | .int k => .int k
  | .str => .string
  | .bool => .bool
inductive ExtV where
  | no
  | map (kt : KT) (es : List (Value × SV))
  | abs (A : Abs) (refs : List Nat)
class Ext where
  v : ExtV
instance noExt : Ext := ⟨.no⟩
structure SObj where
  own : Bool
  cells : List SV
  [x : Ext]
def SObj.isM (o : SObj) : Bool := match o.x.v with | .map _ _ => true | _ => false
@[simp] theorem isM_no {o : Bool} {cs : List SV} : (⟨o, cs⟩ : SObj).isM = false := rfl
abbrev Mem := List SObj
structure Low (base : Nat → Prop) (w w' : World) : Prop where
  os : w'.os = w.os
  tape : w'.tape = w.tape
  output : w'.output = w.output
  size : w.heap.size ≤ w'.heap.size
  block : ∀ k, k < w.heap.size → ¬ base k → w'.heap[k]? = w.heap[k]?
  shape : ∀ (k : Nat) (c : Array Value) (T : TypeId) (fr : Nat × Nat), w.heap[k]? = some (Obj.cells c T fr) → ∃ (c' : Array Value) (T' : TypeId) (fr' : Nat × Nat), w'.heap[k]? = some (Obj.cells c' T' fr') ∧ c'.size = c.size
theorem Low.refl (base : Nat → Prop) (w : World) : Low base w w := ⟨rfl, rfl, rfl, Nat.le_refl _, fun _ _ _ => rfl, fun k c T fr h => ⟨c, T, fr, h, rfl⟩⟩
theorem Low.trans {base : Nat → Prop} {a b c : World} (h : Low base a b) (k : Low base b c) : Low base a c :=
  ⟨k.os.trans h.os, k.tape.trans h.tape, k.output.trans h.output, Nat.le_trans h.size k.size, fun i hi hb => (k.block i (Nat.lt_of_lt_of_le hi h.size) hb).trans (h.block i hi hb), fun i d T fr hd => by
    obtain ⟨d1, T1, fr1, h1, e1⟩ := h.shape i d T fr hd
    obtain ⟨d2, T2, fr2, h2, e2⟩ := k.shape i d1 T1 fr1 h1
    exact ⟨d2, T2, fr2, h2, e2.trans e1⟩⟩
theorem Low.of_below {base : Nat → Prop} {w w' : World} (h : Below w.heap.size w w') : Low base w w' := ⟨h.os, h.tape, h.output, h.size, fun k hk _ => h.block k hk, fun k c T fr hk => ⟨c, T, fr, by rw [h.block k (Array.getElem?_eq_some_iff.1 hk).1]; exact hk, rfl⟩⟩
theorem Low.below {w w' : World} (h : Low (fun k => w.heap.size ≤ k) w w') : Below w.heap.size w w' := ⟨h.os, h.tape, h.output, h.size, fun k hk => h.block k hk (by omega)⟩
def MapIs (r : List Loc) (d : TypeDesc) : Nat → List (Value × SV) → List MapEntry → Prop
  | _, [], es => es = []
  | n, p :: ps, es => ∃ e t, es = e :: t ∧ p.1 = e.key ∧ p.2.Is r e.val ∧ e.born = n ∧ Go.MapKept.IsKey d e.key ∧ MapIs r d (n + 1) ps t
theorem MapIs.grow {r : List Loc} {d : TypeDesc} (t : List Loc) : ∀ {n : Nat} {ps : List (Value × SV)} {es : List MapEntry}, MapIs r d n ps es → MapIs (r ++ t) d n ps es
  | n, [], es, h => h
  | n, p :: ps, es, h => by
    obtain ⟨e, t', rfl, h1, h2, h3, h4, h5⟩ := h
    exact ⟨e, t', rfl, h1, h2.grow t, h3, h4, MapIs.grow t h5⟩
def ExtIs (r : List Loc) (w : World) (l : Loc) (o : SObj) : Prop := match o.x.v with
  | .no => True
  | .map kt ps => (o.cells = [] ∧ l.room = 0 ∧ o.own = true) ∧ ∃ es, w.heap[l.blk]? = some (.map es ps.length) ∧ MapIs r kt.desc 0 ps es.toList
  | .abs _ _ => o.own = true
def HidIs (r : List Loc) (w : World) (l : Loc) (fp : List Nat) (o : SObj) : Prop := match o.x.v with
  | .abs A refs => ∃ ls, refs.mapM (r[·]?) = some ls ∧ A.holds ls l fp w
  | _ => True
@[simp] theorem hid_no {r : List Loc} {w : World} {l : Loc} {fp : List Nat} {o : Bool} {cs : List SV} : HidIs r w l fp ⟨o, cs⟩ = True := rfl
@[simp] theorem ext_no {r : List Loc} {w : World} {l : Loc} {o : Bool} {cs : List SV} : ExtIs r w l ⟨o, cs⟩ = True := rfl
structure ObjAt (base : Nat → Prop) (r : List Loc) (w : World) (l : Loc) (o : SObj) : Prop where
  there : o.isM = false → (o.own = true ∨ o.cells ≠ []) → ∃ c T fr, w.heap[l.blk]? = some (.cells c T fr) ∧ l.off + l.room ≤ c.size ∧ SV.IsL r o.cells ((c.toList.drop l.off).take o.cells.length) ∧ (o.own = true → fr = (0, 0))
  fits : o.cells.length ≤ l.room
  own : o.own = true → base l.blk
  lt : l.blk < w.heap.size
  ext : ExtIs r w l o
structure Hid (base : Nat → Prop) (r : List Loc) (m : Mem) (w : World) (F : Nat → List Nat) : Prop where
  is : ∀ (k : Nat) (l : Loc) (o : SObj), r[k]? = some l → m[k]? = some o → HidIs r w l (F k) o
  base : ∀ k, ∀ b ∈ F k, base b ∧ b < w.heap.size
  far : ∀ k, ∀ b ∈ F k, ∀ (k' : Nat) (l : Loc) (o : SObj), r[k']? = some l → m[k']? = some o → (o.own = true ∨ o.cells ≠ []) → l.blk ≠ b
  apart : ∀ k k', ∀ b ∈ F k, b ∈ F k' → k = k'
class Inp where
  at_ : Addr → Option Value
  keep : Nat
def Kp [Inp] (r r' : List Loc) : Prop := ∀ (k : Nat) (l : Loc), k < Inp.keep → r[k]? = some l → r'[k]? = some l
theorem Kp.refl [Inp] (r : List Loc) : Kp r r := fun _ _ _ h => h
theorem Kp.trans [Inp] {r r' r'' : List Loc} (h : Kp r r') (h2 : Kp r' r'') : Kp r r'' := fun k l hk hl => h2 k l hk (h k l hk hl)
theorem Kp.ext [Inp] (r t : List Loc) : Kp r (r ++ t) := fun k l _ hl => by
  rw [List.getElem?_append_left (List.getElem?_eq_some_iff.1 hl).1]; exact hl
structure St [Inp] (base : Nat → Prop) (w0 : World) (r : List Loc) (m : Mem) (w : World) : Prop where
  low : Low base w0 w
  from_ : ∀ k, w0.heap.size ≤ k → base k
  inp : ∀ a u, Inp.at_ a = some u → ¬ base a.block ∧ w0.cell? a = some u
  len : r.length = m.length
  obj : ∀ (k : Nat) (l : Loc) (o : SObj), r[k]? = some l → m[k]? = some o → ObjAt base r w l o
  sep : ∀ (k k' : Nat) (l l' : Loc) (o o' : SObj), r[k]? = some l → r[k']? = some l' → m[k]? = some o → m[k']? = some o' → k ≠ k' → o.own = true → (o'.own = true ∨ o'.cells ≠ []) → l.blk ≠ l'.blk
  hid : ∃ F, Hid base r m w F
def Same [Inp] (r : List Loc) (w w' : World) : Prop := (∀ b, b < w.heap.size → w'.heap[b]? = w.heap[b]?) ∧ ∀ a u, Inp.at_ a = some u → w.cell? a = some u → w'.cell? a = some u
theorem Same.refl [Inp] (r : List Loc) (w : World) : Same r w w := ⟨fun _ _ => rfl, fun _ _ _ h => h⟩
theorem Same.trans [Inp] {r : List Loc} {a b c : World} (h : Same r a b) (h2 : Same r b c) : Same r a c := ⟨fun k hk => by
  have e := h.1 k hk
  rw [Array.getElem?_eq_getElem hk] at e
  exact (h2.1 k (Array.getElem?_eq_some_iff.1 e).1).trans (h.1 k hk), fun x u hx hu => h2.2 x u hx (h.2 x u hx hu)⟩
theorem Same.part [Inp] {r t : List Loc} {a b : World} (h : Same (r ++ t) a b) : Same r a b := h
theorem ExtIs.same {r : List Loc} {w w' : World} {l : Loc} {o : SObj} (h : ExtIs r w l o) (hs : w'.heap[l.blk]? = w.heap[l.blk]?) : ExtIs r w' l o := by
  unfold ExtIs at h ⊢
  split
  · trivial
  · rename_i kt ps he
    simp only [he] at h
    obtain ⟨h0, es, h1, h2⟩ := h
    exact ⟨h0, es, hs.trans h1, h2⟩
  · rename_i A refs he
    simp only [he] at h
    exact h
theorem mapM_grow {r t : List Loc} : ∀ {refs : List Nat} {ls : List Loc}, refs.mapM (r[·]?) = some ls → refs.mapM ((r ++ t)[·]?) = some ls
  | [], ls, h => h
  | k :: ks, ls, h => by
    rw [List.mapM_cons] at h ⊢
    obtain ⟨a, ha, h⟩ := Option.bind_eq_some_iff.1 h
    obtain ⟨b, hb, h⟩ := Option.bind_eq_some_iff.1 h
    have ha' : (r ++ t)[k]? = some a := by rw [List.getElem?_append_left (List.getElem?_eq_some_iff.1 ha).1]; exact ha
    simp only [ha', mapM_grow hb]
    exact h
theorem ExtIs.grow {r : List Loc} {w : World} {l : Loc} {o : SObj} (h : ExtIs r w l o) (t : List Loc) : ExtIs (r ++ t) w l o := by
  unfold ExtIs at h ⊢
  split
  · trivial
  · rename_i kt ps he
    simp only [he] at h
    obtain ⟨h0, es, h1, h2⟩ := h
    exact ⟨h0, es, h1, h2.grow t⟩
  · rename_i A refs he
    simp only [he] at h
    exact h
theorem HidIs.same {r : List Loc} {w w' : World} {l : Loc} {fp : List Nat} {o : SObj} (h : HidIs r w l fp o) (hsz : w.heap.size ≤ w'.heap.size) (hs : ∀ b ∈ l.blk :: fp, w'.heap[b]? = w.heap[b]?) : HidIs r w' l fp o := by
  unfold HidIs at h ⊢
  split
  · rename_i A refs he
    simp only [he] at h
    obtain ⟨ls, h1, h2⟩ := h
    exact ⟨ls, h1, A.stable ls l fp w w' h2 hsz hs⟩
  · trivial
theorem HidIs.grow {r : List Loc} {w : World} {l : Loc} {fp : List Nat} {o : SObj} (h : HidIs r w l fp o) (t : List Loc) : HidIs (r ++ t) w l fp o := by
  unfold HidIs at h ⊢
  split
  · rename_i A refs he
    simp only [he] at h
    obtain ⟨ls, h1, h2⟩ := h
    exact ⟨ls, mapM_grow h1, h2⟩
  · trivial
def SObj.isA (o : SObj) : Bool := match o.x.v with | .abs _ _ => true | _ => false
@[simp] theorem isA_no {o : Bool} {cs : List SV} : (⟨o, cs⟩ : SObj).isA = false := rfl
theorem HidIs.not {r : List Loc} {w : World} {l : Loc} {fp : List Nat} {o : SObj} (h : o.isA = false) : HidIs r w l fp o := by
  unfold HidIs
  unfold SObj.isA at h
  split
  · rename_i A refs he
    simp [he] at h
  · trivial
theorem ObjAt.same {base : Nat → Prop} {r : List Loc} {w w' : World} {l : Loc} {o : SObj} (h : ObjAt base r w l o) (hs : w'.heap[l.blk]? = w.heap[l.blk]?) : ObjAt base r w' l o := by
  obtain ⟨h1, h3, h4, h5, h6⟩ := h
  refine ⟨fun hm ha => ?_, h3, h4, ?_, h6.same hs⟩
  · obtain ⟨c, T, fr, h1, h2⟩ := h1 hm ha
    exact ⟨c, T, fr, hs.trans h1, h2⟩
  · rw [Array.getElem?_eq_getElem h5] at hs
    exact (Array.getElem?_eq_some_iff.1 hs).1
theorem ObjAt.grow {base : Nat → Prop} {r : List Loc} {w : World} {l : Loc} {o : SObj} (h : ObjAt base r w l o) (t : List Loc) : ObjAt base (r ++ t) w l o := by
  obtain ⟨h1, h5, h6, h7, h8⟩ := h
  refine ⟨fun hm ha => ?_, h5, h6, h7, h8.grow t⟩
  obtain ⟨c, T, fr, h1, h2, h3, h4⟩ := h1 hm ha
  exact ⟨c, T, fr, h1, h2, SV.IsL.grow t h3, h4⟩
theorem ObjAt.dead {base : Nat → Prop} {r : List Loc} {w : World} {l : Loc} (h : l.blk < w.heap.size) : ObjAt base r w l ⟨false, []⟩ :=
  ⟨fun _ ha => by simp at ha, by simp, by simp, h, trivial⟩
theorem ObjAt.isDead {base : Nat → Prop} {r : List Loc} {w : World} {l : Loc} {o : SObj} (h : ObjAt base r w l o) (ho : o.own = false) (hc : o.cells = []) : o = ⟨false, []⟩ := by
  obtain ⟨own, cells⟩ := o
  rename_i x
  simp only at ho hc
  subst ho; subst hc
  have := h.ext
  unfold ExtIs at this
  obtain ⟨x⟩ := x
  cases x with
  | no => rfl
  | map kt es => exact (Bool.false_ne_true (show (_ ∧ _ ∧ _) ∧ _ from this).1.2.2).elim
  | abs A refs => exact (Bool.false_ne_true (show _ from this)).elim
theorem ObjAt.isA_own {base : Nat → Prop} {r : List Loc} {w : World} {l : Loc} {o : SObj} (h : ObjAt base r w l o) (ha : o.isA = true) : o.own = true := by
  have := h.ext
  unfold ExtIs at this
  unfold SObj.isA at ha
  split at ha
  · rename_i A refs he
    simp only [he] at this
    exact this
  · cases ha
section
variable {base : Nat → Prop} {w0 w w' : World} {r : List Loc} {m : Mem}
theorem cell_lt {a : Addr} {u : Value} (h : w0.cell? a = some u) : a.block < w0.heap.size := by
  unfold World.cell? at h
  by_cases hh : a.block < w0.heap.size
  · exact hh
  · rw [Array.getElem?_eq_none (by omega)] at h; cases h
theorem cell_low {a : Addr} {u : Value} (hl : Low base w0 w) (hn : ¬ base a.block) (h : w0.cell? a = some u) : w.cell? a = some u := by
  unfold World.cell? at h ⊢
  have hlt : a.block < w0.heap.size := by
    by_cases hh : a.block < w0.heap.size
    · exact hh
    · rw [Array.getElem?_eq_none (by omega)] at h; cases h
  rw [hl.block _ hlt hn]; exact h
theorem St.inp_at [Inp] (h : St base w0 r m w) {a : Addr} {u : Value} (ha : Inp.at_ a = some u) : w.cell? a = some u := cell_low h.low (h.inp a u ha).1 (h.inp a u ha).2
theorem St.locs [Inp] (h : St base w0 r m w) : ∀ l ∈ r, l.blk < w.heap.size := by
  intro l hl
  obtain ⟨k, hk⟩ := List.getElem?_of_mem hl
  have hlt : k < m.length := by rw [← h.len]; exact (List.getElem?_eq_some_iff.1 hk).1
  exact (h.obj k l _ hk (List.getElem?_eq_getElem hlt)).lt
theorem St.sblk [Inp] (h : St base w0 r m w) (hs : Same r w w') {k : Nat} {l : Loc} (hl : r[k]? = some l) : w'.heap[l.blk]? = w.heap[l.blk]? := hs.1 _ (h.locs l (List.mem_of_getElem? hl))
theorem Hid.same {F : Nat → List Nat} (h : Hid base r m w F) (hl : ∀ (k : Nat) (l : Loc) (o : SObj), r[k]? = some l → m[k]? = some o → o.isA = true → w'.heap[l.blk]? = w.heap[l.blk]?) (hs : ∀ k, ∀ b ∈ F k, w'.heap[b]? = w.heap[b]?) (hsz : w.heap.size ≤ w'.heap.size) : Hid base r m w' F :=
  ⟨fun k l o h1 h2 => by
    cases ha : o.isA with
    | false => exact HidIs.not ha
    | true =>
      refine (h.is k l o h1 h2).same hsz fun b hb => ?_
      rcases List.mem_cons.1 hb with rfl | hb
      · exact hl k l o h1 h2 ha
      · exact hs k b hb, fun k b hb => ⟨(h.base k b hb).1, Nat.lt_of_lt_of_le (h.base k b hb).2 hsz⟩, h.far, h.apart⟩
theorem St.same [Inp] (h : St base w0 r m w) (hb : Low base w w') (hs : Same r w w') : St base w0 r m w' :=
  ⟨h.low.trans hb, h.from_, h.inp, h.len, fun k l o h1 h2 => (h.obj k l o h1 h2).same (h.sblk hs h1), h.sep, by
    obtain ⟨F, hF⟩ := h.hid
    exact ⟨F, hF.same (fun k l o h1 _ _ => h.sblk hs h1) (fun k b hb' => hs.1 _ (hF.base k b hb').2) hb.size⟩⟩
theorem Same.of_block [Inp] (hs : ∀ b, b < w.heap.size → w'.heap[b]? = w.heap[b]?) : Same r w w' := ⟨hs, fun a u ha hu => by
  have hlt := cell_lt hu
  unfold World.cell? at hu ⊢
  rw [hs _ hlt]; exact hu⟩
theorem Same.below [Inp] (h : St base w0 r m w) (hb : Below w.heap.size w w') : Same r w w' := Same.of_block fun b hbl => hb.block _ hbl
theorem St.below [Inp] (h : St base w0 r m w) (hb : Below w.heap.size w w') : St base w0 r m w' := h.same (Low.of_below hb) (Same.below h hb)
theorem St.drew [Inp] (h : St base w0 r m w) : St base w0 r m w.drew := h.below (Below.refl _ _).drew
theorem get_add {α : Type} {r : List α} {l : α} {k : Nat} {x : α} (hk : (r ++ [l])[k]? = some x) : (k < r.length ∧ r[k]? = some x) ∨ (k = r.length ∧ x = l) := by
  rcases Nat.lt_or_ge k r.length with h1 | h1
  · exact .inl ⟨h1, by rw [List.getElem?_append_left h1] at hk; exact hk⟩
  · rw [List.getElem?_append_right h1] at hk
    have := (List.getElem?_eq_some_iff.1 hk).1
    simp at this
    have e : k = r.length := by omega
    subst e
    simp at hk
    exact .inr ⟨rfl, hk.symm⟩
theorem St.addG [Inp] (h : St base w0 r m w) {F : Nat → List Nat} (hF : Hid base r m w F) (l : Loc) (o : SObj) (ho : ObjAt base (r ++ [l]) w l o) (ha : o.isA = false) (hnf : ∀ k, ∀ b ∈ F k, l.blk ≠ b) (hnew : ∀ (k : Nat) (l' : Loc) (o' : SObj), r[k]? = some l' → m[k]? = some o' → (o'.own = true ∨ o'.cells ≠ []) → l'.blk ≠ l.blk) : St base w0 (r ++ [l]) (m ++ [o]) w := by
  have hlen := h.len
  have key : ∀ (k : Nat) (x : Loc) (y : SObj), (r ++ [l])[k]? = some x → (m ++ [o])[k]? = some y → (k < r.length ∧ r[k]? = some x ∧ m[k]? = some y) ∨ (k = r.length ∧ x = l ∧ y = o) := by
    intro k x y h1 h2
    rcases get_add h1 with ⟨hk, hx⟩ | ⟨hk, rfl⟩ <;> rcases get_add h2 with ⟨hk2, hy⟩ | ⟨hk2, rfl⟩
    · exact .inl ⟨hk, hx, hy⟩
    · omega
    · omega
    · exact .inr ⟨hk, rfl, rfl⟩
  refine ⟨h.low, h.from_, h.inp, by simp [hlen], fun k x y h1 h2 => ?_, fun k k' x x' y y' h1 h1' h2 h2' hne hown hal => ?_, fun k => if k < r.length then F k else [], fun k x y h1 h2 => ?_, fun k b hb => ?_, fun k b hb k' x y h1 h2 hal => ?_, fun k k' b hb hb' => ?_⟩
  · rcases key k x y h1 h2 with ⟨hk, hx, hy⟩ | ⟨hk, rfl, rfl⟩
    · exact (h.obj k x y hx hy).grow [l]
    · exact ho
  · rcases key k x y h1 h2 with ⟨hk, hx, hy⟩ | ⟨hk, rfl, rfl⟩ <;> rcases key k' x' y' h1' h2' with ⟨hk3, hx3, hy3⟩ | ⟨hk3, rfl, rfl⟩
    · exact h.sep k k' x x' y y' hx hx3 hy hy3 hne hown hal
    · exact hnew k x y hx hy (.inl hown)
    · exact fun e => hnew k' x' y' hx3 hy3 hal e.symm
    · omega
  · rcases key k x y h1 h2 with ⟨hk, hx, hy⟩ | ⟨hk, rfl, rfl⟩
    · simp only [if_pos hk]; exact (hF.is k x y hx hy).grow [l]
    · exact HidIs.not ha
  · split at hb
    · exact hF.base k b hb
    · simp at hb
  · split at hb
    · rcases key k' x y h1 h2 with ⟨hk, hx, hy⟩ | ⟨hk, rfl, rfl⟩
      · exact hF.far k b hb k' x y hx hy hal
      · exact hnf k b hb
    · simp at hb
  · split at hb
    · split at hb'
      · exact hF.apart k k' b hb hb'
      · simp at hb'
    · simp at hb
theorem St.add [Inp] (h : St base w0 r m w) (hb : Low base w w') (hs : Same r w w') (l : Loc) (o : SObj) (ho : ObjAt base (r ++ [l]) w' l o) (ha : o.isA = false) (hnew : w.heap.size ≤ l.blk) : St base w0 (r ++ [l]) (m ++ [o]) w' := by
  have h' := h.same hb hs
  obtain ⟨F, hF⟩ := h.hid
  have hF' : Hid base r m w' F := hF.same (fun k l o h1 _ _ => h.sblk hs h1) (fun k b hb' => hs.1 _ (hF.base k b hb').2) hb.size
  exact h'.addG hF' l o ho ha (fun k b hb' => by have := (hF.base k b hb').2; omega) (fun k l' o' h1 _ _ => by have := h.locs l' (List.mem_of_getElem? h1); omega)
end
end Go.Proofs.Ytcejgadbpahbmaa.Sz
end
section
namespace Go.Proofs.Ytcejgadbpahbmaa.Sz
inductive CK where
  | int | bool | str
  deriving DecidableEq
def flatK (P : Program) : Nat → TypeId → Option (List CK)
  | 0, _ => none
  | d + 1, t =>
    match P.underlying t with
    | some (.int _) => some [.int]
    | some .bool => some [.bool]
    | some .string => some [.str]
    | some (.struct fs) => if P.stoodInHeld t then none else flatF P (flatK P d) 0 fs.toList
    | some (.array n e) => (flatK P d e).bind fun ks => if P.cellsOf e = ks.length then some (List.replicate n ks).flatten else none
    | _ => none
where flatF (P : Program) (rec : TypeId → Option (List CK)) : Nat → List Field → Option (List CK)
  | _, [] => some []
  | o, f :: fs => if f.name = "_" ∨ f.offset ≠ o then none else (rec f.type).bind fun ks => if (P.info? f.type).map (·.size) = some ks.length then (flatF P rec (o + ks.length) fs).map (ks ++ ·) else none
def EqC : List CK → List Value → List Value → Bool → Prop
  | [], us, vs, b => us = [] ∧ vs = [] ∧ b = true
  | k :: ks, us, vs, b => ∃ u us' v vs' b1 b2, us = u :: us' ∧ vs = v :: vs' ∧ b = (b1 && b2) ∧ EqC ks us' vs' b2 ∧
    (match k with
     | .int => ∃ q x y, u = .int q x ∧ v = .int q y ∧ b1 = (x == y)
     | .bool => ∃ x y, u = .bool x ∧ v = .bool y ∧ b1 = (x == y)
     | .str => ∃ x y, u = .string x ∧ v = .string y ∧ b1 = (x.toList == y.toList))
theorem EqC_len : ∀ {ks : List CK} {us vs : List Value} {b : Bool}, EqC ks us vs b → us.length = ks.length ∧ vs.length = ks.length
  | [], us, vs, b, h => by obtain ⟨rfl, rfl, _⟩ := h; simp
  | k :: ks, us, vs, b, h => by
    obtain ⟨u, us', v, vs', b1, b2, rfl, rfl, rfl, h1, _⟩ := h
    have := EqC_len h1
    simp [this]
theorem EqC_append : ∀ {ks ls : List CK} {us vs : List Value} {b : Bool}, EqC (ks ++ ls) us vs b → ∃ b1 b2, b = (b1 && b2) ∧ EqC ks (us.take ks.length) (vs.take ks.length) b1 ∧ EqC ls (us.drop ks.length) (vs.drop ks.length) b2
  | [], ls, us, vs, b, h => ⟨true, b, by simp, ⟨by simp, by simp, rfl⟩, by simpa using h⟩
  | k :: ks, ls, us, vs, b, h => by
    obtain ⟨u, us', v, vs', b1, b2, rfl, rfl, rfl, h1, h2⟩ := h
    obtain ⟨c1, c2, rfl, h3, h4⟩ := EqC_append h1
    exact ⟨b1 && c1, c2, by simp [Bool.and_assoc], ⟨u, _, v, _, b1, c1, by simp, by simp, rfl, h3, h2⟩, by simpa using h4⟩
def valOf (P : Program) (t : TypeId) (us : List Value) : Value :=
  match P.underlying t with
  | some (.struct _) | some (.array _ _) => .agg us.toArray
  | _ => us.headD (.tuple #[])
section
variable {P : Program}
theorem part_val {t : TypeId} {ks : List CK} {d : Nat} (hk : flatK P d t = some ks) (hn : (P.info? t).map (·.size) = some ks.length) (us : List Value) (off : Nat) (hl : off + ks.length ≤ us.length) (W : World) :
    (part t us.toArray off).run P W = .ok (valOf P t ((us.drop off).take ks.length)) W := by
  obtain ⟨i, hi, hsz⟩ := Option.map_eq_some_iff.1 hn
  cases d with
  | zero => simp [flatK] at hk
  | succ d =>
    simp only [flatK] at hk
    split at hk
    · rename_i q hu
      injection hk with hk; subst hk
      simp at hl
      have : us[off]? = some us[off] := List.getElem?_eq_getElem (by omega)
      simp only [part, isAgg, Sem.run_bind, run_underlying hu, Result.andThen_ok, Sem.run_pure, valOf, hu]
      simp [this, List.headD_eq_head?_getD, List.head?_take, List.head?_drop]
    · rename_i hu
      injection hk with hk; subst hk
      simp at hl
      have : us[off]? = some us[off] := List.getElem?_eq_getElem (by omega)
      simp only [part, isAgg, Sem.run_bind, run_underlying hu, Result.andThen_ok, Sem.run_pure, valOf, hu]
      simp [this, List.headD_eq_head?_getD, List.head?_take, List.head?_drop]
    · rename_i hu
      injection hk with hk; subst hk
      simp at hl
      have : us[off]? = some us[off] := List.getElem?_eq_getElem (by omega)
      simp only [part, isAgg, Sem.run_bind, run_underlying hu, Result.andThen_ok, Sem.run_pure, valOf, hu]
      simp [this, List.headD_eq_head?_getD, List.head?_take, List.head?_drop]
    · rename_i fs hu
      simp only [part, isAgg, Sem.run_bind, run_underlying hu, Result.andThen_ok, Sem.run_pure, if_true, sizeOf, typeInfo, run_program, hi, valOf, hu, hsz]
      simp
    · rename_i m e hu
      simp only [part, isAgg, Sem.run_bind, run_underlying hu, Result.andThen_ok, Sem.run_pure, if_true, sizeOf, typeInfo, run_program, hi, valOf, hu, hsz]
      simp
    · cases hk
theorem one_val {d : Nat} {t : TypeId} (hd : ∀ fs, P.underlying t ≠ some (.struct fs)) (ha : ∀ n e, P.underlying t ≠ some (.array n e)) (u : Value) : valOf P t [u] = u := by
  unfold valOf
  split
  · rename_i h; exact (hd _ h).elim
  · rename_i h; exact (ha _ _ h).elim
  · rfl
theorem eqFields_flat {rec : TypeId → Option (List CK)} {D d : Nat} (hrec : ∀ t, rec t = flatK P d t) (ih : ∀ {t : TypeId} {ks : List CK} {us vs : List Value} {b : Bool}, flatK P d t = some ks → EqC ks us vs b → ∀ W, (Op.equalIn D t (valOf P t us) (valOf P t vs)).run P W = .ok b W) (W : World) :
    ∀ (fs : List Field) (o : Nat) {ks : List CK} {b : Bool} {us vs : List Value}, flatK.flatF P rec o fs = some ks → us.length = vs.length → o + ks.length ≤ us.length → EqC ks ((us.drop o).take ks.length) ((vs.drop o).take ks.length) b → (Op.eqFields D us.toArray vs.toArray fs).run P W = .ok b W
  | [], o, ks, b, us, vs, hf, hlen, hl, h => by
    simp only [flatK.flatF] at hf
    injection hf with hf; subst hf
    obtain ⟨_, _, rfl⟩ := h
    simp [Op.eqFields]
  | f :: fs, o, ks, b, us, vs, hf, hlen, hl, h => by
    simp only [flatK.flatF] at hf
    split at hf
    · cases hf
    rename_i hcond
    have hname : f.name ≠ "_" := fun e => hcond (.inl e)
    have hoff : f.offset = o := by
      by_cases e : f.offset = o
      · exact e
      · exact (hcond (.inr e)).elim
    obtain ⟨k1, hk1, hf⟩ := Option.bind_eq_some_iff.1 hf
    split at hf
    · rename_i hsz
      obtain ⟨k2, hk2, hf⟩ := Option.map_eq_some_iff.1 hf
      subst hf
      rw [hrec] at hk1
      simp only [List.length_append] at hl h
      obtain ⟨b1, b2, rfl, h1, h2⟩ := EqC_append h
      rw [List.take_take, Nat.min_eq_left (by omega), List.take_take, Nat.min_eq_left (by omega)] at h1
      rw [List.drop_take, List.drop_drop, List.drop_take, List.drop_drop, Nat.add_sub_cancel_left] at h2
      have hp1 := part_val (P := P) hk1 hsz us o (by omega) W
      have hp2 := part_val (P := P) hk1 hsz vs o (by omega) W
      have he := ih hk1 h1 W
      have hr := eqFields_flat hrec ih W fs (o + k1.length) hk2 hlen (by omega) h2
      simp only [Op.eqFields, hoff]
      rw [if_pos hname]
      simp only [Sem.run_bind, hp1, Result.andThen_ok, hp2, he]
      cases b1
      · simp
      · simpa using hr
    · cases hf
theorem eqItems_flat {e : TypeId} {D d : Nat} {k1 : List CK} (hk1 : flatK P d e = some k1) (hsz : (P.info? e).map (·.size) = some k1.length) (ih : ∀ {t : TypeId} {ks : List CK} {us vs : List Value} {b : Bool}, flatK P d t = some ks → EqC ks us vs b → ∀ W, (Op.equalIn D t (valOf P t us) (valOf P t vs)).run P W = .ok b W) (W : World) :
    ∀ (n k : Nat) {b : Bool} {us vs : List Value}, us.length = vs.length → (k + n) * k1.length ≤ us.length → EqC (List.replicate n k1).flatten ((us.drop (k * k1.length)).take (n * k1.length)) ((vs.drop (k * k1.length)).take (n * k1.length)) b →
      (Op.eqItems D e k1.length us.toArray vs.toArray (List.range' k n)).run P W = .ok b W
  | 0, k, b, us, vs, hlen, hl, h => by
    simp only [List.replicate_zero, List.flatten_nil] at h
    obtain ⟨_, _, rfl⟩ := h
    simp [Op.eqItems]
  | n + 1, k, b, us, vs, hlen, hl, h => by
    simp only [List.replicate_succ, List.flatten_cons] at h
    have e1 : (n + 1) * k1.length = k1.length + n * k1.length := by rw [Nat.add_mul]; omega
    have e2 : (k + (n + 1)) * k1.length = k * k1.length + (k1.length + n * k1.length) := by rw [Nat.add_mul, e1]
    have e3 : (k + 1) * k1.length = k * k1.length + k1.length := by rw [Nat.add_mul]; omega
    rw [e1] at h
    rw [e2] at hl
    obtain ⟨b1, b2, rfl, h1, h2⟩ := EqC_append h
    rw [List.take_take, Nat.min_eq_left (by omega), List.take_take, Nat.min_eq_left (by omega)] at h1
    rw [List.drop_take, List.drop_drop, List.drop_take, List.drop_drop, Nat.add_sub_cancel_left] at h2
    have hp1 := part_val (P := P) hk1 hsz us (k * k1.length) (by omega) W
    have hp2 := part_val (P := P) hk1 hsz vs (k * k1.length) (by omega) W
    have he := ih hk1 h1 W
    have hr := eqItems_flat hk1 hsz ih W n (k + 1) hlen (by rw [show (k + 1 + n) = k + (n + 1) by omega, e2]; exact hl) (by rw [e3]; exact h2)
    rw [List.range'_succ]
    simp only [Op.eqItems, Sem.run_bind, hp1, Result.andThen_ok, hp2, he]
    cases b1
    · simp
    · simpa using hr
theorem eq_flat : ∀ (d : Nat) {t : TypeId} {ks : List CK} {us vs : List Value} {b : Bool}, flatK P d t = some ks → EqC ks us vs b → ∀ (D : Nat), d ≤ D → ∀ W, (Op.equalIn D t (valOf P t us) (valOf P t vs)).run P W = .ok b W
  | 0, t, ks, us, vs, b, hk, h, D, hD, W => by simp [flatK] at hk
  | d + 1, t, ks, us, vs, b, hk, h, D, hD, W => by
    obtain ⟨D, rfl⟩ : ∃ D', D = D' + 1 := ⟨D - 1, by omega⟩
    have hlen := EqC_len h
    simp only [flatK] at hk
    split at hk
    · rename_i q hu
      injection hk with hk; subst hk
      obtain ⟨u, us', v, vs', b1, b2, rfl, rfl, rfl, ⟨rfl, rfl, rfl⟩, q', x, y, rfl, rfl, rfl⟩ := h
      rw [one_val (d := 0) (by simp [hu]) (by simp [hu]), one_val (d := 0) (by simp [hu]) (by simp [hu]), Bool.and_true]
      exact run_equalIn_int W D t q' q x y hu
    · rename_i hu
      injection hk with hk; subst hk
      obtain ⟨u, us', v, vs', b1, b2, rfl, rfl, rfl, ⟨rfl, rfl, rfl⟩, x, y, rfl, rfl, rfl⟩ := h
      rw [one_val (d := 0) (by simp [hu]) (by simp [hu]), one_val (d := 0) (by simp [hu]) (by simp [hu]), Bool.and_true]
      exact run_equalIn_bool' W D t x y hu
    · rename_i hu
      injection hk with hk; subst hk
      obtain ⟨u, us', v, vs', b1, b2, rfl, rfl, rfl, ⟨rfl, rfl, rfl⟩, x, y, rfl, rfl, rfl⟩ := h
      rw [one_val (d := 0) (by simp [hu]) (by simp [hu]), one_val (d := 0) (by simp [hu]) (by simp [hu]), Bool.and_true]
      exact run_equalIn_string W D t x y hu
    · rename_i fs hu
      split at hk
      · cases hk
      rename_i hst
      have hfs : P.fieldsOf t = fs := by unfold Program.fieldsOf; rw [hu]
      have hv : ∀ l, valOf P t l = .agg l.toArray := fun l => by unfold valOf; rw [hu]
      rw [hv, hv, run_equalIn_struct W D t _ _ (by rw [hfs]; exact hu) (by simpa using hst), hfs]
      refine eqFields_flat (fun t => rfl) (fun {t ks us vs b} h1 h2 W => eq_flat d h1 h2 D (by omega) W) W fs.toList 0 hk (by omega) (by omega) ?_
      simp only [List.drop_zero]
      rw [List.take_of_length_le (by omega), List.take_of_length_le (by omega)]
      exact h
    · rename_i n e hu
      obtain ⟨k1, hk1, hk⟩ := Option.bind_eq_some_iff.1 hk
      split at hk
      · rename_i hc
        injection hk with hk; subst hk
        have hv : ∀ l, valOf P t l = .agg l.toArray := fun l => by unfold valOf; rw [hu]
        have hinfo : ∃ i, P.info? e = some i := by
          cases d with
          | zero => simp [flatK] at hk1
          | succ d =>
            cases hue : P.underlying e with
            | none => simp [flatK, hue] at hk1
            | some de => exact info_of_underlying hue
        obtain ⟨i, hi⟩ := hinfo
        have hsz : (P.info? e).map (·.size) = some k1.length := by
          rw [← hc]; simp [Program.cellsOf, hi]
        rw [hv, hv, run_equalIn_array W D _ _ hu hi, hc, List.range_eq_range']
        have hl : (List.replicate n k1).flatten.length = n * k1.length := by simp
        refine eqItems_flat hk1 hsz (fun {t ks us vs b} h1 h2 W => eq_flat d h1 h2 D (by omega) W) W n 0 (by omega) (by rw [Nat.zero_add]; omega) ?_
        simp only [Nat.zero_mul, List.drop_zero]
        rw [List.take_of_length_le (by omega), List.take_of_length_le (by omega)]
        exact h
      · cases hk
    · cases hk
end
end Go.Proofs.Ytcejgadbpahbmaa.Sz
end
section
namespace Go.Proofs.Ytcejgadbpahbmaa.Sz
open Go.RowKit
inductive XO where
  | tmp (t : Nat)
  | cst (s : SV)
def XO.of : Operand → XO
  | .tmp t => .tmp t
  | .const v => .cst (SV.of v)
  | .global g => .cst (.v (.pointer (some ⟨g, 0, none⟩)))
  | .func f => .cst (.fn f [])
abbrev Env := Nat → SV
def XO.get (e : Env) : XO → SV
  | .tmp t => e t
  | .cst s => s
structure EnvIs (n : Nat) (r : List Loc) (e : Env) (tmps : Array Value) : Prop where
  size : tmps.size = n
  is : ∀ t, (e t).Is r (tmps.getD t undef)
theorem EnvIs.get {n : Nat} {r : List Loc} {e : Env} {a : Act} (h : EnvIs n r e a.tmps) (x : Operand) : ((XO.of x).get e).Is r (a.eval x) := by
  cases x with
  | tmp t => exact h.is t
  | const v => exact SV.of_is r v
  | global g => simp only [XO.of, XO.get, SV.Is]; rfl
  | func f => simp only [XO.of, XO.get, SV.Is]; exact ⟨[], rfl, by simp [SV.IsL]⟩
theorem EnvIs.grow {n : Nat} {r : List Loc} {e : Env} {ts : Array Value} (h : EnvIs n r e ts) (t : List Loc) : EnvIs n (r ++ t) e ts := ⟨h.size, fun x => (h.is x).grow t⟩
def put (e : Env) (d : Nat) (s : SV) : Env := fun t => if t = d then s else e t
def putO (e : Env) : Option Nat → SV → Env
  | some d, s => put e d s
  | none, _ => e
theorem EnvIs.putO {n : Nat} {r : List Loc} {e : Env} {a : Act} (h : EnvIs n r e a.tmps) (d : Option Nat) (hd : ∀ x, d = some x → x < n) {s : SV} {u : Value} (hs : s.Is r u) : EnvIs n r (putO e d s) (a.put d u).tmps := by
  cases d with
  | none => exact h
  | some x =>
    have hx := hd x rfl
    refine ⟨by simp [Act.put, h.size], fun t => ?_⟩
    simp only [Sz.putO, put, Act.put]
    by_cases ht : t = x
    · subst ht
      simp only [if_true]
      rw [show (a.tmps.setIfInBounds t u).getD t undef = u by simp [h.size, hx]]
      exact hs
    · rw [if_neg ht]
      rw [show (a.tmps.setIfInBounds x u).getD t undef = a.tmps.getD t undef by simp [Array.getElem?_setIfInBounds_ne (fun e => ht e.symm)]]
      exact h.is t
inductive XA where
  | mv (x : XO)
  | pick (c a b : XO)
  | bin (op : BinOp) (x y : XO)
  | eqb (neg : Bool) (x y : XO)
  | eqn (neg : Bool) (srt : Nat) (x y : XO)
  | un (op : UnOp) (x : XO)
  | conv (k : IntKind) (x : XO)
  | field (off : Nat) (sz : Option Nat) (x : XO)
  | faddr (off : Nat) (x : XO)
  | iarr (n sz : Nat) (x i : XO)
  | isl (sz : Nat) (x i : XO)
  | idx (n sz : Nat) (agg : Bool) (x i : XO)
  | extract (i : Nat) (x : XO)
  | load (sz : Option Nat) (x : XO)
  | len (x : XO)
  | lens (x : XO)
  | nilc (x : XO)
  | mkfn (f : FuncId) (cap : List XO)
  | mkbnd (f : FuncId) (first : List XO)
  | eqs (neg : Bool) (ks : List CK) (x y : XO)
  | mx (big : Bool) (x : XO) (l : List XO)
  | slc (sz : Nat) (x : XO) (lo hi : Option XO)
  | slca (n sz : Nat) (x : XO) (lo hi : Option XO)
  | slcs (x : XO) (lo hi : Option XO)
  | slc3 (sz : Nat) (x : XO) (lo : Option XO) (hi mx : XO)
  | sidx (x i : XO)
  | b2s (x : XO)
  | strc (x : XO)
  | capc (x : XO)
  | lenm (x : XO)
  | look (kt : KT) (zero : SV) (ok : Bool) (x i : XO)
def XA.mem : XA → Bool
  | .load .. | .b2s .. | .lenm .. | .look .. => true
  | _ => false
def szOf (P : Program) (t : TypeId) : Option (Option Nat) :=
  match P.underlying t, P.info? t with
  | some (.struct _), some i | some (.array _ _), some i => some (some i.size)
  | some _, some _ => some none
  | _, _ => none
def ktOf (P : Program) (t : TypeId) : Option KT :=
  match P.underlying t with
  | some (.int k) => some (.int k)
  | some .string => some .str
  | some .bool => some .bool
  | _ => none
def isNeq : BinOp → Bool
  | .neq => true
  | _ => false
def compA (P : Program) : Op → Option XA
  | .move x | .assign x => some (.mv (XO.of x))
  | .pick c a b => some (.pick (XO.of c) (XO.of a) (XO.of b))
  | .binOp op t x y _ =>
    match op with
    | .eql | .neq =>
      match P.underlying t with
      | some (.int _) | some .string => some (.bin op (XO.of x) (XO.of y))
      | some .bool => some (.eqb (isNeq op) (XO.of x) (XO.of y))
      | some (.pointer _) => some (.eqn (isNeq op) 1 (XO.of x) (XO.of y))
      | some (.slice _) => some (.eqn (isNeq op) 2 (XO.of x) (XO.of y))
      | some (.func _ _ _) => some (.eqn (isNeq op) 3 (XO.of x) (XO.of y))
      | some (.struct _) | some (.array _ _) => if P.eqGuardType P.depth t then none else (flatK P 20 t).map fun ks => .eqs (isNeq op) ks (XO.of x) (XO.of y)
      | _ => none
    | _ => some (.bin op (XO.of x) (XO.of y))
  | .unOp op _ x => some (.un op (XO.of x))
  | .convert s d x =>
    match P.underlying s, P.underlying d with
    | some (.int _), some (.int k) => some (.conv k (XO.of x))
    | some .string, some .string => some (.strc (XO.of x))
    | some (.slice e), some .string => (match P.underlying e with | some (.int .u8) => some (.b2s (XO.of x)) | _ => none)
    | _, _ => none
  | .fieldAddr s x f =>
    match P.underlying s with
    | some (.struct fs) => (fs[f]?).bind fun f => (P.info? f.type).bind fun i => if i.size = 0 then none else some (.faddr f.offset (XO.of x))
    | _ => none
  | .field s x f =>
    match P.underlying s with
    | some (.struct fs) => (fs[f]?).bind fun f => (szOf P f.type).map fun z => .field f.offset z (XO.of x)
    | _ => none
  | .indexAddr t x i =>
    match P.underlying t with
    | some (.array n e) => (P.info? e).map fun j => .iarr n j.size (XO.of x) (XO.of i)
    | some (.slice e) => (P.info? e).map fun j => .isl j.size (XO.of x) (XO.of i)
    | _ => none
  | .index t x i =>
    match P.underlying t with
    | some (.array n e) => (P.info? e).bind fun j => (szOf P e).map fun z => .idx n j.size z.isSome (XO.of x) (XO.of i)
    | some .string => some (.sidx (XO.of x) (XO.of i))
    | _ => none
  | .extract x i => some (.extract i (XO.of x))
  | .load t x => (szOf P t).map fun z => .load z (XO.of x)
  | .nilCheck x => some (.nilc (XO.of x))
  | .makeFunc (.func f) first cap => if first.isEmpty then some (.mkfn f (cap.toList.map XO.of)) else if cap.isEmpty then some (.mkbnd f (first.toList.map XO.of)) else none
  | .call { callee := .builtin .len, args, argTypes } =>
    match args.toList, argTypes.toList with
    | [x], [t] =>
      match P.underlying t with
      | some (.slice _) => some (.len (XO.of x))
      | some .string => some (.lens (XO.of x))
      | some (.array n _) => some (.mv (.cst (.v (.int .i64 n))))
      | some (.map _ _) => some (.lenm (XO.of x))
      | _ => none
    | _, _ => none
  | .call { callee := .builtin .max, args, argTypes := _ } => match args.toList with | x :: l => some (.mx true (XO.of x) (l.map XO.of)) | [] => none
  | .call { callee := .builtin .min, args, argTypes := _ } => match args.toList with | x :: l => some (.mx false (XO.of x) (l.map XO.of)) | [] => none
  | .call { callee := .builtin .cap, args, argTypes } =>
    match args.toList, argTypes.toList with
    | [x], [t] =>
      match P.underlying t with
      | some (.slice _) => some (.capc (XO.of x))
      | _ => none
    | _, _ => none
  | .lookup t x i ok =>
    match P.underlying t with
    | some (.map kt et) => (ktOf P kt).bind fun k => (P.info? et).bind fun j => j.zero.map fun z => .look k (SV.of z) ok (XO.of x) (XO.of i)
    | _ => none
  | .slice t x lo hi none =>
    match P.underlying t with
    | some (.slice e) => (P.info? e).map fun j => .slc j.size (XO.of x) (lo.map XO.of) (hi.map XO.of)
    | some (.array n e) => (P.info? e).map fun j => .slca n j.size (XO.of x) (lo.map XO.of) (hi.map XO.of)
    | some .string => some (.slcs (XO.of x) (lo.map XO.of) (hi.map XO.of))
    | _ => none
  | .slice t x lo (some hi) (some mx) =>
    match P.underlying t with
    | some (.slice e) => (P.info? e).map fun j => .slc3 j.size (XO.of x) (lo.map XO.of) (XO.of hi) (XO.of mx)
    | _ => none
  | _ => none
def evInt (op : BinOp) (k k' : IntKind) (a b : Int) (K : SV → Prop) : Prop :=
  match op with
  | .shl => 0 ≤ b ∧ K (.v (.int k (k.wrap (a * 2 ^ (min b.toNat k.bits)))))
  | .shr => 0 ≤ b ∧ K (.v (.int k (a.fdiv (2 ^ (min b.toNat k.bits)))))
  | .add => k = k' ∧ K (.v (.int k (k.wrap (a + b))))
  | .sub => k = k' ∧ K (.v (.int k (k.wrap (a - b))))
  | .mul => k = k' ∧ K (.v (.int k (k.wrap (a * b))))
  | .quo => k = k' ∧ b ≠ 0 ∧ K (.v (.int k (k.wrap (a.tdiv b))))
  | .rem => k = k' ∧ b ≠ 0 ∧ K (.v (.int k (a.tmod b)))
  | .and => k = k' ∧ K (.v (.int k (k.wrap (BitVec.ofInt k.bits a &&& BitVec.ofInt k.bits b).toNat)))
  | .or => k = k' ∧ K (.v (.int k (k.wrap (BitVec.ofInt k.bits a ||| BitVec.ofInt k.bits b).toNat)))
  | .xor => k = k' ∧ K (.v (.int k (k.wrap (BitVec.ofInt k.bits a ^^^ BitVec.ofInt k.bits b).toNat)))
  | .andNot => k = k' ∧ K (.v (.int k (k.wrap (BitVec.ofInt k.bits a &&& ~~~ BitVec.ofInt k.bits b).toNat)))
  | .eql => k = k' ∧ K (.v (.bool (a == b)))
  | .neq => k = k' ∧ K (.v (.bool (a != b)))
  | .lss => k = k' ∧ K (.v (.bool (decide (a < b))))
  | .leq => k = k' ∧ K (.v (.bool (decide (a ≤ b))))
  | .gtr => k = k' ∧ K (.v (.bool (decide (a > b))))
  | .geq => k = k' ∧ K (.v (.bool (decide (a ≥ b))))
def evStr (op : BinOp) (a b : ByteArray) (K : SV → Prop) : Prop :=
  match op with
  | .add => (((a.size + b.size : Nat) : Int) ≤ 9223372036854775807) ∧ K (.v (.string (a ++ b)))
  | .eql => K (.v (.bool (a.toList == b.toList)))
  | .neq => K (.v (.bool (!(a.toList == b.toList))))
  | .lss => K (.v (.bool (Op.bytesLess a.toList b.toList)))
  | _ => False
def evBin (op : BinOp) (x y : SV) (K : SV → Prop) : Prop :=
  match x, y with
  | .v (.int k a), .v (.int k' b) => evInt op k k' a b K
  | .v (.string a), .v (.string b) => evStr op a b K
  | _, _ => False
def evEqb (neg : Bool) (x y : SV) (K : SV → Prop) : Prop :=
  match x, y with
  | .v (.bool a), .v (.bool b) => K (.v (.bool (bif neg then !(a == b) else a == b)))
  | _, _ => False
def isNil : SV → Option Bool
  | .v (.pointer p) => some p.isNone
  | .v (.slice p _ _) => some p.isNone
  | .v .nilFunc => some true
  | .ptr .. | .row .. | .fn .. | .emp | .bnd .. => some false
  | _ => none
def sort : SV → Nat
  | .v (.pointer _) | .ptr .. => 1
  | .v (.slice ..) | .row .. | .emp => 2
  | .v .nilFunc | .fn .. | .bnd .. => 3
  | _ => 0
def evEqn (neg : Bool) (srt : Nat) (x y : SV) (K : SV → Prop) : Prop :=
  match isNil x, isNil y with
  | some true, some b => (sort x = srt ∧ sort y = srt) ∧ K (.v (.bool (bif neg then !b else b)))
  | some false, some true => (sort x = srt ∧ sort y = srt) ∧ K (.v (.bool neg))
  | _, _ => False
def evUn (op : UnOp) (x : SV) (K : SV → Prop) : Prop :=
  match op, x with
  | .not, .v (.bool b) => K (.v (.bool !b))
  | .neg, .v (.int k n) => K (.v (.int k (k.wrap (0 - n))))
  | .xor, .v (.int k n) => K (.v (.int k (k.wrap (BitVec.ofInt k.bits (if k.signed then -1 else k.max) ^^^ BitVec.ofInt k.bits n).toNat)))
  | _, _ => False
def evPart (cs : List SV) (off : Nat) (sz : Option Nat) (K : SV → Prop) : Prop :=
  match sz with
  | none => match cs[off]? with | some s => K s | none => False
  | some n => off + n ≤ cs.length ∧ K (.agg ((cs.drop off).take n))
def evCs : List CK → List SV → List SV → (Bool → Prop) → Prop
  | [], [], [], K => K true
  | .int :: ks, .v (.int q a) :: xs, .v (.int q' b) :: ys, K => q = q' ∧ evCs ks xs ys fun r => K ((a == b) && r)
  | .bool :: ks, .v (.bool a) :: xs, .v (.bool b) :: ys, K => evCs ks xs ys fun r => K ((a == b) && r)
  | .str :: ks, .v (.string a) :: xs, .v (.string b) :: ys, K => evCs ks xs ys fun r => K ((a.toList == b.toList) && r)
  | _, _, _, _ => False
def evMx (big : Bool) : SV → List SV → (SV → Prop) → Prop
  | s, [], K => K s
  | .v (.int k a), .v (.int k' b) :: l, K => evMx big (.v (.int k (bif big then (if b > a then b else a) else (if b < a then b else a)))) l K
  | _, _, _ => False
def evBd (d : Nat) (x : Option SV) (K : Nat → Prop) : Prop :=
  match x with
  | none => K d
  | some (.v (.int _ j)) => 0 ≤ j ∧ K j.toNat
  | _ => False
def evCut (k o n sz : Nat) (lo hi : Option SV) (K : SV → Prop) : Prop :=
  evBd n hi fun h => evBd 0 lo fun l => (l ≤ h ∧ h ≤ n) ∧ (if l = 0 ∨ l < n then K (.row k (o + l * sz) (h - l) sz) else K .emp)
def inpL [Inp] (p : Option Addr) (k : Nat) : Option (List Value) :=
  if k = 0 then some [] else match p with
  | some a => if a.spot = none then (List.range k).mapM fun j => Inp.at_ (a.add j) else none
  | none => none
def plusA (p : Option Addr) (k : Nat) : Option Addr := p.map (·.add k)
def cutA (p : Option Addr) (l c sz : Nat) : Option Addr := if c = l then p else plusA p (l * sz)
def evInp [Inp] (p : Option Addr) (sz : Option Nat) (K : SV → Prop) : Prop :=
  match sz with
  | none => (match inpL p 1 with | some us => (match us with | u :: _ => K (.v u) | [] => False) | none => False)
  | some n => p.isSome = true ∧ (match inpL p n with | some us => K (.agg (us.map .v)) | none => False)
def bytesV : List SV → Option (List UInt8)
  | [] => some []
  | .v (.int .u8 n) :: l => (bytesV l).map (UInt8.ofNat n.toNat :: ·)
  | _ :: _ => none
def strOf (l : List UInt8) : ByteArray := ⟨l.toArray⟩
def slOf [Inp] (m : Mem) (z : Nat) : SV → Option (Nat × List SV)
  | .row k o n sz => if sz = z then match m[k]? with | some ob => if o + n * sz ≤ ob.cells.length then some (n, (ob.cells.drop o).take (n * sz)) else none | none => none else none
  | .v (.slice a n _) => (inpL a (n * z)).map fun us => (n, us.map .v)
  | .emp => some (0, [])
  | .zro => some (0, [])
  | _ => none
def mapO (kt : KT) (es : List (Value × SV)) : SObj := @SObj.mk true [] ⟨.map kt es⟩
def keq : Value → Value → Bool
  | .int _ a, .int _ b => a == b
  | .string a, .string b => a == b
  | .bool a, .bool b => a == b
  | _, _ => false
def isK : KT → Value → Bool
  | .int k, .int k' _ => k' == k
  | .str, .string _ => true
  | .bool, .bool _ => true
  | _, _ => false
def findM (key : Value) : Nat → List (Value × SV) → Option (Nat × SV)
  | _, [] => none
  | n, p :: ps => bif keq key p.1 then some (n, p.2) else findM key (n + 1) ps
def getM (key : Value) (es : List (Value × SV)) : Option SV := (findM key 0 es).map (·.2)
def putM (key : Value) (v : SV) : List (Value × SV) → List (Value × SV)
  | [] => [(key, v)]
  | p :: ps => bif keq key p.1 then (p.1, v) :: ps else p :: putM key v ps
def setM (v : SV) : Nat → List (Value × SV) → List (Value × SV)
  | _, [] => []
  | 0, p :: ps => (p.1, v) :: ps
  | n + 1, p :: ps => p :: setM v n ps
def mapOb (kt : KT) (ob : SObj) : Option (List (Value × SV)) := match ob.x.v with | .map kt' es => if kt' = kt then some es else none | _ => none
theorem mapOb_m {kt : KT} {es : List (Value × SV)} : mapOb kt (mapO kt es) = some es := if_pos rfl
def mapOf (m : Mem) (kt : KT) : SV → Option (List (Value × SV))
  | .mp k => match m[k]? with | some ob => mapOb kt ob | none => none
  | .v (.map none) => some []
  | _ => none
def lenOb (ob : SObj) : Option Nat := match ob.x.v with | .map _ es => some es.length | _ => none
def lenOf (m : Mem) : SV → Option Nat
  | .mp k => match m[k]? with | some ob => lenOb ob | none => none
  | .v (.map none) => some 0
  | _ => none
def lookR (ok : Bool) (zero : SV) (o : Option SV) : SV := bif ok then .tup [o.getD zero, .v (.bool o.isSome)] else o.getD zero
def evLook (kt : KT) (zero : SV) (ok : Bool) (es : Option (List (Value × SV))) (i : SV) (K : SV → Prop) : Prop := match es, i with
  | some es, .v key => isK kt key = true ∧ K (lookR ok zero (getM key es))
  | _, _ => False
def evB2s [Inp] (m : Mem) (s : SV) (K : SV → Prop) : Prop :=
  match slOf m 1 s with
  | some x => (match bytesV x.2 with | some bs => K (.v (.string (strOf bs))) | none => False)
  | none => False
def evA [Inp] (x : XA) (e : Env) (m : Mem) (K : SV → Prop) : Prop :=
  match x with
  | .mv x => K (x.get e)
  | .pick c a b => match c.get e with | .v (.bool t) => if t = true then K (a.get e) else K (b.get e) | _ => False
  | .bin op x y => evBin op (x.get e) (y.get e) K
  | .eqb neg x y => evEqb neg (x.get e) (y.get e) K
  | .eqn neg srt x y => evEqn neg srt (x.get e) (y.get e) K
  | .un op x => evUn op (x.get e) K
  | .conv k x => match x.get e with | .v (.int _ n) => K (.v (.int k (k.wrap n))) | _ => False
  | .field off sz x => match x.get e with | .agg cs => evPart cs off sz K | _ => False
  | .faddr off x => match x.get e with | .ptr k o => K (.ptr k (o + off)) | .v (.pointer p) => p.isSome = true ∧ K (.v (.pointer (plusA p off))) | _ => False
  | .iarr n sz x i => match x.get e, i.get e with | .ptr k o, .v (.int _ j) => (0 ≤ j ∧ j < (n : Int)) ∧ K (.ptr k (o + j.toNat * sz)) | .v (.pointer p), .v (.int _ j) => (0 ≤ j ∧ j < (n : Int) ∧ p.isSome = true) ∧ K (.v (.pointer (plusA p (j.toNat * sz)))) | _, _ => False
  | .isl sz x i => match x.get e, i.get e with | .row k o n s, .v (.int _ j) => (0 ≤ j ∧ j < (n : Int)) ∧ K (.ptr k (o + j.toNat * sz)) | .v (.slice p n c), .v (.int _ j) => (0 ≤ j ∧ j < (n : Int) ∧ p.isSome = true) ∧ K (.v (.pointer (plusA p (j.toNat * sz)))) | _, _ => False
  | .idx n sz agg x i => match x.get e, i.get e with | .agg cs, .v (.int _ j) => (0 ≤ j ∧ j < (n : Int)) ∧ evPart cs (j.toNat * sz) (bif agg then some sz else none) K | _, _ => False
  | .extract i x => match x.get e with | .tup cs => (match cs[i]? with | some s => K s | none => False) | _ => False
  | .load sz x => match x.get e with | .ptr k o => (match m[k]? with | some ob => evPart ob.cells o sz K | none => False) | .v (.pointer p) => evInp p sz K | _ => False
  | .len x => match x.get e with | .row _ _ n _ => K (.v (.int .i64 n)) | .emp => K (.v (.int .i64 0)) | .zro => K (.v (.int .i64 0)) | .v (.slice _ n _) => K (.v (.int .i64 n)) | _ => False
  | .lens x => match x.get e with | .v (.string s) => K (.v (.int .i64 s.size)) | _ => False
  | .nilc x => match x.get e with | .ptr k o => K (.ptr k o) | .fn f c => K (.fn f c) | .bnd f c => K (.bnd f c) | .v (.pointer p) => p.isSome = true ∧ K (.v (.pointer p)) | _ => False
  | .mkfn f cap => K (.fn f (cap.map (XO.get e)))
  | .mkbnd f l => K (.bnd f (l.map (XO.get e)))
  | .eqs neg ks x y => match x.get e, y.get e with | .agg xs, .agg ys => evCs ks xs ys fun b => K (.v (.bool (bif neg then !b else b))) | _, _ => False
  | .mx big x l => (match x.get e with | .v (.int k a) => evMx big (.v (.int k a)) (l.map (XO.get e)) K | _ => False)
  | .slc sz x lo hi => match x.get e with
    | .row k o n s => s = sz ∧ evCut k o n sz (lo.map (XO.get e)) (hi.map (XO.get e)) K
    | .v (.slice p n c) => evBd n (hi.map (XO.get e)) fun h => evBd 0 (lo.map (XO.get e)) fun l => (l ≤ h ∧ h ≤ c) ∧ K (.v (.slice (cutA p l c sz) (h - l) (c - l)))
    | .zro => evBd 0 (hi.map (XO.get e)) fun h => evBd 0 (lo.map (XO.get e)) fun l => (l ≤ h ∧ h ≤ 0) ∧ K .zro
    | .emp => evBd 0 (hi.map (XO.get e)) fun h => evBd 0 (lo.map (XO.get e)) fun l => (l ≤ h ∧ h ≤ 0) ∧ K .emp
    | _ => False
  | .slca n sz x lo hi => match x.get e with
    | .ptr k o => (match m[k]? with | some ob => o + n * sz ≤ ob.cells.length | none => False) ∧ evCut k o n sz (lo.map (XO.get e)) (hi.map (XO.get e)) K
    | _ => False
  | .slcs x lo hi => match x.get e with
    | .v (.string s) => evBd s.size (hi.map (XO.get e)) fun h => evBd 0 (lo.map (XO.get e)) fun l => (l ≤ h ∧ h ≤ s.size) ∧ K (.v (.string (s.extract l h)))
    | _ => False
  | .slc3 sz x lo hi mx => match x.get e with
    | .row k o n s => s = sz ∧ evBd n (some (mx.get e)) fun mm => evBd n (some (hi.get e)) fun h => evBd 0 (lo.map (XO.get e)) fun l => (l ≤ h ∧ h ≤ mm ∧ mm ≤ n) ∧ (if l = 0 ∨ l < mm then K (.row k (o + l * sz) (h - l) sz) else K .emp)
    | .v (.slice p n c) => evBd n (some (mx.get e)) fun mm => evBd n (some (hi.get e)) fun h => evBd 0 (lo.map (XO.get e)) fun l => (l ≤ h ∧ h ≤ mm ∧ mm ≤ c) ∧ K (.v (.slice (cutA p l mm sz) (h - l) (mm - l)))
    | .zro => evBd 0 (some (mx.get e)) fun mm => evBd 0 (some (hi.get e)) fun h => evBd 0 (lo.map (XO.get e)) fun l => (l ≤ h ∧ h ≤ mm ∧ mm ≤ 0) ∧ K .zro
    | .emp => evBd 0 (some (mx.get e)) fun mm => evBd 0 (some (hi.get e)) fun h => evBd 0 (lo.map (XO.get e)) fun l => (l ≤ h ∧ h ≤ mm ∧ mm ≤ 0) ∧ K .emp
    | _ => False
  | .sidx x i => match x.get e, i.get e with
    | .v (.string s), .v (.int _ j) => (0 ≤ j ∧ j < (s.size : Int)) ∧ K (.v (.int .u8 ((s[j.toNat]?.getD 0).toNat)))
    | _, _ => False
  | .b2s x => evB2s m (x.get e) K
  | .strc x => match x.get e with | .v (.string s) => K (.v (.string s)) | _ => False
  | .capc x => match x.get e with | .v (.slice _ _ c) => K (.v (.int .i64 c)) | _ => False
  | .lenm x => match lenOf m (x.get e) with | some n => K (.v (.int .i64 n)) | none => False
  | .look kt zero ok x i => evLook kt zero ok (mapOf m kt (x.get e)) (i.get e) K
def Den [Inp] (P : Program) (o : Oper) (mem : Bool) (r : List Loc) (W : World) (ev : Operand → Value) (u : Value) : Prop :=
  ∀ W', (mem = true → Same r W W') → (execOp ev o).run P W' = .ok (.value u) W'
section
variable {P : Program} {n : Nat} {r : List Loc} {e : Env} {m : Mem} {a : Act}
def aggD : TypeDesc → Bool
  | .struct _ | .array _ _ => true
  | _ => false
theorem szOf_agg {t : TypeId} {z : Nat} (h : szOf P t = some (some z)) : ∃ d i, P.underlying t = some d ∧ aggD d = true ∧ P.info? t = some i ∧ i.size = z := by
  unfold szOf at h
  split at h
  all_goals first | (simp at h; done) | skip
  all_goals
    rename_i hu hi
    simp at h
    exact ⟨_, _, hu, rfl, hi, h⟩
theorem szOf_one {t : TypeId} (h : szOf P t = some none) : ∃ d, P.underlying t = some d ∧ aggD d = false := by
  unfold szOf at h
  split at h
  all_goals first | (simp at h; done) | skip
  rename_i d i h1 h2 hu hi
  refine ⟨_, hu, ?_⟩
  cases d
  case struct f => exact (h1 f rfl).elim
  case array a b => exact (h2 a b rfl).elim
  all_goals rfl
theorem run_isAgg {t : TypeId} {d : TypeDesc} (h : P.underlying t = some d) (w : World) : (isAgg t).run P w = .ok (aggD d) w := by
  cases d <;> simp [isAgg, run_underlying h, aggD]
theorem take_drop_get (cs : List Value) (o k : Nat) : ∀ (j : Nat) (v : Value), ((cs.drop o).take k)[j]? = some v → cs[o + j]? = some v := by
  intro j v h
  rw [List.getElem?_take] at h
  split at h
  · rwa [List.getElem?_drop] at h
  · cases h
theorem evPart_sound {cs : List SV} {us : List Value} {off : Nat} {t : TypeId} {z : Option Nat} {K : SV → Prop} (hz : szOf P t = some z) (h : evPart cs off z K) (hs : SV.IsL r cs us) : ∃ s u, K s ∧ s.Is r u ∧ ∀ W, (part t us.toArray off).run P W = .ok u W := by
  cases z with
  | none =>
    obtain ⟨d, hd, hda⟩ := szOf_one hz
    simp only [evPart] at h
    split at h
    · rename_i s hsome
      obtain ⟨u, hu, hus⟩ := IsL_get hs hsome
      refine ⟨s, u, h, hus, fun W => ?_⟩
      simp [part, run_isAgg hd, hda, hu]
    · exact h.elim
  | some k =>
    obtain ⟨d, i, hd, hda, hi, hk⟩ := szOf_agg hz
    simp only [evPart] at h
    refine ⟨_, .agg ((us.drop off).take k).toArray, h.2, ?_, fun W => ?_⟩
    · simp only [SV.Is]
      exact ⟨_, rfl, IsL_take _ (IsL_drop _ hs)⟩
    · simp [part, run_isAgg hd, hda, sizeOf, typeInfo, hi, hk]
theorem evInt_sound {op : BinOp} {k k' : IntKind} {a b : Int} {K : SV → Prop} (t : TypeId) (h : evInt op k k' a b K) : ∃ s u, K s ∧ s.Is r u ∧ ∀ W, (binOp op t (.int k a) (.int k' b)).run P W = .ok u W := by
  cases op <;> simp only [evInt] at h
  case shl =>
    refine ⟨_, _, h.2, by simp only [SV.Is]; rfl, fun W => ?_⟩
    have : ¬ b < 0 := by omega
    simp [binOp, Op.shift, this]
  case shr =>
    refine ⟨_, _, h.2, by simp only [SV.Is]; rfl, fun W => ?_⟩
    have : ¬ b < 0 := by omega
    simp [binOp, Op.shift, this]
  case quo =>
    obtain ⟨rfl, h1, h2⟩ := h
    refine ⟨_, _, h2, by simp only [SV.Is]; rfl, fun W => ?_⟩
    simp [binOp, Op.intDiv, h1]
  case rem =>
    obtain ⟨rfl, h1, h2⟩ := h
    refine ⟨_, _, h2, by simp only [SV.Is]; rfl, fun W => ?_⟩
    simp [binOp, Op.intDiv, h1]
  all_goals
    obtain ⟨rfl, h2⟩ := h
    refine ⟨_, _, h2, by simp only [SV.Is]; rfl, fun W => ?_⟩
    simp [binOp, Op.intArith, Op.intBits, Op.intCmp]
theorem evStr_sound {op : BinOp} {a b : ByteArray} {K : SV → Prop} (t : TypeId) (h : evStr op a b K) : ∃ s u, K s ∧ s.Is r u ∧ ∀ W, (binOp op t (.string a) (.string b)).run P W = .ok u W := by
  cases op <;> simp only [evStr] at h
  case add =>
    refine ⟨_, _, h.2, by simp only [SV.Is]; rfl, fun W => ?_⟩
    have h1 := h.1
    have h' : ¬ (9223372036854775807 < (a.size : Int) + (b.size : Int)) := by omega
    have e : IntKind.i64.max = 9223372036854775807 := by decide
    simp [binOp, Op.stringOp, e, h']
  all_goals first | exact h.elim | skip
  all_goals
    refine ⟨_, _, h, by simp only [SV.Is]; rfl, fun W => ?_⟩
    simp [binOp, Op.stringOp]
end
end Go.Proofs.Ytcejgadbpahbmaa.Sz
end
section
namespace Go.Proofs.Ytcejgadbpahbmaa.Sz
open Go.RowKit
section
variable {P : Program} {n : Nat} {r : List Loc} {e : Env} {m : Mem} {a : Act}
theorem evBin_sound {op : BinOp} {x y : SV} {u v : Value} {K : SV → Prop} (t : TypeId) (h : evBin op x y K) (hx : x.Is r u) (hy : y.Is r v) (X Y : Operand) :
    ∃ s z, K s ∧ s.Is r z ∧ ∀ W, (do eqGuard op t X Y u v; binOp op t u v).run P W = .ok z W := by
  unfold evBin at h
  split at h
  · simp only [SV.Is] at hx hy
    subst hx hy
    obtain ⟨s, z, h1, h2, h3⟩ := evInt_sound (r := r) (P := P) t h
    refine ⟨s, z, h1, h2, fun W => ?_⟩
    rw [← h3 W]
    unfold eqGuard
    split <;> simp
  · simp only [SV.Is] at hx hy
    subst hx hy
    obtain ⟨s, z, h1, h2, h3⟩ := evStr_sound (r := r) (P := P) t h
    refine ⟨s, z, h1, h2, fun W => ?_⟩
    rw [← h3 W]
    unfold eqGuard
    split <;> simp
  · exact h.elim
theorem run_eq {t : TypeId} {u v : Value} {b : Bool} {W : World} (h1 : ∀ k a, u ≠ .int k a) (h2 : ∀ s, u ≠ .string s) (h3 : ∀ k a, u ≠ .float k a) (h4 : ∀ k a b, u ≠ .complex k a b) (h : (Op.equalIn (9999 + 1) t u v).run P W = .ok b W) :
    (binOp .eql t u v).run P W = .ok (.bool b) W ∧ (binOp .neq t u v).run P W = .ok (.bool !b) W := by
  have he : Op.equal t u v = Op.equalIn (9999 + 1) t u v := rfl
  cases u
  case int k a => exact (h1 k a rfl).elim
  case string a => exact (h2 a rfl).elim
  case float a b => exact (h3 a b rfl).elim
  case complex a b c => exact (h4 a b c rfl).elim
  all_goals
    constructor
    · show (do pure (Value.bool (← Op.equal t _ v))).run P W = _
      rw [he]; simp [h]
    · show (do pure (Value.bool (!(← Op.equal t _ v)))).run P W = _
      rw [he]; simp [h]
theorem evEqb_sound {op : BinOp} {x y : SV} {u v : Value} {K : SV → Prop} {t : TypeId} (hop : op = .eql ∨ op = .neq) (hu : P.underlying t = some .bool) (h : evEqb (isNeq op) x y K) (hx : x.Is r u) (hy : y.Is r v) (X Y : Operand) :
    ∃ s z, K s ∧ s.Is r z ∧ ∀ W, (do eqGuard op t X Y u v; binOp op t u v).run P W = .ok z W := by
  unfold evEqb at h
  split at h
  · rename_i a b
    simp only [SV.Is] at hx hy
    subst hx hy
    refine ⟨_, _, h, by simp only [SV.Is]; rfl, fun W => ?_⟩
    have hb := run_eq (P := P) (t := t) (u := .bool a) (v := .bool b) (b := a == b) (W := W) (by simp) (by simp) (by simp) (by simp) (run_equalIn_bool' W 9999 t a b hu)
    rcases hop with rfl | rfl
    · simp [eqGuard]; exact hb.1
    · simp [eqGuard]; exact hb.2
  · exact h.elim
theorem nil_is {x : SV} {u : Value} {k : Nat} {b : Bool} (h : isNil x = some b) (hk : sort x = k) (hx : x.Is r u) :
    (k = 1 ∧ ∃ p, u = .pointer p ∧ p.isNone = b) ∨ (k = 2 ∧ ∃ p n c, u = .slice p n c ∧ p.isNone = b) ∨ (k = 3 ∧ ((b = true ∧ u = .nilFunc) ∨ (b = false ∧ ∃ f a c, u = .func f a c))) := by
  unfold isNil at h
  split at h
  all_goals first | (simp at h; done) | skip
  all_goals simp only [SV.Is] at hx
  all_goals
    injection h with h
    subst h
    simp only [sort] at hk
    subst hk
  · subst hx; simp
  · subst hx; simp
  · subst hx; simp
  · obtain ⟨l, _, rfl⟩ := hx; simp
  · obtain ⟨l, c, _, _, _, rfl⟩ := hx; simp
  · obtain ⟨us, rfl, _⟩ := hx; simp
  · obtain ⟨a, c, rfl, _⟩ := hx; simp
  · obtain ⟨us, rfl, _⟩ := hx; simp
def SrtIs (P : Program) (t : TypeId) (k : Nat) : Prop := (k = 1 ∧ ∃ e, P.underlying t = some (.pointer e)) ∨ (k = 2 ∧ ∃ e, P.underlying t = some (.slice e)) ∨ (k = 3 ∧ ∃ x y z, P.underlying t = some (.func x y z))
section
variable (d : Nat) (t : TypeId) (W : World)
theorem eqIn_ptr0 {e : TypeId} (hu : P.underlying t = some (.pointer e)) (q : Option Addr) : (Op.equalIn (d + 1) t (.pointer none) (.pointer q)).run P W = .ok q.isNone W := by simp [Op.equalIn, run_underlying hu]
theorem eqIn_ptr1 {e : TypeId} (hu : P.underlying t = some (.pointer e)) (q : Addr) : (Op.equalIn (d + 1) t (.pointer (some q)) (.pointer none)).run P W = .ok false W := by simp [Op.equalIn, run_underlying hu]
theorem eqIn_sl0 {e : TypeId} (hu : P.underlying t = some (.slice e)) (q : Option Addr) (a b c f : Nat) : (Op.equalIn (d + 1) t (.slice none a b) (.slice q c f)).run P W = .ok q.isNone W := by simp [Op.equalIn, run_underlying hu]
theorem eqIn_sl1 {e : TypeId} (hu : P.underlying t = some (.slice e)) (q : Addr) (a b c f : Nat) : (Op.equalIn (d + 1) t (.slice (some q) a b) (.slice none c f)).run P W = .ok false W := by simp [Op.equalIn, run_underlying hu]
theorem eqIn_fn00 {x y : Array TypeId} {z : Bool} (hu : P.underlying t = some (.func x y z)) : (Op.equalIn (d + 1) t .nilFunc .nilFunc).run P W = .ok true W := by simp [Op.equalIn, run_underlying hu]
theorem eqIn_fn01 {x y : Array TypeId} {z : Bool} (hu : P.underlying t = some (.func x y z)) (f : Fn) (a b : Array Value) : (Op.equalIn (d + 1) t .nilFunc (.func f a b)).run P W = .ok false W := by simp [Op.equalIn, run_underlying hu]
theorem eqIn_fn10 {x y : Array TypeId} {z : Bool} (hu : P.underlying t = some (.func x y z)) (f : Fn) (a b : Array Value) : (Op.equalIn (d + 1) t (.func f a b) .nilFunc).run P W = .ok false W := by simp [Op.equalIn, run_underlying hu]
end
theorem evEqn_sound {op : BinOp} {x y : SV} {u v : Value} {K : SV → Prop} {t : TypeId} {k : Nat} (hop : op = .eql ∨ op = .neq) (hu : SrtIs P t k) (h : evEqn (isNeq op) k x y K) (hx : x.Is r u) (hy : y.Is r v) (X Y : Operand) :
    ∃ s z, K s ∧ s.Is r z ∧ ∀ W, (do eqGuard op t X Y u v; binOp op t u v).run P W = .ok z W := by
  unfold evEqn at h
  have fin : ∀ b : Bool, (∀ W, (Op.equalIn (9999 + 1) t u v).run P W = .ok b W) → (∀ k a, u ≠ .int k a) → (∀ s, u ≠ .string s) → (∀ k a, u ≠ .float k a) → (∀ k a b, u ≠ .complex k a b) → (u ≠ .nilIface) → (∀ c, u ≠ .agg c) → K (.v (.bool (bif (isNeq op) then !b else b))) →
      ∃ s z, K s ∧ s.Is r z ∧ ∀ W, (do eqGuard op t X Y u v; binOp op t u v).run P W = .ok z W := by
    intro b hb h1 h2 h3 h4 h5 h6 hK
    refine ⟨_, _, hK, by simp only [SV.Is]; rfl, fun W => ?_⟩
    have hb := run_eq (P := P) (t := t) (u := u) (v := v) (b := b) (W := W) h1 h2 h3 h4 (hb W)
    have hg : eqGuard op t X Y u v = pure () := by
      unfold eqGuard
      rcases hop with rfl | rfl <;> (cases u <;> first | rfl | exact (h5 rfl).elim | exact (h6 _ rfl).elim)
    rw [hg]
    rcases hop with rfl | rfl
    · simpa [isNeq] using hb.1
    · simpa [isNeq] using hb.2
  split at h
  · rename_i b hnx hny
    obtain ⟨⟨s1, s2⟩, hK⟩ := h
    have nx := nil_is hnx s1 hx
    have ny := nil_is hny s2 hy
    rcases hu with ⟨rfl, e, hu⟩ | ⟨rfl, e, hu⟩ | ⟨rfl, e1, e2, e3, hu⟩
    · obtain ⟨p, rfl, hp⟩ : ∃ p, u = .pointer p ∧ p.isNone = true := by simpa using nx
      obtain ⟨q, rfl, hq⟩ : ∃ p, v = .pointer p ∧ p.isNone = b := by simpa using ny
      obtain rfl : p = none := by simpa using hp
      exact fin b (fun W => (eqIn_ptr0 9999 t W hu q).trans (by rw [hq])) (by simp) (by simp) (by simp) (by simp) (by simp) (by simp) hK
    · obtain ⟨p, n1, c1, rfl, hp⟩ : ∃ p n c, u = .slice p n c ∧ p.isNone = true := by simpa using nx
      obtain ⟨q, n2, c2, rfl, hq⟩ : ∃ p n c, v = .slice p n c ∧ p.isNone = b := by simpa using ny
      obtain rfl : p = none := by simpa using hp
      exact fin b (fun W => (eqIn_sl0 9999 t W hu q n1 c1 n2 c2).trans (by rw [hq])) (by simp) (by simp) (by simp) (by simp) (by simp) (by simp) hK
    · obtain rfl : u = .nilFunc := by simpa using nx
      have ny' : (b = true ∧ v = .nilFunc) ∨ (b = false ∧ ∃ f a c, v = .func f a c) := by simpa using ny
      rcases ny' with ⟨rfl, rfl⟩ | ⟨rfl, f, a, c, rfl⟩
      · exact fin true (fun W => eqIn_fn00 9999 t W hu) (by simp) (by simp) (by simp) (by simp) (by simp) (by simp) hK
      · exact fin false (fun W => eqIn_fn01 9999 t W hu f a c) (by simp) (by simp) (by simp) (by simp) (by simp) (by simp) hK
  · rename_i hnx hny
    obtain ⟨⟨s1, s2⟩, hK⟩ := h
    have nx := nil_is hnx s1 hx
    have ny := nil_is hny s2 hy
    have hK' : K (.v (.bool (bif (isNeq op) then !false else false))) := by
      rcases hop with rfl | rfl <;> exact hK
    rcases hu with ⟨rfl, e, hu⟩ | ⟨rfl, e, hu⟩ | ⟨rfl, e1, e2, e3, hu⟩
    · obtain ⟨p, rfl, hp⟩ : ∃ p, u = .pointer p ∧ p.isNone = false := by simpa using nx
      obtain ⟨q, rfl, hq⟩ : ∃ p, v = .pointer p ∧ p.isNone = true := by simpa using ny
      obtain rfl : q = none := by simpa using hq
      obtain ⟨p, rfl⟩ : ∃ a, p = some a := by cases p <;> simp_all
      exact fin false (fun W => eqIn_ptr1 9999 t W hu p) (by simp) (by simp) (by simp) (by simp) (by simp) (by simp) hK'
    · obtain ⟨p, n1, c1, rfl, hp⟩ : ∃ p n c, u = .slice p n c ∧ p.isNone = false := by simpa using nx
      obtain ⟨q, n2, c2, rfl, hq⟩ : ∃ p n c, v = .slice p n c ∧ p.isNone = true := by simpa using ny
      obtain rfl : q = none := by simpa using hq
      obtain ⟨p, rfl⟩ : ∃ a, p = some a := by cases p <;> simp_all
      exact fin false (fun W => eqIn_sl1 9999 t W hu p n1 c1 n2 c2) (by simp) (by simp) (by simp) (by simp) (by simp) (by simp) hK'
    · obtain ⟨f, a, c, rfl⟩ : ∃ f a c, u = .func f a c := by simpa using nx
      obtain rfl : v = .nilFunc := by simpa using ny
      exact fin false (fun W => eqIn_fn10 9999 t W hu f a c) (by simp) (by simp) (by simp) (by simp) (by simp) (by simp) hK'
  · exact h.elim
theorem run_loadCells_at {W : World} {l : Loc} {us : List Value} {o : Nat} (h : ∀ (j : Nat) (u : Value), us[j]? = some u → W.cell? ⟨l.blk, l.off + j, none⟩ = some u) (k : Nat) (hk : o + k ≤ us.length) :
    (loadCells ⟨l.blk, l.off + o, none⟩ k).run P W = .ok ((us.drop o).take k).toArray W := by
  have := run_loadCells_list (P := P) W ⟨l.blk, l.off + o, none⟩ ((us.drop o).take k) (fun j v hj => by
    rw [Addr.add_lit]
    have := take_drop_get us o k j v hj
    rw [Nat.add_assoc]; exact h _ _ this)
  rwa [show ((us.drop o).take k).length = k by simp; omega] at this
theorem obj_cells' {base : Nat → Prop} {W : World} {l : Loc} {ob : SObj} (h : ObjAt base r W l ob) :
    ∃ us, SV.IsL r ob.cells us ∧ ∀ W' : World, W'.heap[l.blk]? = W.heap[l.blk]? → ∀ (j : Nat) (u : Value), us[j]? = some u → W'.cell? ⟨l.blk, l.off + j, none⟩ = some u := by
  cases hm : ob.isM with
  | true =>
    have := h.ext
    unfold ExtIs at this
    unfold SObj.isM at hm
    split at hm
    · rename_i kt ps he
      simp only [he] at this
      exact ⟨[], by rw [this.1.1]; simp [SV.IsL], fun _ _ j u hj => by simp at hj⟩
    · cases hm
  | false =>
    by_cases hc : ob.cells = []
    · exact ⟨[], by rw [hc]; simp [SV.IsL], fun _ _ j u hj => by simp at hj⟩
    obtain ⟨c, T, fr, h1, h2, h3, h4⟩ := h.there hm (.inr hc)
    refine ⟨_, h3, fun W' hs j u hj => ?_⟩
    rw [cell_of_row W' _ _ c T fr (hs.trans h1)]
    rw [List.getElem?_take] at hj
    split at hj
    · rw [List.getElem?_drop] at hj
      simpa using hj
    · cases hj
theorem load_sound {base : Nat → Prop} {W : World} {l : Loc} {ob : SObj} {o k0 : Nat} {t : TypeId} {z : Option Nat} {K : SV → Prop} (hz : szOf P t = some z) (h : evPart ob.cells o z K) (hl : r[k0]? = some l) (hob : ObjAt base r W l ob) :
    ∃ s u, K s ∧ s.Is r u ∧ ∀ W' : World, W'.heap[l.blk]? = W.heap[l.blk]? → (Instr.loadAt t (.pointer (some ⟨l.blk, l.off + o, none⟩))).run P W' = .ok u W' := by
  obtain ⟨us, hus, hW⟩ := obj_cells' hob
  cases z with
  | none =>
    obtain ⟨d, hd, hda⟩ := szOf_one hz
    simp only [evPart] at h
    split at h
    · rename_i s hsome
      obtain ⟨u, hu, huss⟩ := IsL_get hus hsome
      refine ⟨s, u, h, huss, fun W' hs => ?_⟩
      have hc : W'.cell? ⟨l.blk, l.off + o, none⟩ = some u := hW W' hs _ _ hu
      simp [Instr.loadAt, Instr.sureAddr, loadVar, run_isAgg (P := P) hd, hda, hc]
    · exact h.elim
  | some k =>
    obtain ⟨d, i, hd, hda, hi, hk⟩ := szOf_agg hz
    simp only [evPart] at h
    refine ⟨_, .agg ((us.drop o).take k).toArray, h.2, ?_, fun W' hs => ?_⟩
    · simp only [SV.Is]
      exact ⟨_, rfl, IsL_take _ (IsL_drop _ hus)⟩
    · have := run_loadCells_at (P := P) (hW W' hs) k (o := o) (by rw [IsL_len hus]; exact h.1)
      simp [Instr.loadAt, Instr.sureAddr, loadVar, run_isAgg (P := P) hd, hda, sizeOf, typeInfo, hi, hk, this]
theorem ev_list (hg : ∀ x, ((XO.of x).get e).Is r (a.eval x)) : ∀ l : List Operand, SV.IsL r (l.map fun x => (XO.of x).get e) (l.map a.eval)
  | [] => by simp [SV.IsL]
  | x :: l => by simp only [List.map_cons, SV.IsL]; exact ⟨_, _, rfl, hg x, ev_list hg l⟩
theorem evCs_sound : ∀ {ks : List CK} {xs ys : List SV} {us vs : List Value} {K : Bool → Prop}, evCs ks xs ys K → SV.IsL r xs us → SV.IsL r ys vs → ∃ b, K b ∧ EqC ks us vs b := by
  intro ks
  induction ks with
  | nil =>
    intro xs ys us vs K h hx hy
    unfold evCs at h
    split at h
    case h_1 =>
      simp only [SV.IsL] at hx hy
      subst hx hy
      exact ⟨true, h, rfl, rfl, rfl⟩
    case h_5 => exact h.elim
    all_goals exact absurd ‹([] : List CK) = _› (by simp)
  | cons k ks ih =>
    intro xs ys us vs K h hx hy
    unfold evCs at h
    split at h
    case h_1 => exact absurd ‹_ = ([] : List CK)› (by simp)
    case h_2 =>
      have heq := ‹(k :: ks : List CK) = _›
      injection heq with e1 e2
      subst e1 e2
      simp only [SV.IsL, SV.Is] at hx hy
      obtain ⟨u, us', rfl, rfl, hx⟩ := hx
      obtain ⟨v, vs', rfl, rfl, hy⟩ := hy
      obtain ⟨rfl, h⟩ := h
      obtain ⟨b, hb, he⟩ := ih h hx hy
      exact ⟨_, hb, _, _, _, _, _, b, rfl, rfl, rfl, he, _, _, _, rfl, rfl, rfl⟩
    case h_3 =>
      have heq := ‹(k :: ks : List CK) = _›
      injection heq with e1 e2
      subst e1 e2
      simp only [SV.IsL, SV.Is] at hx hy
      obtain ⟨u, us', rfl, rfl, hx⟩ := hx
      obtain ⟨v, vs', rfl, rfl, hy⟩ := hy
      obtain ⟨b, hb, he⟩ := ih h hx hy
      exact ⟨_, hb, _, _, _, _, _, b, rfl, rfl, rfl, he, _, _, rfl, rfl, rfl⟩
    case h_4 =>
      have heq := ‹(k :: ks : List CK) = _›
      injection heq with e1 e2
      subst e1 e2
      simp only [SV.IsL, SV.Is] at hx hy
      obtain ⟨u, us', rfl, rfl, hx⟩ := hx
      obtain ⟨v, vs', rfl, rfl, hy⟩ := hy
      obtain ⟨b, hb, he⟩ := ih h hx hy
      exact ⟨_, hb, _, _, _, _, _, b, rfl, rfl, rfl, he, _, _, rfl, rfl, rfl⟩
    case h_5 => exact h.elim
theorem evEqs_sound {op : BinOp} {xs ys : List SV} {us vs : List Value} {K : SV → Prop} {t : TypeId} {ks : List CK} (hop : op = .eql ∨ op = .neq) (hwide : ∀ l, valOf P t l = .agg l.toArray) (hgd : P.eqGuardType P.depth t = false) (hk : flatK P 20 t = some ks)
    (h : evCs ks xs ys fun b => K (.v (.bool (bif isNeq op then !b else b)))) (hx : SV.IsL r xs us) (hy : SV.IsL r ys vs) (X Y : Operand) :
    ∃ s z, K s ∧ s.Is r z ∧ ∀ W, (do eqGuard op t X Y (.agg us.toArray) (.agg vs.toArray); binOp op t (.agg us.toArray) (.agg vs.toArray)).run P W = .ok z W := by
  obtain ⟨b, hb, he⟩ := evCs_sound h hx hy
  refine ⟨_, _, hb, by simp only [SV.Is]; rfl, fun W => ?_⟩
  have hq := eq_flat 20 hk he (9999 + 1) (by omega) W
  rw [hwide, hwide] at hq
  have h2 := run_eq (P := P) (t := t) (b := b) (W := W) (by simp) (by simp) (by simp) (by simp) hq
  rcases hop with rfl | rfl
  · simp only [eqGuard, Sem.run_bind, run_program, Result.andThen_ok, hgd]
    simpa [isNeq, hgd] using h2.1
  · simp only [eqGuard, Sem.run_bind, run_program, Result.andThen_ok, hgd]
    simpa [isNeq, hgd] using h2.2
theorem evMx_sound (big : Bool) : ∀ {l : List SV} {us : List Value} {k : IntKind} {a : Int} {K : SV → Prop}, evMx big (.v (.int k a)) l K → SV.IsL r l us → ∃ s u, K s ∧ s.Is r u ∧ ∀ W, (us.foldlM (bif big then Builtin.max2 else Builtin.min2) (.int k a)).run P W = .ok u W
  | [], us, k, a, K, h, hl => by
    simp only [evMx] at h
    simp only [SV.IsL] at hl
    subst hl
    exact ⟨_, _, h, by simp only [SV.Is]; rfl, fun W => by simp⟩
  | c :: l, us, k, a, K, h, hl => by
    simp only [SV.IsL] at hl
    obtain ⟨x, y, rfl, hc, hl⟩ := hl
    unfold evMx at h
    split at h
    · rename_i heq; cases heq
    · rename_i k1 a1 k2 b l' h1 h2
      cases h1
      cases h2
      simp only [SV.Is] at hc
      subst hc
      obtain ⟨s, u, g1, g2, g3⟩ := evMx_sound big h hl
      refine ⟨s, u, g1, g2, fun W => ?_⟩
      rw [List.foldlM_cons]
      cases big
      · simp only [cond_false] at g3 ⊢
        simp only [Builtin.min2, Sem.run_bind, Sem.run_pure, Result.andThen_ok]
        exact g3 W
      · simp only [cond_true] at g3 ⊢
        simp only [Builtin.max2, Sem.run_bind, Sem.run_pure, Result.andThen_ok]
        exact g3 W
    · exact h.elim
theorem evBd_sound (hg : ∀ x, ((XO.of x).get e).Is r (a.eval x)) {d : Nat} {x : Option Operand} {K : Nat → Prop} (h : evBd d ((x.map XO.of).map (XO.get e)) K) :
    ∃ j, K j ∧ ((x = none ∧ j = d) ∨ ∃ v k i, x = some v ∧ a.eval v = .int k i ∧ 0 ≤ i ∧ j = i.toNat) := by
  cases x with
  | none => exact ⟨d, h, .inl ⟨rfl, rfl⟩⟩
  | some v =>
    have hv := hg v
    simp only [Option.map_some, evBd] at h
    split at h
    · rename_i heq; cases heq
    · rename_i k i heq
      injection heq with heq
      rw [heq] at hv
      simp only [SV.Is] at hv
      exact ⟨_, h.2, .inr ⟨v, _, _, rfl, hv, h.1, rfl⟩⟩
    · exact h.elim
theorem run_bound {k : IntKind} {i : Int} {y : Nat} {c : BoundsCode} (h0 : 0 ≤ i) (h1 : i.toNat ≤ y) (W : World) : (Instr.sliceBound (.int k i) y c).run P W = .ok i.toNat W := by
  have : i ≤ (y : Int) := by omega
  simp [Instr.sliceBound, asIntOf, h0, this]
theorem run_bounds {s : Bool} {len cap l h : Nat} {lo hi : Option Operand} {ev : Operand → Value} (hh : (hi = none ∧ h = len) ∨ ∃ v k i, hi = some v ∧ ev v = .int k i ∧ 0 ≤ i ∧ h = i.toNat) (hl : (lo = none ∧ l = 0) ∨ ∃ v k i, lo = some v ∧ ev v = .int k i ∧ 0 ≤ i ∧ l = i.toNat)
    (h1 : l ≤ h) (h2 : h ≤ cap) (W : World) : (Instr.sliceBounds s len cap (lo.map ev) (hi.map ev) none).run P W = .ok (l, h, cap) W := by
  rcases hh with ⟨rfl, rfl⟩ | ⟨v, k, i, rfl, hv, h0, rfl⟩ <;> rcases hl with ⟨rfl, rfl⟩ | ⟨v2, k2, i2, rfl, hv2, h02, rfl⟩
  · simp [Instr.sliceBounds]
  · simp only [Instr.sliceBounds, Option.map_some, Option.map_none, hv2, Sem.run_bind, Sem.run_pure, Result.andThen_ok, run_bound h02 h1]
  · simp only [Instr.sliceBounds, Option.map_some, Option.map_none, hv, Sem.run_bind, Sem.run_pure, Result.andThen_ok, run_bound h0 h2]
  · simp only [Instr.sliceBounds, Option.map_some, hv, hv2, Sem.run_bind, Sem.run_pure, Result.andThen_ok, run_bound h0 h2, run_bound h02 h1]
theorem fieldPlace_run (b o : Nat) (f : Field) (W : World) {i : TypeInfo} (hi : P.info? f.type = some i) (h0 : i.size ≠ 0) : (fieldPlace ⟨b, o, none⟩ f).run P W = .ok ⟨b, o + f.offset, none⟩ W := by
  simp [fieldPlace, Addr.add_lit, sizeOf, typeInfo, hi, h0]
theorem ok_value {x : Sem Value} {W : World} {u : Value} (h : x.run P W = .ok u W) : (do pure (Next.value (← x)) : Sem Next).run P W = .ok (.value u) W := by simp [h]
theorem mapM_at {α β : Type} {f : α → Option β} : ∀ {l : List α} {us : List β}, l.mapM f = some us → us.length = l.length ∧ ∀ (i : Nat) (x : α), l[i]? = some x → ∃ u, us[i]? = some u ∧ f x = some u
  | [], us, h => by simp at h; subst h; simp
  | x :: l, us, h => by
    rw [List.mapM_cons] at h
    simp only [Option.bind_eq_bind, Option.pure_def] at h
    obtain ⟨u, h1, h⟩ := Option.bind_eq_some_iff.1 h
    obtain ⟨vs, h2, h⟩ := Option.bind_eq_some_iff.1 h
    injection h with h; subst h
    obtain ⟨h3, h4⟩ := mapM_at h2
    refine ⟨by simp [h3], fun i y hy => ?_⟩
    cases i with
    | zero => simp at hy; subst hy; exact ⟨u, rfl, h1⟩
    | succ i => simpa using h4 i y (by simpa using hy)
theorem inpL_some [Inp] {p : Option Addr} {k : Nat} {us : List Value} (h : inpL p k = some us) : us.length = k ∧ (k ≠ 0 → ∃ a, p = some a ∧ a.spot = none ∧ ∀ (j : Nat) (u : Value), us[j]? = some u → Inp.at_ (a.add j) = some u) := by
  unfold inpL at h
  split at h
  · rename_i hk
    injection h with h; subst h
    exact ⟨hk.symm, fun hh => (hh hk).elim⟩
  · rename_i hk
    split at h
    · rename_i a
      split at h
      · rename_i hsp
        obtain ⟨h1, h2⟩ := mapM_at h
        simp only [List.length_range] at h1
        refine ⟨h1, fun _ => ⟨a, rfl, hsp, fun j u hj => ?_⟩⟩
        have hlt : j < k := by rw [← h1]; exact (List.getElem?_eq_some_iff.1 hj).1
        obtain ⟨v, h3, h4⟩ := h2 j j (by simp [hlt])
        rw [hj] at h3; injection h3 with h3; subst h3
        exact h4
      · cases h
    · cases h
theorem add_zero_addr (a : Addr) : a.add 0 = a := by simp [Addr.add]
theorem add_add_addr {a : Addr} (h : a.spot = none) (i j : Nat) : (a.add i).add j = a.add (i + j) := by
  obtain ⟨b, o, sp⟩ := a
  simp only at h; subst h
  rw [Addr.add_lit, Addr.add_lit, Addr.add_lit, Nat.add_assoc]
theorem inp_load [Inp] {base : Nat → Prop} {w0 W : World} (hst : St base w0 r m W) {t : TypeId} {z : Option Nat} {p : Option Addr} {K : SV → Prop} (hz : szOf P t = some z) (h : evInp p z K) :
    ∃ s u, K s ∧ s.Is r u ∧ ∀ W' : World, Same r W W' → (Instr.loadAt t (.pointer p)).run P W' = .ok u W' := by
  have key : ∀ (a : Addr) (us : List Value), (∀ (j : Nat) (u : Value), us[j]? = some u → Inp.at_ (a.add j) = some u) → ∀ W', Same r W W' → ∀ (j : Nat) (u : Value), us[j]? = some u → W'.cell? (a.add j) = some u :=
    fun a us hin W' hS j u hj => hS.2 _ _ (hin j u hj) (hst.inp_at (hin j u hj))
  cases z with
  | none =>
    obtain ⟨d, hd, hda⟩ := szOf_one hz
    simp only [evInp] at h
    split at h
    · rename_i us hus
      obtain ⟨hl, hin⟩ := inpL_some hus
      obtain ⟨a, rfl, hsp, hin⟩ := hin (by omega)
      split at h
      · rename_i u rest _
        refine ⟨_, u, h, by simp only [SV.Is], fun W' hS => ?_⟩
        have hc := key a _ hin W' hS 0 u rfl
        rw [add_zero_addr] at hc
        simp [Instr.loadAt, Instr.sureAddr, loadVar, run_isAgg (P := P) hd, hda, hc]
      · exact h.elim
    · exact h.elim
  | some k =>
    obtain ⟨d, i, hd, hda, hi, hk⟩ := szOf_agg hz
    simp only [evInp] at h
    obtain ⟨hp, h⟩ := h
    obtain ⟨a, rfl⟩ := Option.isSome_iff_exists.1 hp
    split at h
    · rename_i us hus
      obtain ⟨hl, hin⟩ := inpL_some hus
      refine ⟨_, .agg us.toArray, h, by simp only [SV.Is]; exact ⟨us, rfl, IsL_v us⟩, fun W' hS => ?_⟩
      have := run_loadCells_list (P := P) W' a us (fun j u hj => by
        have hk0 : k ≠ 0 := by
          intro h0
          rw [h0] at hl
          have := (List.getElem?_eq_some_iff.1 hj).1
          omega
        obtain ⟨a', ha, _, hin⟩ := hin hk0
        injection ha with ha; subst ha
        exact key a us hin W' hS j u hj)
      rw [hl] at this
      simp [Instr.loadAt, Instr.sureAddr, loadVar, run_isAgg (P := P) hd, hda, sizeOf, typeInfo, hi, hk, this]
    · exact h.elim
theorem bytesV_is : ∀ {l : List SV} {us : List Value} {bs : List UInt8}, bytesV l = some bs → SV.IsL r l us → ∃ ns : List Int, us = ns.map (.int .u8) ∧ bs = ns.map fun n => UInt8.ofNat n.toNat
  | [], us, bs, h, hs => by
    simp only [bytesV] at h
    injection h with h; subst h
    simp only [SV.IsL] at hs; subst hs
    exact ⟨[], rfl, rfl⟩
  | s :: l, us, bs, h, hs => by
    simp only [SV.IsL] at hs
    obtain ⟨u, t, rfl, h1, h2⟩ := hs
    unfold bytesV at h
    split at h
    · rename_i heq; cases heq
    · rename_i n l' heq
      cases heq
      obtain ⟨bs', h3, rfl⟩ := Option.map_eq_some_iff.1 h
      obtain ⟨ns, rfl, rfl⟩ := bytesV_is h3 h2
      simp only [SV.Is] at h1
      exact ⟨n :: ns, by simp [h1], by simp⟩
    · cases h
theorem foldl_push : ∀ (ns : List Int) (b : ByteArray), (ns.foldl (fun r n => r.push (UInt8.ofNat n.toNat)) b) = ⟨b.data ++ (ns.map fun n => UInt8.ofNat n.toNat).toArray⟩
  | [], b => by simp
  | n :: ns, b => by
    rw [List.foldl_cons, foldl_push ns]
    congr 1
    apply Array.ext'
    simp [ByteArray.push]
theorem sl_cells [Inp] {base : Nat → Prop} {w0 W : World} (hst : St base w0 r m W) {s : SV} {z k : Nat} {xs : List SV} {u : Value} (h : slOf m z s = some (k, xs)) (hs : s.Is r u) :
    ∃ p c us, u = .slice p k c ∧ SV.IsL r xs us ∧ us.length = xs.length ∧ ((∃ a, p = some a ∧ ∀ W', Same r W W' → ∀ (j : Nat) (v : Value), us[j]? = some v → W'.cell? (a.add j) = some v) ∨ (p = none ∧ us = [])) := by
  unfold slOf at h
  split at h
  · rename_i kk o n1 sz
    simp only [SV.Is] at hs
    obtain ⟨l, cap, hl, hcap, hroom, rfl⟩ := hs
    split at h
    · split at h
      · rename_i ob hob
        split at h
        · rename_i hfit
          injection h with h
          injection h with h1 h2
          subst h1
          obtain ⟨us, hus, hW⟩ := obj_cells' (hst.obj kk l ob hl hob)
          have hxs : SV.IsL r xs ((us.drop o).take (n1 * sz)) := by rw [← h2]; exact IsL_take _ (IsL_drop _ hus)
          refine ⟨_, cap, _, rfl, hxs, IsL_len hxs, .inl ⟨_, rfl, fun W' hS j v hj => ?_⟩⟩
          have g2 := hW W' (hst.sblk hS hl)
          rw [Addr.add_lit]
          have := take_drop_get us o _ j v hj
          rw [Nat.add_assoc]; exact g2 _ _ this
        · cases h
      · cases h
    · cases h
  · rename_i p n1 c
    obtain ⟨us, hus, h⟩ := Option.map_eq_some_iff.1 h
    injection h with h1 h2
    subst h1; subst h2
    simp only [SV.Is] at hs
    subst hs
    obtain ⟨hl, hin⟩ := inpL_some hus
    refine ⟨p, c, us, rfl, IsL_v us, by simp, ?_⟩
    by_cases hk : n1 * z = 0
    · rw [hk] at hl
      have hus0 := List.length_eq_zero_iff.1 hl
      subst hus0
      cases p with
      | none => exact .inr ⟨rfl, rfl⟩
      | some a => exact .inl ⟨a, rfl, fun W' _ j v hj => by simp at hj⟩
    · obtain ⟨a, rfl, hsp, hin⟩ := hin hk
      exact .inl ⟨a, rfl, fun W' hS j v hj => hS.2 _ _ (hin j v hj) (hst.inp_at (hin j v hj))⟩
  · injection h with h
    injection h with h1 h2
    subst h1; subst h2
    simp only [SV.Is] at hs
    obtain ⟨p, c, hs, _⟩ := hs
    exact ⟨some p, c, [], hs, by simp [SV.IsL], rfl, .inl ⟨p, rfl, fun W' _ j v hj => by simp at hj⟩⟩
  · injection h with h
    injection h with h1 h2
    subst h1; subst h2
    simp only [SV.Is] at hs
    obtain ⟨p, hs, _⟩ := hs
    refine ⟨p, 0, [], hs, by simp [SV.IsL], rfl, ?_⟩
    cases p with
    | none => exact .inr ⟨rfl, rfl⟩
    | some p => exact .inl ⟨p, rfl, fun W' _ j v hj => by simp at hj⟩
  · cases h
theorem keq_ok {kt : KT} {a b : Value} (ha : Go.MapKept.IsKey kt.desc a) (hb : Go.MapKept.IsKey kt.desc b) : Instr.sameNow kt.desc a b = some (keq a b) := by
  obtain ⟨x, h1, h2⟩ := Go.MapKept.sameNow_of_keys ha hb
  rw [h1]
  cases kt <;> cases a <;> cases b <;> simp_all [Go.MapKept.IsKey, KT.desc, keq, Instr.sameNow]
theorem isK_ok {kt : KT} {v : Value} (h : isK kt v = true) : Go.MapKept.IsKey kt.desc v := by
  unfold isK at h
  split at h
  · simpa [KT.desc, Go.MapKept.IsKey] using h
  · trivial
  · trivial
  · cases h
theorem ktOf_ok {t : TypeId} {kt : KT} (h : ktOf P t = some kt) : P.underlying t = some kt.desc := by
  unfold ktOf at h
  split at h
  · rename_i hu; injection h with h; subst h; exact hu
  · rename_i hu; injection h with h; subst h; exact hu
  · rename_i hu; injection h with h; subst h; exact hu
  · cases h
theorem find_ok {kt : KT} {key : Value} (hk : Go.MapKept.IsKey kt.desc key) : ∀ {n : Nat} {ps : List (Value × SV)} {es : List MapEntry}, MapIs r kt.desc n ps es →
    (findM key n ps = none ∧ Instr.findNow kt.desc key es n = some none) ∨ ∃ j s u, findM key n ps = some (j, s) ∧ Instr.findNow kt.desc key es n = some (some (j, u)) ∧ s.Is r u
  | n, [], es, h => by
    simp only [MapIs] at h
    subst h
    exact .inl ⟨rfl, rfl⟩
  | n, p :: ps, es, h => by
    obtain ⟨e, t, rfl, h1, h2, h3, h4, h5⟩ := h
    have he := keq_ok hk h4
    unfold findM Instr.findNow
    rw [he, ← h1]
    cases hq : keq key p.1 with
    | true => exact .inr ⟨n, p.2, e.val, rfl, rfl, h2⟩
    | false =>
      simp only [cond_false]
      exact find_ok hk h5
theorem mapOb_ok {base : Nat → Prop} {W : World} {l : Loc} {ob : SObj} {kt : KT} {ps : List (Value × SV)} (h : ObjAt base r W l ob) (hm : mapOb kt ob = some ps) : ∃ es, W.heap[l.blk]? = some (.map es ps.length) ∧ MapIs r kt.desc 0 ps es.toList ∧ l.room = 0 := by
  have h1 := h.ext
  unfold mapOb at hm
  unfold ExtIs at h1
  split at hm
  · rename_i kt' es he
    simp only [he] at h1
    split at hm
    · rename_i hkt
      subst hkt
      injection hm with hm; subst hm
      obtain ⟨⟨_, h0, _⟩, es, h2, h3⟩ := h1
      exact ⟨es, h2, h3, h0⟩
    · cases hm
  · cases hm
theorem MapIs.len {d : TypeDesc} : ∀ {n : Nat} {ps : List (Value × SV)} {es : List MapEntry}, MapIs r d n ps es → es.length = ps.length
  | n, [], es, h => by simp only [MapIs] at h; subst h; rfl
  | n, p :: ps, es, h => by
    obtain ⟨e, t, rfl, _, _, _, _, h5⟩ := h
    simp [h5.len]
theorem compA_sound [Inp] {o : Oper} {xa : XA} {K : SV → Prop} {base : Nat → Prop} {w0 W : World} (hc : compA P o.op = some xa) (h : evA xa e m K) (hst : St base w0 r m W) (he : EnvIs n r e a.tmps) :
    ∃ s u, K s ∧ s.Is r u ∧ Den P o xa.mem r W a.eval u := by
  have hg := he.get
  obtain ⟨dst, op, type, pos, after, guard⟩ := o
  dsimp only at hc
  unfold compA at hc
  split at hc
  case h_1 x => 
    injection hc with hc; subst hc
    exact ⟨_, _, h, hg x, fun W' _ => rfl⟩
  case h_2 x => 
    injection hc with hc; subst hc
    exact ⟨_, _, h, hg x, fun W' _ => rfl⟩
  case h_3 c x y =>
    injection hc with hc; subst hc
    simp only [evA] at h
    have h1 := hg c
    split at h
    · rename_i t ht
      rw [ht] at h1
      simp only [SV.Is] at h1
      cases t
      · rw [if_neg (by simp)] at h
        exact ⟨_, _, h, hg y, fun W' _ => by simp [execOp, h1, asBool]⟩
      · rw [if_pos rfl] at h
        exact ⟨_, _, h, hg x, fun W' _ => by simp [execOp, h1, asBool]⟩
    · exact h.elim
  case h_4 op t x y yt =>
    have key : ∀ (s : SV) (z : Value), K s → s.Is r z → (∀ W, (do eqGuard op t x y (a.eval x) (a.eval y); binOp op t (a.eval x) (a.eval y)).run P W = .ok z W) → ∃ s u, K s ∧ s.Is r u ∧ Den P ⟨dst, .binOp op t x y yt, type, pos, after, guard⟩ xa.mem r W a.eval u :=
      fun s z h1 h2 h3 => ⟨s, z, h1, h2, fun W' _ => ok_value (h3 W')⟩
    have hx := hg x
    have hy := hg y
    have aggs : (op = .eql ∨ op = .neq) → (∀ l, valOf P t l = .agg l.toArray) → (if P.eqGuardType P.depth t = true then none else (flatK P 20 t).map fun ks => XA.eqs (isNeq op) ks (XO.of x) (XO.of y)) = some xa → ∃ s u, K s ∧ s.Is r u ∧ Den P ⟨dst, .binOp op t x y yt, type, pos, after, guard⟩ xa.mem r W a.eval u := by
      intro hop hwide hc
      split at hc
      · cases hc
      rename_i hgd
      obtain ⟨ks, hks, hc⟩ := Option.map_eq_some_iff.1 hc
      subst hc
      simp only [evA] at h
      split at h
      · rename_i xs ys hb1 hb2
        rw [hb1] at hx
        rw [hb2] at hy
        simp only [SV.Is] at hx hy
        obtain ⟨us, hu, hus⟩ := hx
        obtain ⟨vs, hv, hvs⟩ := hy
        obtain ⟨s, z, h1, h2, h3⟩ := evEqs_sound (P := P) hop hwide (by simpa using hgd) hks h hus hvs x y
        exact key s z h1 h2 (fun W => by rw [hu, hv]; exact h3 W)
      · exact h.elim
    split at hc
    · split at hc
      · injection hc with hc; subst hc
        obtain ⟨s, z, h1, h2, h3⟩ := evBin_sound (P := P) t h hx hy x y
        exact key s z h1 h2 h3
      · injection hc with hc; subst hc
        obtain ⟨s, z, h1, h2, h3⟩ := evBin_sound (P := P) t h hx hy x y
        exact key s z h1 h2 h3
      · rename_i hu; injection hc with hc; subst hc
        obtain ⟨s, z, h1, h2, h3⟩ := evEqb_sound (P := P) (.inl rfl) hu h hx hy x y
        exact key s z h1 h2 h3
      · rename_i e' hu; injection hc with hc; subst hc
        obtain ⟨s, z, h1, h2, h3⟩ := evEqn_sound (P := P) (.inl rfl) (.inl ⟨rfl, _, hu⟩) h hx hy x y
        exact key s z h1 h2 h3
      · rename_i e' hu; injection hc with hc; subst hc
        obtain ⟨s, z, h1, h2, h3⟩ := evEqn_sound (P := P) (.inl rfl) (.inr (.inl ⟨rfl, _, hu⟩)) h hx hy x y
        exact key s z h1 h2 h3
      · rename_i e1 e2 e3 hu; injection hc with hc; subst hc
        obtain ⟨s, z, h1, h2, h3⟩ := evEqn_sound (P := P) (.inl rfl) (.inr (.inr ⟨rfl, _, _, _, hu⟩)) h hx hy x y
        exact key s z h1 h2 h3
      · rename_i fs hu
        exact aggs (.inl rfl) (fun l => by unfold valOf; rw [hu]) hc
      · rename_i n1 e1 hu
        exact aggs (.inl rfl) (fun l => by unfold valOf; rw [hu]) hc
      · cases hc
    · split at hc
      · injection hc with hc; subst hc
        obtain ⟨s, z, h1, h2, h3⟩ := evBin_sound (P := P) t h hx hy x y
        exact key s z h1 h2 h3
      · injection hc with hc; subst hc
        obtain ⟨s, z, h1, h2, h3⟩ := evBin_sound (P := P) t h hx hy x y
        exact key s z h1 h2 h3
      · rename_i hu; injection hc with hc; subst hc
        obtain ⟨s, z, h1, h2, h3⟩ := evEqb_sound (P := P) (.inr rfl) hu h hx hy x y
        exact key s z h1 h2 h3
      · rename_i e' hu; injection hc with hc; subst hc
        obtain ⟨s, z, h1, h2, h3⟩ := evEqn_sound (P := P) (.inr rfl) (.inl ⟨rfl, _, hu⟩) h hx hy x y
        exact key s z h1 h2 h3
      · rename_i e' hu; injection hc with hc; subst hc
        obtain ⟨s, z, h1, h2, h3⟩ := evEqn_sound (P := P) (.inr rfl) (.inr (.inl ⟨rfl, _, hu⟩)) h hx hy x y
        exact key s z h1 h2 h3
      · rename_i e1 e2 e3 hu; injection hc with hc; subst hc
        obtain ⟨s, z, h1, h2, h3⟩ := evEqn_sound (P := P) (.inr rfl) (.inr (.inr ⟨rfl, _, _, _, hu⟩)) h hx hy x y
        exact key s z h1 h2 h3
      · rename_i fs hu
        exact aggs (.inr rfl) (fun l => by unfold valOf; rw [hu]) hc
      · rename_i n1 e1 hu
        exact aggs (.inr rfl) (fun l => by unfold valOf; rw [hu]) hc
      · cases hc
    · injection hc with hc; subst hc
      obtain ⟨s, z, h1, h2, h3⟩ := evBin_sound (P := P) t h hx hy x y
      exact key s z h1 h2 h3
  case h_5 op t x =>
    injection hc with hc; subst hc
    simp only [evA] at h
    have h1 := hg x
    unfold evUn at h
    split at h
    · rename_i b hb
      rw [hb] at h1; simp only [SV.Is] at h1
      exact ⟨_, _, h, by simp only [SV.Is]; rfl, fun W' _ => ok_value (by rw [h1]; simp [Op.unary])⟩
    · rename_i k i hb
      rw [hb] at h1; simp only [SV.Is] at h1
      exact ⟨_, _, h, by simp only [SV.Is]; rfl, fun W' _ => ok_value (by rw [h1]; simp [Op.unary, Op.intArith])⟩
    · rename_i k i hb
      rw [hb] at h1; simp only [SV.Is] at h1
      exact ⟨_, _, h, by simp only [SV.Is]; rfl, fun W' _ => ok_value (by rw [h1]; simp [Op.unary, Op.intBits])⟩
    · exact h.elim
  case h_6 s d x =>
    split at hc
    · rename_i k k' hs hd; injection hc with hc; subst hc
      simp only [evA] at h
      have h1 := hg x
      split at h
      · rename_i k2 i hb
        rw [hb] at h1; simp only [SV.Is] at h1
        exact ⟨_, _, h, by simp only [SV.Is]; rfl, fun W' _ => ok_value (by rw [h1]; simp [convert, run_underlying hs, run_underlying hd, Conv.intToInt])⟩
      · exact h.elim
    · rename_i hs hd; injection hc with hc; subst hc
      simp only [evA] at h
      have h1 := hg x
      split at h
      · rename_i str hb
        rw [hb] at h1; simp only [SV.Is] at h1
        exact ⟨_, _, h, by simp only [SV.Is]; rfl, fun W' _ => ok_value (by rw [h1]; simp [convert, run_underlying hs, run_underlying hd])⟩
      · exact h.elim
    · rename_i el hs hd
      split at hc
      · rename_i hel
        injection hc with hc; subst hc
        simp only [evA, evB2s] at h
        split at h
        · rename_i x2 hsl
          obtain ⟨k, xs⟩ := x2
          simp only at h
          split at h
          · rename_i bs hbs
            obtain ⟨p, c, us, hu, hus, hlen, hcell⟩ := sl_cells hst hsl (hg x)
            obtain ⟨ns, rfl, rfl⟩ := bytesV_is hbs hus
            refine ⟨_, _, h, by simp only [SV.Is]; rfl, fun W' hS => ok_value ?_⟩
            rw [hu, run_convert_bytes_string W' s d el _ _ _ hs hel hd]
            have hxl : xs.length = k := by
              unfold slOf at hsl
              split at hsl
              · rename_i kk o n1 sz _
                split at hsl
                · rename_i hsz
                  split at hsl
                  · rename_i ob hob
                    split at hsl
                    · rename_i hfit
                      injection hsl with hsl; injection hsl with h1 h2
                      rw [← h2, ← h1]; subst hsz; simp at hfit ⊢; omega
                    · cases hsl
                  · cases hsl
                · cases hsl
              · obtain ⟨us2, hus2, hsl⟩ := Option.map_eq_some_iff.1 hsl
                injection hsl with h1 h2
                rw [← h2, ← h1]; simp [(inpL_some hus2).1]
              · injection hsl with hsl; injection hsl with h1 h2
                rw [← h2, ← h1]; rfl
              · injection hsl with hsl; injection hsl with h1 h2
                rw [← h2, ← h1]; rfl
              · cases hsl
            rcases hcell with ⟨a1, rfl, hcell⟩ | ⟨rfl, hnil⟩
            · have hld := run_loadCells_list (P := P) W' a1 _ (hcell W' (hS rfl))
              rw [hlen, hxl] at hld
              have hrun := run_bytesToString (P := P) W' a1 k c ns hld
              rw [hrun, foldl_push]
              simp [strOf, ByteArray.empty, ByteArray.emptyWithCapacity]
              try rfl
            · have : ns = [] := by simpa using hnil
              subst this
              simp [Conv.bytesToString, strOf]
              rfl
          · exact h.elim
        · exact h.elim
      · cases hc
    · cases hc
  case h_7 s x f =>
    split at hc
    · rename_i fs hs
      obtain ⟨fd, hfd, hc⟩ := Option.bind_eq_some_iff.1 hc
      obtain ⟨i, hi, hc⟩ := Option.bind_eq_some_iff.1 hc
      split at hc
      · cases hc
      rename_i h0
      injection hc with hc
      subst hc
      simp only [evA] at h
      have h1 := hg x
      split at h
      · rename_i k o hb
        rw [hb] at h1; simp only [SV.Is] at h1
        obtain ⟨l, hl, hu⟩ := h1
        refine ⟨_, _, h, by simp only [SV.Is]; exact ⟨l, hl, rfl⟩, fun W' _ => ok_value ?_⟩
        rw [hu]
        simp [Instr.fieldAt, run_underlying hs, hfd, Instr.sureAddr, fieldPlace_run _ _ _ _ hi h0, Nat.add_assoc]
      · rename_i p hb
        rw [hb] at h1; simp only [SV.Is] at h1
        obtain ⟨hp, h⟩ := h
        obtain ⟨a1, rfl⟩ := Option.isSome_iff_exists.1 hp
        refine ⟨_, _, h, by simp only [SV.Is]; rfl, fun W' _ => ok_value ?_⟩
        rw [h1]
        simp [Instr.fieldAt, run_underlying hs, hfd, Instr.sureAddr, fieldPlace, sizeOf, typeInfo, hi, h0, plusA]
      · exact h.elim
    · cases hc
  case h_8 s x f =>
    split at hc
    · rename_i fs hs
      obtain ⟨fd, hfd, hc⟩ := Option.bind_eq_some_iff.1 hc
      obtain ⟨z, hz, hc⟩ := Option.map_eq_some_iff.1 hc
      subst hc
      simp only [evA] at h
      have h1 := hg x
      split at h
      · rename_i cs hb
        rw [hb] at h1; simp only [SV.Is] at h1
        obtain ⟨us, hu, hus⟩ := h1
        obtain ⟨s2, u, h2, h3, h4⟩ := evPart_sound (P := P) hz h hus
        refine ⟨s2, u, h2, h3, fun W' _ => ok_value ?_⟩
        rw [hu]
        simp [Instr.field, run_underlying hs, hfd, asAgg, h4]
      · exact h.elim
    · cases hc
  case h_9 t x i =>
    have hx := hg x
    have hi := hg i
    split at hc
    · rename_i n1 e1 hs
      obtain ⟨j, hj, hc⟩ := Option.map_eq_some_iff.1 hc
      subst hc
      simp only [evA] at h
      split at h
      · rename_i k o k2 q hb hb2
        rw [hb] at hx; rw [hb2] at hi
        simp only [SV.Is] at hx hi
        obtain ⟨l, hl, hu⟩ := hx
        refine ⟨_, _, h.2, by simp only [SV.Is]; exact ⟨l, hl, rfl⟩, fun W' _ => ok_value ?_⟩
        rw [hu, hi]
        simp [Instr.indexAt, run_underlying hs, asIntOf, Instr.sureAddr, sizeOf, typeInfo, hj, h.1.1, h.1.2, Addr.add_lit, Nat.add_assoc]
      · rename_i p k2 q hb hb2
        rw [hb] at hx; rw [hb2] at hi
        simp only [SV.Is] at hx hi
        obtain ⟨⟨q1, q2, hp⟩, h⟩ := h
        obtain ⟨a1, rfl⟩ := Option.isSome_iff_exists.1 hp
        refine ⟨_, _, h, by simp only [SV.Is]; rfl, fun W' _ => ok_value ?_⟩
        rw [hx, hi]
        simp [Instr.indexAt, run_underlying hs, asIntOf, Instr.sureAddr, sizeOf, typeInfo, hj, q1, q2, plusA]
      · exact h.elim
    · rename_i e1 hs
      obtain ⟨j, hj, hc⟩ := Option.map_eq_some_iff.1 hc
      subst hc
      simp only [evA] at h
      split at h
      · rename_i k o n2 s2 k2 q hb hb2
        rw [hb] at hx; rw [hb2] at hi
        simp only [SV.Is] at hx hi
        obtain ⟨l, cap, hl, _, _, hu⟩ := hx
        refine ⟨_, _, h.2, by simp only [SV.Is]; exact ⟨l, hl, rfl⟩, fun W' _ => ok_value ?_⟩
        rw [hu, hi]
        simp [Instr.indexAt, run_underlying hs, asIntOf, Instr.sureAddr, sizeOf, typeInfo, hj, h.1.1, h.1.2, Addr.add_lit, Nat.add_assoc]
      · rename_i p n2 c2 k2 q hb hb2
        rw [hb] at hx; rw [hb2] at hi
        simp only [SV.Is] at hx hi
        obtain ⟨⟨q1, q2, hp⟩, h⟩ := h
        obtain ⟨a1, rfl⟩ := Option.isSome_iff_exists.1 hp
        refine ⟨_, _, h, by simp only [SV.Is]; rfl, fun W' _ => ok_value ?_⟩
        rw [hx, hi]
        simp [Instr.indexAt, run_underlying hs, asIntOf, Instr.sureAddr, sizeOf, typeInfo, hj, q1, q2, plusA]
      · exact h.elim
    · cases hc
  case h_10 t x i =>
    have hx := hg x
    have hi := hg i
    split at hc
    · rename_i n1 e1 hs
      obtain ⟨j, hj, hc⟩ := Option.bind_eq_some_iff.1 hc
      obtain ⟨z, hz, hc⟩ := Option.map_eq_some_iff.1 hc
      subst hc
      simp only [evA] at h
      split at h
      · rename_i cs k2 q hb hb2
        rw [hb] at hx; rw [hb2] at hi
        simp only [SV.Is] at hx hi
        obtain ⟨us, hu, hus⟩ := hx
        have hz' : szOf P e1 = some (bif z.isSome then some j.size else none) := by
          cases z with
          | none => exact hz
          | some z =>
            obtain ⟨d, j2, _, _, hj2, rfl⟩ := szOf_agg hz
            rw [hj] at hj2
            injection hj2 with hj2
            subst hj2
            exact hz
        obtain ⟨s2, u, h2, h3, h4⟩ := evPart_sound (P := P) hz' h.2 hus
        refine ⟨s2, u, h2, h3, fun W' _ => ok_value ?_⟩
        rw [hu, hi]
        simp [Instr.index, run_underlying hs, asIntOf, sizeOf, typeInfo, hj, h.1.1, h.1.2, h4]
      · exact h.elim
    · rename_i hs
      injection hc with hc; subst hc
      simp only [evA] at h
      split at h
      · rename_i str k2 q hb hb2
        rw [hb] at hx; rw [hb2] at hi
        simp only [SV.Is] at hx hi
        refine ⟨_, _, h.2, by simp only [SV.Is]; rfl, fun W' _ => ok_value ?_⟩
        rw [hx, hi]
        obtain ⟨⟨q1, q2⟩, _⟩ := h
        have hlt : q.toNat < str.size := by omega
        have hget : str[q.toNat]? = some str[q.toNat] := by simp [getElem?_pos, hlt]
        simp [Instr.index, run_underlying hs, asIntOf, q1, hget]
      · exact h.elim
    · cases hc
  case h_11 x i =>
    injection hc with hc; subst hc
    simp only [evA] at h
    have h1 := hg x
    split at h
    · rename_i cs hb
      rw [hb] at h1; simp only [SV.Is] at h1
      obtain ⟨us, hu, hus⟩ := h1
      split at h
      · rename_i s hs
        obtain ⟨z, hz, hzs⟩ := IsL_get hus hs
        exact ⟨s, z, h, hzs, fun W' _ => ok_value (by rw [hu]; simp [Instr.extract, hz])⟩
      · exact h.elim
    · exact h.elim
  case h_12 t x =>
    obtain ⟨z, hz, hc⟩ := Option.map_eq_some_iff.1 hc
    subst hc
    simp only [evA] at h
    have h1 := hg x
    split at h
    · rename_i k o hb
      rw [hb] at h1; simp only [SV.Is] at h1
      obtain ⟨l, hl, hu⟩ := h1
      split at h
      · rename_i ob hob
        obtain ⟨s, z, h2, h3, h4⟩ := load_sound (k0 := k) hz h hl (hst.obj k l ob hl hob)
        exact ⟨s, z, h2, h3, fun W' hS => ok_value (by rw [hu]; exact h4 W' (hst.sblk (hS rfl) hl))⟩
      · exact h.elim
    · rename_i p hb
      rw [hb] at h1; simp only [SV.Is] at h1
      obtain ⟨s, z, h2, h3, h4⟩ := inp_load (P := P) hst hz h
      exact ⟨s, z, h2, h3, fun W' hS => ok_value (by rw [h1]; exact h4 W' (hS rfl))⟩
    · exact h.elim
  case h_13 x =>
    injection hc with hc; subst hc
    simp only [evA] at h
    have h1 := hg x
    split at h
    · rename_i k o hb
      rw [hb] at h1; simp only [SV.Is] at h1
      obtain ⟨l, hl, hu⟩ := h1
      exact ⟨_, _, h, by simp only [SV.Is]; exact ⟨l, hl, rfl⟩, fun W' _ => by simp [execOp, hu]⟩
    · rename_i f cs hb
      rw [hb] at h1; simp only [SV.Is] at h1
      obtain ⟨us, hu, hus⟩ := h1
      exact ⟨_, _, h, by simp only [SV.Is]; exact ⟨us, rfl, hus⟩, fun W' _ => by simp [execOp, hu]⟩
    · rename_i f cs hb
      rw [hb] at h1; simp only [SV.Is] at h1
      obtain ⟨us, hu, hus⟩ := h1
      exact ⟨_, _, h, by simp only [SV.Is]; exact ⟨us, rfl, hus⟩, fun W' _ => by simp [execOp, hu]⟩
    · rename_i p hb
      rw [hb] at h1; simp only [SV.Is] at h1
      obtain ⟨hp, h⟩ := h
      obtain ⟨a1, rfl⟩ := Option.isSome_iff_exists.1 hp
      exact ⟨_, .pointer (some a1), h, by simp only [SV.Is], fun W' _ => by simp [execOp, h1]⟩
    · exact h.elim
  case h_14 f first cap =>
    split at hc
    · rename_i hf
      injection hc with hc; subst hc
      simp only [evA] at h
      have hcap : ∀ l : List Operand, SV.IsL r (l.map fun x => (XO.of x).get e) (l.map a.eval) := by
        intro l
        induction l with
        | nil => simp [SV.IsL]
        | cons x l ih => simp only [List.map_cons, SV.IsL]; exact ⟨_, _, rfl, hg x, ih⟩
      refine ⟨_, .func (.func f) #[] (cap.toList.map a.eval).toArray, h, ?_, fun W' _ => ok_value ?_⟩
      · simp only [SV.Is, List.map_map]
        exact ⟨_, rfl, hcap _⟩
      · obtain rfl : first = #[] := by simpa using hf
        simp [Instr.makeFunc, ← Array.toList_map]
    · split at hc
      · rename_i hf
        injection hc with hc; subst hc
        simp only [evA] at h
        have hcap : ∀ l : List Operand, SV.IsL r (l.map fun x => (XO.of x).get e) (l.map a.eval) := by
          intro l
          induction l with
          | nil => simp [SV.IsL]
          | cons x l ih => simp only [List.map_cons, SV.IsL]; exact ⟨_, _, rfl, hg x, ih⟩
        refine ⟨_, .func (.func f) (first.toList.map a.eval).toArray #[], h, ?_, fun W' _ => ok_value ?_⟩
        · simp only [SV.Is, List.map_map]
          exact ⟨_, rfl, hcap _⟩
        · obtain rfl : cap = #[] := by simpa using hf
          simp [Instr.makeFunc, ← Array.toList_map]
      · cases hc
  case h_15 args argTypes =>
    split at hc
    · rename_i x t hax hat
      have hx := hg x
      obtain rfl : args = #[x] := by cases args; simp_all
      obtain rfl : argTypes = #[t] := by cases argTypes; simp_all
      split at hc
      · rename_i e1 hu
        injection hc with hc; subst hc
        simp only [evA] at h
        split at h
        · rename_i k o n1 s1 hb
          rw [hb] at hx; simp only [SV.Is] at hx
          obtain ⟨l, cap, hl, _, _, hv⟩ := hx
          exact ⟨_, _, h, by simp only [SV.Is]; rfl, fun W' _ => by simp [execOp, resolve, invoke, builtin, Builtin.len_, hv, run_underlying hu, goInt]⟩
        · rename_i hb
          rw [hb] at hx; simp only [SV.Is] at hx
          obtain ⟨ad, c1, hx, _⟩ := hx
          exact ⟨_, _, h, by simp only [SV.Is]; rfl, fun W' _ => by simp [execOp, resolve, invoke, builtin, Builtin.len_, hx, run_underlying hu, goInt]⟩
        · rename_i hb
          rw [hb] at hx; simp only [SV.Is] at hx
          obtain ⟨ad, hx, _⟩ := hx
          exact ⟨_, _, h, by simp only [SV.Is]; rfl, fun W' _ => by simp [execOp, resolve, invoke, builtin, Builtin.len_, hx, run_underlying hu, goInt]⟩
        · rename_i a1 n1 c1 hb
          rw [hb] at hx; simp only [SV.Is] at hx
          exact ⟨_, _, h, by simp only [SV.Is]; rfl, fun W' _ => by simp [execOp, resolve, invoke, builtin, Builtin.len_, hx, run_underlying hu, goInt]⟩
        · exact h.elim
      · rename_i hu
        injection hc with hc; subst hc
        simp only [evA] at h
        split at h
        · rename_i s1 hb
          rw [hb] at hx; simp only [SV.Is] at hx
          exact ⟨_, _, h, by simp only [SV.Is]; rfl, fun W' _ => by simp [execOp, resolve, invoke, builtin, Builtin.len_, hx, run_underlying hu, goInt]⟩
        · exact h.elim
      · rename_i n1 e1 hu
        injection hc with hc; subst hc
        simp only [evA, XO.get] at h
        exact ⟨_, _, h, by simp only [SV.Is]; rfl, fun W' _ => by simp [execOp, resolve, invoke, builtin, Builtin.len_, run_underlying hu, goInt]⟩
      · rename_i k1 e1 hu
        injection hc with hc; subst hc
        simp only [evA] at h
        split at h
        · rename_i n1 hn1
          unfold lenOf at hn1
          split at hn1
          · rename_i k hb
            rw [hb] at hx; simp only [SV.Is] at hx
            obtain ⟨l, hl, hv⟩ := hx
            split at hn1
            · rename_i ob hob
              have hO := hst.obj k l ob hl hob
              unfold lenOb at hn1
              split at hn1
              · rename_i kt es he
                injection hn1 with hn1; subst hn1
                obtain ⟨es', g1, g2, _⟩ := mapOb_ok (kt := kt) (ps := es) hO (by unfold mapOb; simp [he])
                have hlen := g2.len
                refine ⟨_, _, h, by simp only [SV.Is]; rfl, fun W' hS => ?_⟩
                have g3 := hst.sblk (hS rfl) hl
                rw [g1] at g3
                simp only [Array.length_toList] at hlen
                simp [execOp, resolve, invoke, builtin, Builtin.len_, hv, run_underlying hu, goInt, Go.MapKept.run_getObj_map g3, hlen]
              · cases hn1
            · cases hn1
          · rename_i hb
            injection hn1 with hn1; subst hn1
            rw [hb] at hx; simp only [SV.Is] at hx
            exact ⟨_, _, h, by simp only [SV.Is]; rfl, fun W' _ => by simp [execOp, resolve, invoke, builtin, Builtin.len_, hx, run_underlying hu, goInt]⟩
          · cases hn1
        · exact h.elim
      · cases hc
    · cases hc
  case h_16 args argTypes =>
    split at hc
    · rename_i x l hax
      injection hc with hc; subst hc
      simp only [evA] at h
      have hx := hg x
      split at h
      · rename_i k i hb
        rw [hb] at hx; simp only [SV.Is] at hx
        obtain ⟨s, u, h1, h2, h3⟩ := evMx_sound (P := P) true h (by rw [List.map_map]; exact ev_list hg l)
        refine ⟨s, u, h1, h2, fun W' _ => ?_⟩
        have := h3 W'
        rw [← hx] at this
        simp only [cond_true] at this
        simp only [execOp, resolve, invoke, builtin, Builtin.max_, Sem.run_bind, Sem.run_pure, Result.andThen_ok, Array.toList_map, hax, List.map_cons, this]
      · exact h.elim
    · cases hc
  case h_17 args argTypes =>
    split at hc
    · rename_i x l hax
      injection hc with hc; subst hc
      simp only [evA] at h
      have hx := hg x
      split at h
      · rename_i k i hb
        rw [hb] at hx; simp only [SV.Is] at hx
        obtain ⟨s, u, h1, h2, h3⟩ := evMx_sound (P := P) false h (by rw [List.map_map]; exact ev_list hg l)
        refine ⟨s, u, h1, h2, fun W' _ => ?_⟩
        have := h3 W'
        rw [← hx] at this
        simp only [cond_false] at this
        simp only [execOp, resolve, invoke, builtin, Builtin.min_, Sem.run_bind, Sem.run_pure, Result.andThen_ok, Array.toList_map, hax, List.map_cons, this]
      · exact h.elim
    · cases hc
  case h_18 args argTypes =>
    split at hc
    · rename_i x t hax hat
      have hx := hg x
      obtain rfl : args = #[x] := by cases args; simp_all
      obtain rfl : argTypes = #[t] := by cases argTypes; simp_all
      split at hc
      · rename_i e1 hu
        injection hc with hc; subst hc
        simp only [evA] at h
        split at h
        · rename_i a1 n1 c1 hb
          rw [hb] at hx; simp only [SV.Is] at hx
          exact ⟨_, _, h, by simp only [SV.Is]; rfl, fun W' _ => by simp [execOp, resolve, invoke, builtin, Builtin.cap_, hx, run_underlying hu, goInt]⟩
        · exact h.elim
      · cases hc
    · cases hc
  case h_19 t x i ok =>
    have hx := hg x
    have hi := hg i
    split at hc
    · rename_i kt et hu
      obtain ⟨kk, hkk, hc⟩ := Option.bind_eq_some_iff.1 hc
      obtain ⟨j, hj, hc⟩ := Option.bind_eq_some_iff.1 hc
      obtain ⟨z, hz, hc⟩ := Option.map_eq_some_iff.1 hc
      subst hc
      simp only [evA, evLook] at h
      split at h
      · rename_i ps key hps hkey
        obtain ⟨hK1, h⟩ := h
        rw [hkey] at hi; simp only [SV.Is] at hi
        have hik := isK_ok hK1
        have hun := ktOf_ok hkk
        have zrun : ∀ W' : World, (zeroValue et).run P W' = .ok z W' := fun W' => by simp [zeroValue, typeInfo, hj, hz]
        have fin : ∀ (W' : World) (es : List MapEntry), MapIs r kk.desc 0 ps es → ∃ u, (lookR ok (SV.of z) (getM key ps)).Is r u ∧ ∀ W' : World, (do
            let (v, b) ← match ← Instr.findKey kt key es with | some (_, v) => pure (v, true) | none => pure (← zeroValue et, false)
            pure (if ok then .tuple #[v, .bool b] else v) : Sem Value).run P W' = .ok u W' := by
          intro W' es hes
          rcases find_ok hik hes with ⟨f1, f2⟩ | ⟨q, s, u, f1, f2, f3⟩
          · refine ⟨if ok then .tuple #[z, .bool false] else z, ?_, fun W' => ?_⟩
            · unfold getM lookR
              rw [f1]
              cases ok
              · simpa using SV.of_is r z
              · simp only [cond_true, SV.Is, SV.IsL, if_true, Option.map_none, Option.getD_none, Option.isSome_none]
                exact ⟨[z, .bool false], rfl, z, _, rfl, SV.of_is r z, _, _, rfl, rfl, rfl⟩
            · simp only [Sem.run_bind, Go.MapKept.run_findKey hun f2, Result.andThen_ok, zrun, Sem.run_pure]
          · refine ⟨if ok then .tuple #[u, .bool true] else u, ?_, fun W' => ?_⟩
            · unfold getM lookR
              rw [f1]
              cases ok
              · simpa using f3
              · simp only [cond_true, SV.Is, SV.IsL, if_true, Option.map_some, Option.getD_some, Option.isSome_some]
                exact ⟨[u, .bool true], rfl, u, _, rfl, f3, _, _, rfl, rfl, rfl⟩
            · simp only [Sem.run_bind, Go.MapKept.run_findKey hun f2, Result.andThen_ok, Sem.run_pure]
        unfold mapOf at hps
        split at hps
        · rename_i k hb
          rw [hb] at hx; simp only [SV.Is] at hx
          obtain ⟨l, hl, hv⟩ := hx
          split at hps
          · rename_i ob hob
            obtain ⟨es, g1, g2, _⟩ := mapOb_ok (hst.obj k l ob hl hob) hps
            obtain ⟨u, f1, f2⟩ := fin W es.toList g2
            refine ⟨_, u, h, f1, fun W' hS => ok_value ?_⟩
            have g3 := hst.sblk (hS rfl) hl
            rw [g1] at g3
            have := f2 W'
            simp only [Instr.lookup, hv, hi, Sem.run_bind, run_underlying hu, Result.andThen_ok, Go.MapKept.run_getObj_map g3, Sem.run_pure, Go.MapKept.run_checkKey hun hik] at this ⊢
            exact this
          · cases hps
        · rename_i hb
          injection hps with hps; subst hps
          rw [hb] at hx; simp only [SV.Is] at hx
          obtain ⟨u, f1, f2⟩ := fin W [] (by simp [MapIs])
          refine ⟨_, u, h, f1, fun W' hS => ok_value ?_⟩
          have := f2 W'
          simp only [Instr.lookup, hx, hi, Sem.run_bind, run_underlying hu, Result.andThen_ok, Sem.run_pure, Go.MapKept.run_checkKey hun hik] at this ⊢
          exact this
        · cases hps
      · exact h.elim
    · cases hc
  case h_20 t x lo hi =>
    have hx := hg x
    split at hc
    · rename_i el hu
      obtain ⟨j, hj, hc⟩ := Option.map_eq_some_iff.1 hc
      subst hc
      simp only [evA] at h
      split at h
      · rename_i k o n1 s hb
        rw [hb] at hx; simp only [SV.Is] at hx
        obtain ⟨rfl, h⟩ := h
        obtain ⟨l, cap, hl, hcap, hroom, hv⟩ := hx
        obtain ⟨hh, h, hhv⟩ := evBd_sound hg h
        obtain ⟨ll, h, hlv⟩ := evBd_sound hg h
        obtain ⟨⟨h1, h2⟩, h⟩ := h
        have hrun := fun W => run_bounds (P := P) (s := true) (len := n1) (cap := cap) hhv hlv h1 (by omega) W
        split at h
        · rename_i hcond
          refine ⟨_, .slice (some ⟨l.blk, l.off + (o + ll * j.size), none⟩) (hh - ll) (cap - ll), h, ?_, fun W' _ => ok_value ?_⟩
          · simp only [SV.Is]
            refine ⟨l, cap - ll, hl, by omega, ?_, rfl⟩
            rw [Nat.sub_mul]
            have : ll * j.size ≤ cap * j.size := Nat.mul_le_mul_right _ (by omega)
            omega
          · simp only [Instr.sliceAt, Option.map_none, Instr.slice, Sem.run_bind, run_underlying hu, Result.andThen_ok, hv, hrun, sizeOf, typeInfo, run_program, hj, Sem.run_pure]
            by_cases e1 : cap = ll
            · have : ll = 0 := by omega
              subst this
              subst e1
              simp
            · rw [if_neg e1]
              simp [Addr.add_lit, Nat.add_assoc]
        · rename_i hcond
          refine ⟨_, .slice (some (if cap = ll then ⟨l.blk, l.off + o, none⟩ else ⟨l.blk, l.off + o + ll * j.size, none⟩)) (hh - ll) (cap - ll), h, ?_, fun W' _ => ok_value ?_⟩
          · simp only [SV.Is]
            exact ⟨_, cap - ll, by congr 1; omega, by split <;> rfl⟩
          · simp only [Instr.sliceAt, Option.map_none, Instr.slice, Sem.run_bind, run_underlying hu, Result.andThen_ok, hv, hrun, sizeOf, typeInfo, run_program, hj, Sem.run_pure]
            by_cases e1 : cap = ll
            · rw [if_pos e1, if_pos e1]
            · rw [if_neg e1, if_neg e1]
              simp [Addr.add_lit]
      · rename_i p n1 c1 hb
        rw [hb] at hx; simp only [SV.Is] at hx
        obtain ⟨hh, h, hhv⟩ := evBd_sound hg h
        obtain ⟨ll, h, hlv⟩ := evBd_sound hg h
        obtain ⟨⟨h1, h2⟩, hk0⟩ := h
        have hrun := fun W => run_bounds (P := P) (s := true) (len := n1) (cap := c1) hhv hlv h1 h2 W
        refine ⟨_, .slice (cutA p ll c1 j.size) (hh - ll) (c1 - ll), hk0, by simp only [SV.Is], fun W' _ => ok_value ?_⟩
        simp only [Instr.sliceAt, Option.map_none, Instr.slice, Sem.run_bind, run_underlying hu, Result.andThen_ok, hx, hrun, sizeOf, typeInfo, run_program, hj, Sem.run_pure, cutA, plusA]
      · rename_i hb
        rw [hb] at hx; simp only [SV.Is] at hx
        obtain ⟨ad, hx, had⟩ := hx
        obtain ⟨hh, h, hhv⟩ := evBd_sound hg h
        obtain ⟨ll, h, hlv⟩ := evBd_sound hg h
        obtain ⟨⟨h1, h2⟩, hk0⟩ := h
        have hrun := fun W => run_bounds (P := P) (s := true) (len := 0) (cap := 0) hhv hlv h1 h2 W
        obtain rfl : hh = 0 := by omega
        obtain rfl : ll = 0 := by omega
        refine ⟨_, .slice ad 0 0, hk0, by simp only [SV.Is]; exact ⟨ad, rfl, had⟩, fun W' _ => ok_value ?_⟩
        simp only [Instr.sliceAt, Option.map_none, Instr.slice, Sem.run_bind, run_underlying hu, Result.andThen_ok, hx, hrun, sizeOf, typeInfo, run_program, hj, Sem.run_pure]
        simp
      · rename_i hb
        rw [hb] at hx; simp only [SV.Is] at hx
        obtain ⟨⟨gb, go, gs⟩, c1, hx, had⟩ := hx
        simp only at had
        subst had
        obtain ⟨hh, h, hhv⟩ := evBd_sound hg h
        obtain ⟨ll, h, hlv⟩ := evBd_sound hg h
        obtain ⟨⟨h1, h2⟩, hk0⟩ := h
        have hrun := fun W => run_bounds (P := P) (s := true) (len := 0) (cap := c1) hhv hlv h1 (by omega) W
        obtain rfl : hh = 0 := by omega
        obtain rfl : ll = 0 := by omega
        refine ⟨_, .slice (some ⟨gb, go, none⟩) 0 c1, hk0, by simp only [SV.Is]; exact ⟨_, c1, rfl, rfl⟩, fun W' _ => ok_value ?_⟩
        simp only [Instr.sliceAt, Option.map_none, Instr.slice, Sem.run_bind, run_underlying hu, Result.andThen_ok, hx, hrun, sizeOf, typeInfo, run_program, hj, Sem.run_pure]
        simp [Addr.add_lit]
      · exact h.elim
    · rename_i n1 el hu
      obtain ⟨j, hj, hc⟩ := Option.map_eq_some_iff.1 hc
      subst hc
      simp only [evA] at h
      split at h
      · rename_i k o hb
        rw [hb] at hx; simp only [SV.Is] at hx
        obtain ⟨l, hl, hv⟩ := hx
        obtain ⟨hfit, h⟩ := h
        have hroom : o + n1 * j.size ≤ l.room := by
          split at hfit
          · rename_i ob hob
            have := (hst.obj k l ob hl hob).fits
            omega
          · exact hfit.elim
        obtain ⟨hh, h, hhv⟩ := evBd_sound hg h
        obtain ⟨ll, h, hlv⟩ := evBd_sound hg h
        obtain ⟨⟨h1, h2⟩, h⟩ := h
        have hrun := fun W => run_bounds (P := P) (s := false) (len := n1) (cap := n1) hhv hlv h1 h2 W
        split at h
        · rename_i hcond
          refine ⟨_, .slice (some ⟨l.blk, l.off + (o + ll * j.size), none⟩) (hh - ll) (n1 - ll), h, ?_, fun W' _ => ok_value ?_⟩
          · simp only [SV.Is]
            refine ⟨l, n1 - ll, hl, by omega, ?_, rfl⟩
            rw [Nat.sub_mul]
            have : ll * j.size ≤ n1 * j.size := Nat.mul_le_mul_right _ (by omega)
            omega
          · simp only [Instr.sliceAt, Option.map_none, Sem.run_bind, run_underlying hu, Result.andThen_ok, hv, Instr.sureAddr, hrun, sizeOf, typeInfo, run_program, hj, Sem.run_pure]
            by_cases e1 : n1 = ll
            · have : ll = 0 := by omega
              subst this
              subst e1
              simp
            · rw [if_neg e1]
              simp [Addr.add_lit, Nat.add_assoc]
        · rename_i hcond
          refine ⟨_, .slice (some (if n1 = ll then ⟨l.blk, l.off + o, none⟩ else ⟨l.blk, l.off + o + ll * j.size, none⟩)) (hh - ll) (n1 - ll), h, ?_, fun W' _ => ok_value ?_⟩
          · simp only [SV.Is]
            exact ⟨_, n1 - ll, by congr 1; omega, by split <;> rfl⟩
          · simp only [Instr.sliceAt, Option.map_none, Sem.run_bind, run_underlying hu, Result.andThen_ok, hv, Instr.sureAddr, hrun, sizeOf, typeInfo, run_program, hj, Sem.run_pure]
            by_cases e1 : n1 = ll
            · rw [if_pos e1, if_pos e1]
            · rw [if_neg e1, if_neg e1]
              simp [Addr.add_lit]
      · exact h.elim
    · rename_i hu
      injection hc with hc; subst hc
      simp only [evA] at h
      split at h
      · rename_i s hb
        rw [hb] at hx; simp only [SV.Is] at hx
        obtain ⟨hh, h, hhv⟩ := evBd_sound hg h
        obtain ⟨ll, h, hlv⟩ := evBd_sound hg h
        obtain ⟨⟨h1, h2⟩, h⟩ := h
        have hrun := fun W => run_bounds (P := P) (s := false) (len := s.size) (cap := s.size) hhv hlv h1 h2 W
        refine ⟨_, _, h, by simp only [SV.Is]; rfl, fun W' _ => ok_value ?_⟩
        simp only [Instr.sliceAt, Option.map_none, Instr.slice, Sem.run_bind, run_underlying hu, Result.andThen_ok, hx, Sem.run_ite, hrun, Sem.run_pure, Option.isSome_none, Bool.false_eq_true, if_false, Option.map_none]
      · exact h.elim
    · cases hc
  case h_21 t x lo hi mx =>
    have hx := hg x
    split at hc
    · rename_i el hu
      obtain ⟨j, hj, hc⟩ := Option.map_eq_some_iff.1 hc
      subst hc
      simp only [evA] at h
      have ebd : ∀ {d : Nat} {x : Operand} {K : Nat → Prop}, evBd d (some ((XO.of x).get e)) K → ∃ i k, K i.toNat ∧ a.eval x = .int k i ∧ 0 ≤ i := by
        intro d x K hh
        obtain ⟨jj, h1, h2⟩ := evBd_sound (x := some x) hg hh
        rcases h2 with ⟨h2, _⟩ | ⟨v, k, i, h2, h3, h4, rfl⟩
        · cases h2
        · injection h2 with h2; subst h2
          exact ⟨i, k, h1, h3, h4⟩
      have bounds3 : ∀ {len cap l : Nat} {im ih : Int} {km kh : IntKind}, a.eval mx = .int km im → 0 ≤ im → im.toNat ≤ cap → a.eval hi = .int kh ih → 0 ≤ ih → ih.toNat ≤ im.toNat → ((lo = none ∧ l = 0) ∨ ∃ v k i, lo = some v ∧ a.eval v = .int k i ∧ 0 ≤ i ∧ l = i.toNat) → l ≤ ih.toNat →
          ∀ W', (Instr.sliceBounds true len cap (lo.map a.eval) ((some hi).map a.eval) ((some mx).map a.eval)).run P W' = .ok (l, ih.toNat, im.toNat) W' := by
        intro len cap l im ih km kh e1 e2 e3 e4 e5 e6 e7 e8 W'
        rcases e7 with ⟨rfl, rfl⟩ | ⟨v, k, i, rfl, hv, h0, rfl⟩
        · simp only [Instr.sliceBounds, Option.map_some, Option.map_none, e1, e4, Sem.run_bind, Sem.run_pure, Result.andThen_ok, run_bound e2 e3, run_bound e5 e6]
        · simp only [Instr.sliceBounds, Option.map_some, e1, e4, hv, Sem.run_bind, Sem.run_pure, Result.andThen_ok, run_bound e2 e3, run_bound e5 e6, run_bound h0 e8]
      split at h
      · rename_i k o n1 s hb
        rw [hb] at hx; simp only [SV.Is] at hx
        obtain ⟨rfl, h⟩ := h
        obtain ⟨l, cap, hl, hcap, hroom, hv⟩ := hx
        obtain ⟨im, km, h, e1, e2⟩ := ebd h
        obtain ⟨ih, kh, h, e4, e5⟩ := ebd h
        obtain ⟨ll, h, hlv⟩ := evBd_sound hg h
        obtain ⟨⟨h1, h2, h3⟩, h⟩ := h
        have hrun := bounds3 (len := n1) (cap := cap) e1 e2 (by omega) e4 e5 h2 hlv h1
        split at h
        · rename_i hcond
          refine ⟨_, .slice (some ⟨l.blk, l.off + (o + ll * j.size), none⟩) (ih.toNat - ll) (im.toNat - ll), h, ?_, fun W' _ => ok_value ?_⟩
          · simp only [SV.Is]
            refine ⟨l, im.toNat - ll, hl, by omega, ?_, rfl⟩
            rw [Nat.sub_mul]
            have : ll * j.size ≤ im.toNat * j.size := Nat.mul_le_mul_right _ (by omega)
            have : im.toNat * j.size ≤ cap * j.size := Nat.mul_le_mul_right _ (by omega)
            omega
          · simp only [Instr.sliceAt, Instr.slice, Sem.run_bind, run_underlying hu, Result.andThen_ok, hv, hrun, sizeOf, typeInfo, run_program, hj, Sem.run_pure]
            by_cases e1 : im.toNat = ll
            · have : ll = 0 := by omega
              subst this
              simp [e1]
            · rw [if_neg e1]
              simp [Addr.add_lit, Nat.add_assoc]
        · rename_i hcond
          refine ⟨_, .slice (some (if im.toNat = ll then ⟨l.blk, l.off + o, none⟩ else ⟨l.blk, l.off + o + ll * j.size, none⟩)) (ih.toNat - ll) (im.toNat - ll), h, ?_, fun W' _ => ok_value ?_⟩
          · simp only [SV.Is]
            exact ⟨_, im.toNat - ll, by congr 1; omega, by split <;> rfl⟩
          · simp only [Instr.sliceAt, Instr.slice, Sem.run_bind, run_underlying hu, Result.andThen_ok, hv, hrun, sizeOf, typeInfo, run_program, hj, Sem.run_pure]
            by_cases e1 : im.toNat = ll
            · rw [if_pos e1, if_pos e1]
            · rw [if_neg e1, if_neg e1]
              simp [Addr.add_lit]
      · rename_i p n1 c1 hb
        rw [hb] at hx; simp only [SV.Is] at hx
        obtain ⟨im, km, h, e1, e2⟩ := ebd h
        obtain ⟨ih, kh, h, e4, e5⟩ := ebd h
        obtain ⟨ll, h, hlv⟩ := evBd_sound hg h
        obtain ⟨⟨h1, h2, h3⟩, hk0⟩ := h
        have hrun := bounds3 (len := n1) (cap := c1) e1 e2 h3 e4 e5 h2 hlv h1
        refine ⟨_, .slice (cutA p ll im.toNat j.size) (ih.toNat - ll) (im.toNat - ll), hk0, by simp only [SV.Is], fun W' _ => ok_value ?_⟩
        simp only [Instr.sliceAt, Instr.slice, Sem.run_bind, run_underlying hu, Result.andThen_ok, hx, hrun, sizeOf, typeInfo, run_program, hj, Sem.run_pure, cutA, plusA]
      · rename_i hb
        rw [hb] at hx; simp only [SV.Is] at hx
        obtain ⟨ad, hx, had⟩ := hx
        obtain ⟨im, km, h, e1, e2⟩ := ebd h
        obtain ⟨ih, kh, h, e4, e5⟩ := ebd h
        obtain ⟨ll, h, hlv⟩ := evBd_sound hg h
        obtain ⟨⟨h1, h2, h3⟩, hk0⟩ := h
        have hrun := bounds3 (len := 0) (cap := 0) e1 e2 h3 e4 e5 h2 hlv h1
        have q1 : im.toNat = 0 := by omega
        have q2 : ih.toNat = 0 := by omega
        obtain rfl : ll = 0 := by omega
        rw [q1, q2] at hrun
        refine ⟨_, .slice ad 0 0, hk0, by simp only [SV.Is]; exact ⟨ad, rfl, had⟩, fun W' _ => ok_value ?_⟩
        simp only [Instr.sliceAt, Instr.slice, Sem.run_bind, run_underlying hu, Result.andThen_ok, hx, hrun, sizeOf, typeInfo, run_program, hj, Sem.run_pure]
        simp
      · rename_i hb
        rw [hb] at hx; simp only [SV.Is] at hx
        obtain ⟨ad, c1, hx, had⟩ := hx
        obtain ⟨im, km, h, e1, e2⟩ := ebd h
        obtain ⟨ih, kh, h, e4, e5⟩ := ebd h
        obtain ⟨ll, h, hlv⟩ := evBd_sound hg h
        obtain ⟨⟨h1, h2, h3⟩, hk0⟩ := h
        have hrun := bounds3 (len := 0) (cap := c1) e1 e2 (by omega) e4 e5 h2 hlv h1
        have q1 : im.toNat = 0 := by omega
        have q2 : ih.toNat = 0 := by omega
        obtain rfl : ll = 0 := by omega
        rw [q1, q2] at hrun
        refine ⟨_, .slice (some ad) 0 0, hk0, by simp only [SV.Is]; exact ⟨ad, 0, rfl, had⟩, fun W' _ => ok_value ?_⟩
        simp only [Instr.sliceAt, Instr.slice, Sem.run_bind, run_underlying hu, Result.andThen_ok, hx, hrun, sizeOf, typeInfo, run_program, hj, Sem.run_pure]
        simp
      · exact h.elim
    · cases hc
  case h_22 => cases hc
end
end Go.Proofs.Ytcejgadbpahbmaa.Sz
end
section
namespace Go.Proofs.Ytcejgadbpahbmaa.Sz
open Go.RowKit
def SV.cells : SV → Option (List SV)
  | .agg cs => some cs
  | .tup _ | .any => none
  | .v (.agg _) => none
  | s => some [s]
theorem cells_is {r : List Loc} {s : SV} {cs : List SV} {u : Value} (h : s.cells = some cs) (hs : s.Is r u) : SV.IsL r cs u.cells.toList := by
  have one : ∀ s : SV, s.Is r u → (∀ c, u ≠ .agg c) → SV.IsL r [s] u.cells.toList := by
    intro s hs hu
    have : u.cells = #[u] := by cases u <;> first | rfl | exact (hu _ rfl).elim
    rw [this]; simp only [SV.IsL]; exact ⟨u, [], rfl, hs, rfl⟩
  unfold SV.cells at h
  split at h
  · injection h with h; subst h
    simp only [SV.Is] at hs
    obtain ⟨us, rfl, hus⟩ := hs
    simpa [Value.cells] using hus
  · cases h
  · cases h
  · cases h
  · rename_i h1 h2 h3 h4
    injection h with h; subst h
    refine one _ hs fun c hc => ?_
    subst hc
    cases s <;> simp only [SV.Is] at hs
    case v x => subst hs; exact h4 _ rfl
    case ptr => obtain ⟨l, _, hh⟩ := hs; cases hh
    case row => obtain ⟨l, c, _, _, _, hh⟩ := hs; cases hh
    case agg cs => exact h1 cs rfl
    case tup cs => exact h2 cs rfl
    case fn => obtain ⟨us, hh, _⟩ := hs; cases hh
    case bnd => obtain ⟨us, hh, _⟩ := hs; cases hh
    case emp => obtain ⟨a, c, hh, _⟩ := hs; cases hh
    case any => exact h3 rfl
    case zro => obtain ⟨a, hh, _⟩ := hs; cases hh
    case mp => obtain ⟨l, _, hh⟩ := hs; cases hh
def over (l : List SV) (o : Nat) (cs : List SV) : List SV := l.take o ++ cs ++ l.drop (o + cs.length)
theorem over_len {l : List SV} {o : Nat} {cs : List SV} (h : o + cs.length ≤ l.length) : (over l o cs).length = l.length := by simp [over]; omega
abbrev Trans := List SV → Mem → (SV → Mem → Prop) → Prop
def Enterable (P : Program) (f : FuncId) : Prop := ∃ fn, P.funcs[f]? = some fn ∧ (fn.name == "runtime.NumGoroutine") = false ∧ fn.body.isNone = false
structure Contract [Inp] (P : Program) (f : FuncId) (q : Bool) (tr : Trans) : Prop where
  enter : Enterable P f
  calls : ∀ (args : List SV) (m : Mem) (k : SV → Mem → Prop) (base : Nat → Prop) (w0 W : World) (r : List Loc) (vs : List Value), tr args m k → St base w0 r m W → SV.IsL r args vs →
    Calls P f vs.toArray W fun e W1 => ∃ s m' t u, k s m' ∧ e = .returned u ∧ St base w0 (r ++ t) m' W1 ∧ s.Is (r ++ t) u ∧ (q = true → Same r W W1)
structure CEntry where
  f : FuncId
  q : Bool
  tr : Trans
structure ExtC [Inp] (P : Program) (f : FuncId) (q : Bool) (tr : Trans) : Prop where
  runs : ∀ (args : List SV) (m : Mem) (k : SV → Mem → Prop) (base : Nat → Prop) (w0 W : World) (r : List Loc) (vs : List Value), tr args m k → St base w0 r m W → SV.IsL r args vs →
    ∃ s m' t u W1, k s m' ∧ (callFunc f vs.toArray).run P W = .ok (.value u) W1 ∧ St base w0 (r ++ t) m' W1 ∧ s.Is (r ++ t) u ∧ (q = true → Same r W W1)
def Callable [Inp] (P : Program) (f : FuncId) (q : Bool) (tr : Trans) : Prop := Contract P f q tr ∨ ExtC P f q tr
def GOk [Inp] (P : Program) (G : List CEntry) : Prop := ∀ c ∈ G, Callable P c.f c.q c.tr
def look (f : FuncId) : List CEntry → Option CEntry
  | [] => none
  | c :: G => if c.f = f then some c else look f G
theorem look_ok [Inp] {P : Program} {G : List CEntry} (h : GOk P G) {f : FuncId} {c : CEntry} (hc : look f G = some c) : Callable P f c.q c.tr := by
  induction G with
  | nil => simp [look] at hc
  | cons d G ih =>
    simp only [look] at hc
    split at hc
    · rename_i he
      injection hc with hc; subst hc; subst he
      exact h _ (by simp)
    · exact ih (fun c hc => h c (by simp [hc])) hc
inductive XB where
  | ofA (x : XA)
  | box (x : XO)
  | alloc (zero : List SV)
  | build (zero : List SV) (parts : List (Nat × Nat × XO))
  | buildSl (sz len : Nat) (zero : List SV) (parts : List (Nat × Nat × XO))
  | store (sz : Nat) (a x : XO)
  | app (sz bytes : Nat) (s x : XO)
  | apps (bytes : Nat) (s x : XO)
  | cpy (sz : Nat) (d x : XO)
  | mkSl (sz bytes : Nat) (zero : List SV) (l c : XO)
  | appk (sz bytes : Nat) (s x : XO)
  | s2b (x : XO)
  | call (f : XO) (args : List XO)
  | mkMap (kt : KT)
  | mapUpd (kt : KT) (x i v : XO)
  | mapEnt (kt : KT) (zero : SV) (x i : XO)
  | entSt (x j v : XO)
def fillS : List SV → List (Nat × Nat × SV) → Option (List SV)
  | l, [] => some l
  | l, (off, sz, s) :: rest =>
    match s.cells with
    | some cs => if cs.length = sz ∧ off + sz ≤ l.length then fillS (over l off cs) rest else none
    | none => none
def bytesC (b : ByteArray) : List SV := b.data.toList.map fun x => .v (.int .u8 x.toNat)
def kill (m : Mem) : SV → Mem
  | .row k _ _ _ => m.set k ⟨false, []⟩
  | _ => m
def grows (m : Mem) (sz : Nat) : SV → Prop
  | .v (.slice _ n c) => n = c
  | .row k o n s => s = sz ∧ (match m[k]? with | some ob => (ob.own = true ∧ o + n * sz ≤ ob.cells.length) ∧ ob.isM = false | none => False)
  | .zro => True
  | _ => False
def capOk : SV → Prop
  | .v (.slice _ n c) => n ≤ c
  | _ => True
def anyOb (ob : SObj) : Option (KT × List (Value × SV)) := match ob.x.v with | .map kt es => some (kt, es) | _ => none
def anyAt (m : Mem) (k : Nat) : Option (KT × List (Value × SV)) := match m[k]? with | some ob => bif ob.own then anyOb ob else none | none => none
def evUpd (kt : KT) (x i v : SV) (m : Mem) (K : SV → Mem → Prop) : Prop := match x, i with
  | .mp k, .v key => (match anyAt m k with | some (kt', es) => (kt' = kt ∧ isK kt key = true) ∧ K (.tup []) (m.set k (mapO kt (putM key v es))) | none => False)
  | _, _ => False
def evEnt (kt : KT) (zero : SV) (x i : SV) (m : Mem) (K : SV → Mem → Prop) : Prop := match x, i with
  | .mp k, .v key => (match anyAt m k with
    | some (kt', es) => (kt' = kt ∧ isK kt key = true) ∧ (match findM key 0 es with
      | some (j, s) => K (.tup [s, .v (.int .i64 j)]) (m.set k (mapO kt es))
      | none => K (.tup [zero, .v (.int .i64 es.length)]) (m.set k (mapO kt (es ++ [(key, zero)]))))
    | none => False)
  | _, _ => False
def evEntSt (x j v : SV) (m : Mem) (K : SV → Mem → Prop) : Prop := match x, j with
  | .mp k, .v (.int _ j) => (match anyAt m k with | some (kt, es) => (0 ≤ j ∧ j < (es.length : Int)) ∧ K (.tup []) (m.set k (mapO kt (setM v j.toNat es))) | none => False)
  | _, _ => False
def evB [Inp] (G : List CEntry) (x : XB) (e : Env) (m : Mem) (K : SV → Mem → Prop) : Prop :=
  match x with
  | .ofA x => evA x e m fun s => K s m
  | .box x => match (x.get e).cells with | some cs => K (.ptr m.length 0) (m ++ [⟨true, cs⟩]) | none => False
  | .alloc zero => K (.ptr m.length 0) (m ++ [⟨true, zero⟩])
  | .build zero parts => match fillS zero (parts.map fun p => (p.1, p.2.1, p.2.2.get e)) with | some cs => K (.agg cs) m | none => False
  | .buildSl sz len zero parts => match fillS zero (parts.map fun p => (p.1, p.2.1, p.2.2.get e)) with | some cs => K (.row m.length 0 len sz) (m ++ [⟨true, cs⟩]) | none => False
  | .store sz a x =>
    match a.get e, (x.get e).cells with
    | .ptr k o, some cs =>
      match m[k]? with
      | some ob => (ob.own = true ∧ cs.length = sz ∧ o + sz ≤ ob.cells.length ∧ cs.all SV.one = true ∧ ob.isM = false) ∧ K (.tup []) (m.set k ⟨true, over ob.cells o cs⟩)
      | none => False
    | _, _ => False
  | .app sz bytes s x =>
    match slOf m sz (s.get e), slOf m sz (x.get e) with
    | some (n, xs), some (k, ys) =>
      if k = 0 then capOk (s.get e) ∧ K (s.get e) m else
      (grows m sz (s.get e) ∧ xs.length = n * sz ∧ ys.length = k * sz ∧ 0 < k ∧ ys.all SV.one = true ∧ n + k ≤ maxLen ∧ (n + k) * bytes ≤ 140737488355328) ∧ K (.row m.length 0 (n + k) sz) (kill m (s.get e) ++ [⟨true, xs ++ ys⟩])
    | _, _ => False
  | .appk sz bytes s x =>
    match slOf m sz (s.get e), slOf m sz (x.get e) with
    | some (n, xs), some (k, ys) =>
      if k = 0 then capOk (s.get e) ∧ K (s.get e) m else
      match s.get e with
      | .row kk o _ sz1 => match m[kk]? with
        | some ob => (sz1 = sz ∧ o = 0 ∧ ob.own = true ∧ ob.isM = false ∧ ob.cells.length = n * sz ∧ xs.length = n * sz ∧ ys.length = k * sz ∧ 0 < k ∧ ys.all SV.one = true ∧ n + k ≤ maxLen ∧ (n + k) * bytes ≤ 140737488355328) ∧
          K (.row m.length 0 (n + k) sz) (m ++ [⟨true, xs ++ ys⟩]) ∧ K (.row kk 0 (n + k) sz) (m.set kk ⟨true, xs ++ ys⟩)
        | none => False
      | _ => False
    | _, _ => False
  | .apps bytes s x =>
    match slOf m 1 (s.get e), x.get e with
    | some (n, xs), .v (.string str) =>
      if str.size = 0 then capOk (s.get e) ∧ K (s.get e) m else
      (grows m 1 (s.get e) ∧ xs.length = n ∧ n + str.size ≤ maxLen ∧ (n + str.size) * bytes ≤ 140737488355328) ∧ K (.row m.length 0 (n + str.size) 1) (kill m (s.get e) ++ [⟨true, xs ++ bytesC str⟩])
    | _, _ => False
  | .cpy sz d x =>
    match d.get e, slOf m sz (x.get e) with
    | .row k o n s, some (k2, ys) =>
      match m[k]? with
      | some ob => (s = sz ∧ ob.own = true ∧ o + n * sz ≤ ob.cells.length ∧ ys.length = k2 * sz ∧ ys.all SV.one = true ∧ ob.isM = false) ∧ K (.v (.int .i64 (min k2 n : Nat))) (m.set k ⟨true, over ob.cells o (ys.take (min k2 n * sz))⟩)
      | none => False
    | _, _ => False
  | .mkSl sz bytes zero l c =>
    match l.get e, c.get e with
    | .v (.int _ n), .v (.int _ q) => (0 ≤ n ∧ n ≤ q ∧ (bytes : Int) * q ≤ 281474976710656 ∧ q ≤ 9223372036854775807) ∧ K (.row m.length 0 n.toNat sz) (m ++ [⟨true, (List.replicate n.toNat zero).flatten⟩])
    | _, _ => False
  | .s2b x => match x.get e with | .v (.string s) => K (.row m.length 0 s.size 1) (m ++ [⟨false, bytesC s⟩]) | _ => False
  | .call f args => match f.get e with | .fn f cap => (match look f G with | some c => c.tr (args.map (XO.get e) ++ cap) m K | none => False) | .bnd f fst => (match look f G with | some c => c.tr (fst ++ args.map (XO.get e)) m K | none => False) | _ => False
  | .mkMap kt => K (.mp m.length) (m ++ [mapO kt []])
  | .mapUpd kt x i v => evUpd kt (x.get e) (i.get e) (v.get e) m K
  | .mapEnt kt zero x i => evEnt kt zero (x.get e) (i.get e) m K
  | .entSt x j v => evEntSt (x.get e) (j.get e) (v.get e) m K
def quiet (G : List CEntry) (e : Env) : XB → Bool
  | .store .. | .app .. | .appk .. | .apps .. | .cpy .. | .mapUpd .. | .mapEnt .. | .entSt .. => false
  | .call f _ => match f.get e with | .fn f _ | .bnd f _ => (match look f G with | some c => c.q | none => false) | _ => false
  | _ => true
def compParts (P : Program) (e : Nat → Option (Nat × Nat)) : List (Nat × Operand) → Option (List (Nat × Nat × XO))
  | [] => some []
  | (i, x) :: rest => match e i, compParts P e rest with | some (o, z), some l => some ((o, z, XO.of x) :: l) | _, _ => none
def svCells (v : Value) : List SV := v.cells.toList.map SV.v
def compB (P : Program) (o : Op) : Option XB :=
  match compA P o with
  | some x => some (.ofA x)
  | none =>
  match o with
  | .box _ x => some (.box (XO.of x))
  | .build t parts => (P.info? t).bind fun i => i.zero.bind fun z =>
    match P.underlying t with
    | some (.struct fs) => if fs.toList.all (fun f => (P.info? f.type).isSome) then (compParts P (fun i => (fs[i]?).bind fun f => (P.info? f.type).map fun j => (f.offset, j.size)) parts.toList).map (.build (svCells z)) else none
    | some (.array _ el) => (P.info? el).bind fun j => (compParts P (fun i => some (i * j.size, j.size)) parts.toList).map (.build (svCells z))
    | _ => none
  | .buildSlice t len parts =>
    match P.underlying t with
    | some (.slice el) => (P.info? el).bind fun j => j.zero.bind fun z => if len * j.size ≤ 16777216 then (compParts P (fun i => some (i * j.size, j.size)) parts.toList).map (.buildSl j.size len ((List.range (len * j.size)).map fun i => .v (z.cells[i % z.cells.size]!))) else none
    | _ => none
  | .alloc t => (P.info? t).bind fun i => i.zero.map fun z => .alloc (svCells z)
  | .store t a x => (P.info? t).map fun i => .store i.size (XO.of a) (XO.of x)
  | .call { callee := .value f, args, argTypes := _ } => some (.call (XO.of f) (args.toList.map XO.of))
  | .call { callee := .builtin .append, args, argTypes } =>
    match args.toList, argTypes.toList with
    | [s, x], [t, t'] =>
      match P.underlying t with
      | some (.slice el) => if t = t' then (P.info? el).bind fun i => i.zero.bind fun z => if 0 < i.size ∧ z.cells.size = i.size then some (.app i.size i.bytes (XO.of s) (XO.of x)) else none else
        match P.underlying t' with
        | some .string => (P.info? el).bind fun i => i.zero.bind fun z => if i.size = 1 ∧ z.cells.size = i.size then some (.apps i.bytes (XO.of s) (XO.of x)) else none
        | some (.slice _) => (P.info? el).bind fun i => i.zero.bind fun z => if 0 < i.size ∧ z.cells.size = i.size then some (.app i.size i.bytes (XO.of s) (XO.of x)) else none
        | _ => none
      | _ => none
    | _, _ => none
  | .call { callee := .builtin .copy, args, argTypes } =>
    match args.toList, argTypes.toList with
    | [d, x], [t, t'] =>
      match P.underlying t with
      | some (.slice el) => (P.info? el).map fun i => .cpy i.size (XO.of d) (XO.of x)
      | _ => none
    | _, _ => none
  | .makeSlice t l c =>
    match P.underlying t with
    | some (.slice el) => (P.info? el).bind fun i => i.zero.bind fun z => if z.cells.size = i.size then some (.mkSl i.size i.bytes (svCells z) (XO.of l) (XO.of c)) else none
    | _ => none
  | .makeMap t r =>
    match P.underlying t with
    | some (.map kt _) => (match r with | none | some (.const (.int _ _)) => (ktOf P kt).map .mkMap | _ => none)
    | _ => none
  | .mapUpdate t x i v | .insert t x i v =>
    match P.underlying t with
    | some (.map kt _) => (ktOf P kt).map fun k => .mapUpd k (XO.of x) (XO.of i) (XO.of v)
    | _ => none
  | .mapEntry t x i =>
    match P.underlying t with
    | some (.map kt et) => (ktOf P kt).bind fun k => (P.info? et).bind fun j => j.zero.map fun z => .mapEnt k (SV.of z) (XO.of x) (XO.of i)
    | _ => none
  | .entryStore _ x j v => some (.entSt (XO.of x) (XO.of j) (XO.of v))
  | .convert s d x =>
    match P.underlying s, P.underlying d with
    | some .string, some (.slice e) => (match P.underlying e with | some (.int .u8) => some (.s2b (XO.of x)) | _ => none)
    | _, _ => none
  | _ => none
section
variable {P : Program} {n : Nat} {r : List Loc} {e : Env} {m : Mem} {a : Act} {base : Nat → Prop} {w0 W : World}
theorem val_wp {o : Oper} {Kr : Act → World → Prop} {Q : Exit → Act → World → Prop} {u : Value} {W1 : World} (h : (execOp a.eval o).run P W = .ok (.value u) W1) (hK : Kr (a.put o.dst u) W1) : o.wp P a W Kr Q := by
  unfold Oper.wp; rw [h]; exact hK
theorem skip_wp {o : Oper} {Kr : Act → World → Prop} {Q : Exit → Act → World → Prop} {W1 : World} (h : (execOp a.eval o).run P W = .ok .skip W1) (hK : Kr (a.put o.dst undef) W1) : o.wp P a W Kr Q := by
  unfold Oper.wp; rw [h]; exact hK
theorem ObjAt.new {b : Nat} {room : Nat} {W1 : World} {c : Array Value} {T : TypeId} {cs : List SV} {own : Bool} (h : W1.heap[b]? = some (.cells c T (0, 0))) (hsz : room ≤ c.size) (hf : cs.length ≤ room) (hc : SV.IsL r cs ((c.toList.drop 0).take cs.length)) (hb : base b) : ObjAt base r W1 ⟨b, 0, room⟩ ⟨own, cs⟩ :=
  ⟨fun _ _ => ⟨c, T, (0, 0), h, by simpa using hsz, hc, fun _ => rfl⟩, hf, fun _ => hb, (Array.getElem?_eq_some_iff.1 h).1, trivial⟩
theorem St.new [Inp] (h : St base w0 r m W) {cs : List SV} {us : List Value} (hus : SV.IsL r cs us) (T : TypeId) :
    St base w0 (r ++ [⟨W.heap.size, 0, us.length⟩]) (m ++ [⟨true, cs⟩]) (W.alloc (.cells us.toArray T)) ∧ Same r W (W.alloc (.cells us.toArray T)) := by
  have hb : Low base W (W.alloc (.cells us.toArray T)) := Low.of_below ((Below.refl _ _).alloc (Nat.le_refl _) _)
  have hs : Same r W (W.alloc (.cells us.toArray T)) := Same.below h ((Below.refl _ _).alloc (Nat.le_refl _) _)
  have hl := IsL_len hus
  refine ⟨h.add hb hs _ _ (ObjAt.new (heap_alloc_new _ _) (by simp) (by simp [hl]) ?_ (h.from_ _ h.low.size)) rfl (Nat.le_refl _), hs⟩
  simp only [List.drop_zero]
  rw [List.take_of_length_le (by simp [hl])]
  exact SV.IsL.grow _ hus
theorem St.wrF [Inp] (h : St base w0 r m W) {F : Nat → List Nat} (hF : Hid base r m W F) {W1 : World} {k : Nat} {l : Loc} {ob : SObj} (hl : r[k]? = some l) (hob : m[k]? = some ob) (hown : ob.own = true) (hlow : Low base W W1) (hoth : ∀ j, j < W.heap.size → j ≠ l.blk → W1.heap[j]? = W.heap[j]?)
    (o' : SObj) (ho' : ObjAt base r W1 l o') (ha : o'.isA = false) : St base w0 r (m.set k o') W1 ∧ Hid base r (m.set k o') W1 (fun i => if i = k then [] else F i) := by
  have hk : k < m.length := (List.getElem?_eq_some_iff.1 hob).1
  have hget : ∀ (k' : Nat) (y : SObj), (m.set k o')[k']? = some y → (k' = k ∧ y = o') ∨ (k' ≠ k ∧ m[k']? = some y) := by
    intro k' y hy
    rw [List.getElem?_set] at hy
    by_cases e : k = k'
    · subst e
      simp [hk] at hy
      exact .inl ⟨rfl, hy.symm⟩
    · rw [if_neg e] at hy
      exact .inr ⟨fun x => e x.symm, hy⟩
  have hH : Hid base r (m.set k o') W1 (fun i => if i = k then [] else F i) := by
    refine ⟨fun i x y h1 h2 => ?_, fun i b hb => ?_, fun i b hb k' x y h1 h2 hal => ?_, fun i i' b hb hb' => ?_⟩
    · rcases hget i y h2 with ⟨rfl, rfl⟩ | ⟨hne, hy⟩
      · exact HidIs.not ha
      · simp only [if_neg hne]
        cases hya : y.isA with
        | false => exact HidIs.not hya
        | true =>
          have hyo := (h.obj i x y h1 hy).isA_own hya
          refine (hF.is i x y h1 hy).same hlow.size fun b hb => ?_
          rcases List.mem_cons.1 hb with rfl | hb
          · exact hoth _ (h.obj i x y h1 hy).lt fun e => h.sep k i l x ob y hl h1 hob hy (Ne.symm hne) hown (.inl hyo) e.symm
          · exact hoth _ (hF.base i b hb).2 fun e => hF.far i b hb k l ob hl hob (.inl hown) e.symm
    · split at hb
      · simp at hb
      · exact ⟨(hF.base i b hb).1, Nat.lt_of_lt_of_le (hF.base i b hb).2 hlow.size⟩
    · split at hb
      · simp at hb
      · rcases hget k' y h2 with ⟨rfl, rfl⟩ | ⟨hne, hy⟩
        · rw [hl] at h1; injection h1 with h1; subst h1
          exact hF.far i b hb k' l ob hl hob (.inl hown)
        · exact hF.far i b hb k' x y h1 hy hal
    · split at hb
      · simp at hb
      · split at hb'
        · simp at hb'
        · exact hF.apart i i' b hb hb'
  refine ⟨⟨h.low.trans hlow, h.from_, h.inp, by simp [h.len], fun k' l' y h1 h2 => ?_, fun k1 k2 l1 l2 y1 y2 h1 h2 h3 h4 hne ho hal => ?_, _, hH⟩, hH⟩
  · rcases hget k' y h2 with ⟨rfl, rfl⟩ | ⟨hne, hy⟩
    · rw [hl] at h1; injection h1 with h1; subst h1; exact ho'
    · have hO := h.obj k' l' y h1 hy
      by_cases hal : y.own = true ∨ y.cells ≠ []
      · exact hO.same (hoth _ hO.lt fun e => h.sep k k' l l' ob y hl h1 hob hy (Ne.symm hne) hown hal e.symm)
      · have hd1 : y.own = false := by cases hy' : y.own <;> simp_all
        have hd2 : y.cells = [] := by cases hy' : y.cells <;> simp_all
        rw [hO.isDead hd1 hd2]
        exact .dead (Nat.lt_of_lt_of_le hO.lt hlow.size)
  · rcases hget k1 y1 h3 with ⟨rfl, rfl⟩ | ⟨hne1, hy1⟩ <;> rcases hget k2 y2 h4 with ⟨rfl, rfl⟩ | ⟨hne2, hy2⟩
    · exact (hne rfl).elim
    · rw [hl] at h1; injection h1 with h1; subst h1
      exact h.sep k1 k2 l l2 ob y2 hl h2 hob hy2 hne hown hal
    · rw [hl] at h2; injection h2 with h2; subst h2
      exact fun e => h.sep k2 k1 l l1 ob y1 hl h1 hob hy1 (Ne.symm hne) hown (.inl ho) e.symm
    · exact h.sep k1 k2 l1 l2 y1 y2 h1 h2 hy1 hy2 hne ho hal
theorem St.wr [Inp] (h : St base w0 r m W) {W1 : World} {k : Nat} {l : Loc} {ob : SObj} (hl : r[k]? = some l) (hob : m[k]? = some ob) (hown : ob.own = true) (hlow : Low base W W1) (hoth : ∀ j, j < W.heap.size → j ≠ l.blk → W1.heap[j]? = W.heap[j]?)
    (o' : SObj) (ho' : ObjAt base r W1 l o') (ha : o'.isA = false) : St base w0 r (m.set k o') W1 := by
  obtain ⟨F, hF⟩ := h.hid
  exact (h.wrF hF hl hob hown hlow hoth o' ho' ha).1
theorem St.move [Inp] (h : St base w0 r m W) {W1 : World} {k : Nat} {l l' : Loc} {ob o : SObj} (hl : r[k]? = some l) (hob : m[k]? = some ob) (hown : ob.own = true) (hlow : Low base W W1) (hoth : ∀ j, j < W.heap.size → j ≠ l.blk → W1.heap[j]? = W.heap[j]?)
    (hb : l'.blk = l.blk) (ho : ObjAt base (r ++ [l']) W1 l' o) (ha : o.isA = false) : St base w0 (r ++ [l']) (m.set k ⟨false, []⟩ ++ [o]) W1 := by
  obtain ⟨F, hF⟩ := h.hid
  have hO := h.obj k l ob hl hob
  obtain ⟨h1, h2⟩ := h.wrF hF hl hob hown hlow hoth ⟨false, []⟩ (.dead (Nat.lt_of_lt_of_le hO.lt hlow.size)) rfl
  refine h1.addG h2 l' o ho ha (fun i b hbb => ?_) (fun k' x y q1 q2 hal => ?_)
  · split at hbb
    · simp at hbb
    · rw [hb]; exact hF.far i b hbb k l ob hl hob (.inl hown)
  · rw [List.getElem?_set] at q2
    by_cases e : k = k'
    · subst e
      simp at q2
      obtain ⟨_, rfl⟩ := q2
      simp at hal
    · rw [if_neg e] at q2
      rw [hb]
      exact fun e2 => h.sep k k' l x ob y hl q1 hob q2 e hown hal e2.symm
theorem low_setRow {b : Nat} {c c' : Array Value} {T : TypeId} (hb : base b) (hc : W.heap[b]? = some (.cells c T (0, 0))) (hsz : c'.size = c.size) : Low base W (W.setRow b c') :=
  ⟨by simp, by simp, by simp, by simp, fun j hj hn => setRow_other _ _ _ _ (fun e => hn (e ▸ hb)), fun j d T2 fr2 hj => by
    by_cases e : j = b
    · subst e
      rw [hc] at hj
      injection hj with hj; injection hj with e1 e2 e3
      subst e1
      exact ⟨c', T, (0, 0), setRow_heap _ _ _ _ _ _ hc, hsz⟩
    · exact ⟨d, T2, fr2, by rw [setRow_other _ _ _ _ e]; exact hj, rfl⟩⟩
theorem St.put [Inp] (h : St base w0 r m W) {k : Nat} {l : Loc} {ob : SObj} (hl : r[k]? = some l) (hob : m[k]? = some ob) (hown : ob.own = true) {c : Array Value} {T : TypeId} (hc : W.heap[l.blk]? = some (.cells c T (0, 0))) (c' : Array Value) (hsz : c'.size = c.size)
    (o' : SObj) (ho' : ObjAt base r (W.setRow l.blk c') l o') (ha : o'.isA = false := by rfl) : St base w0 r (m.set k o') (W.setRow l.blk c') :=
  h.wr hl hob hown (low_setRow ((h.obj k l ob hl hob).own hown) hc hsz) (fun j _ hj => setRow_other _ _ _ _ hj) o' ho' ha
theorem ObjAt.put {l : Loc} {ob : SObj} (hO : ObjAt base r W l ob) (hown : ob.own = true) {c c' : Array Value} {T : TypeId} (hc : W.heap[l.blk]? = some (.cells c T (0, 0))) (hr : l.off + l.room ≤ c.size) (hsz : c'.size = c.size) {cs : List SV} (hf : cs.length ≤ l.room)
    (hcs : SV.IsL r cs ((c'.toList.drop l.off).take cs.length)) : ObjAt base r (W.setRow l.blk c') l ⟨true, cs⟩ :=
  ⟨fun _ _ => ⟨c', T, (0, 0), setRow_heap _ _ _ _ _ _ hc, by rw [hsz]; exact hr, hcs, fun _ => rfl⟩, hf, fun _ => hO.own hown, by simpa using hO.lt, trivial⟩
theorem real_over (c : List Value) (b o k : Nat) (vs : List Value) (hk : b + k ≤ c.length) (ho : o + vs.length ≤ k) :
    ((c.take (b + o) ++ vs ++ c.drop (b + o + vs.length)).drop b).take k = (((c.drop b).take k).take o ++ vs ++ ((c.drop b).take k).drop (o + vs.length)) := by
  apply List.ext_getElem?
  intro i
  simp only [List.getElem?_take, List.getElem?_drop, List.getElem?_append, List.length_append, List.length_take, List.length_drop]
  by_cases h1 : i < k
  · by_cases h2 : i < o
    · repeat (first | rw [if_pos (by omega)] | rw [if_neg (by omega)])
    · by_cases h3 : i < o + vs.length
      · repeat (first | rw [if_pos (by omega)] | rw [if_neg (by omega)])
        congr 1
        omega
      · repeat (first | rw [if_pos (by omega)] | rw [if_neg (by omega)])
        congr 1
        omega
  · repeat (first | rw [if_pos (by omega)] | rw [if_neg (by omega)])
theorem IsL_over {s cs : List SV} {u us : List Value} (o : Nat) (h : SV.IsL r s u) (hc : SV.IsL r cs us) : SV.IsL r (over s o cs) (u.take o ++ us ++ u.drop (o + us.length)) := by
  unfold over
  rw [IsL_len hc]
  exact IsL_append (IsL_append (IsL_take _ h) hc) (IsL_drop _ h)
theorem foldl_set (off : Nat) : ∀ (vs : List Value) (j : Nat) (cells : Array Value), off + j + vs.length ≤ cells.size →
    ((vs.zipIdx j).foldl (fun cs p => cs.setIfInBounds (off + p.2) p.1) cells).toList = cells.toList.take (off + j) ++ vs ++ cells.toList.drop (off + j + vs.length)
  | [], j, cells, h => by simp
  | v :: vs, j, cells, h => by
    simp only [List.zipIdx_cons, List.foldl_cons]
    simp at h
    rw [foldl_set off vs (j + 1) _ (by simp; omega)]
    simp only [Array.toList_setIfInBounds, List.length_cons]
    rw [List.drop_set_of_lt (by omega)]
    have : (cells.toList.set (off + j) v).take (off + (j + 1)) = cells.toList.take (off + j) ++ [v] := by
      rw [show off + (j + 1) = off + j + 1 by omega, List.take_succ_eq_append_getElem (by simp; omega)]
      simp [List.take_set_of_le (Nat.le_refl _)]
    rw [this]
    simp only [List.append_assoc, List.cons_append, List.nil_append]
    rw [show off + (j + 1) + vs.length = off + j + (vs.length + 1) by omega]
theorem compParts_is {place : Nat → Option (Nat × Nat)} {ev : Operand → Value} (hev : ∀ x, ((XO.of x).get e).Is r (ev x)) : ∀ {parts : List (Nat × Operand)} {xs : List (Nat × Nat × XO)} {l cs : List SV} {us : Array Value}, compParts P place parts = some xs → SV.IsL r l us.toList →
    fillS l (xs.map fun p => (p.1, p.2.1, p.2.2.get e)) = some cs → ∃ us', Instr.fill place us (parts.map fun p => (p.1, ev p.2)) = some us' ∧ SV.IsL r cs us'.toList
  | [], xs, l, cs, us, hp, hl, hf => by
    simp only [compParts] at hp
    injection hp with hp; subst hp
    simp only [List.map_nil, fillS] at hf
    injection hf with hf; subst hf
    exact ⟨us, rfl, hl⟩
  | (i, x) :: rest, xs, l, cs, us, hp, hl, hf => by
    simp only [compParts] at hp
    split at hp
    · rename_i o z l2 h1 h2
      injection hp with hp; subst hp
      simp only [List.map_cons, fillS] at hf
      split at hf
      · rename_i c1 hc1
        split at hf
        · rename_i hcond
          have hcs := cells_is hc1 (hev x)
          have hlen := IsL_len hcs
          have hll := IsL_len hl
          simp only [Array.length_toList] at hlen hll
          simp only [Instr.fill, List.map_cons, h1]
          rw [if_neg (by simp; omega)]
          refine compParts_is hev h2 ?_ hf
          rw [← Array.foldl_toList, Array.toList_zipIdx, foldl_set _ _ _ _ (by simp; omega)]
          simp only [Nat.add_zero]
          exact IsL_over _ hl hcs
        · cases hf
      · cases hf
    · cases hp
theorem svCells_is (v : Value) : SV.IsL r (svCells v) v.cells.toList := IsL_v _
theorem run_places {fs : List Field} (h : fs.all (fun f => (P.info? f.type).isSome) = true) (W : World) : (fs.mapM fun f => (do pure (f.offset, ← sizeOf f.type) : Sem (Nat × Nat))).run P W = .ok (fs.map fun f => (f.offset, ((P.info? f.type).map (·.size)).getD 0)) W := by
  induction fs with
  | nil => simp
  | cons f fs ih =>
    simp at h
    obtain ⟨i, hi⟩ := Option.isSome_iff_exists.1 h.1
    have ih := ih (by simpa using h.2)
    have h1 : (sizeOf f.type).run P W = .ok i.size W := by simp [sizeOf, typeInfo, hi]
    rw [List.mapM_cons]
    simp only [Sem.run_bind, h1, Result.andThen_ok, Sem.run_pure, ih, List.map_cons, hi, Option.map_some, Option.getD_some]
theorem St.newMap [Inp] (h : St base w0 r m W) (kt : KT) : St base w0 (r ++ [⟨W.heap.size, 0, 0⟩]) (m ++ [mapO kt []]) (W.alloc (.map #[] 0)) ∧ Same r W (W.alloc (.map #[] 0)) := by
  have hb : Below W.heap.size W (W.alloc (.map #[] 0)) := (Below.refl _ _).alloc (Nat.le_refl _) _
  have hext : ExtIs (r ++ [⟨W.heap.size, 0, 0⟩]) (W.alloc (.map #[] 0)) ⟨W.heap.size, 0, 0⟩ (mapO kt []) := ⟨⟨rfl, rfl, rfl⟩, #[], heap_alloc_new _ _, rfl⟩
  exact ⟨h.add (Low.of_below hb) (Same.below h hb) _ _ ⟨fun hh => Bool.noConfusion (show true = false from hh), Nat.le_refl _, fun _ => h.from_ _ h.low.size, (Array.getElem?_eq_some_iff.1 (heap_alloc_new W (.map #[] 0))).1, hext⟩ rfl (Nat.le_refl _), Same.below h hb⟩
theorem keq_iff {kt : KT} {a b : Value} (ha : Go.MapKept.IsKey kt.desc a) (hb : Go.MapKept.IsKey kt.desc b) : keq a b = true ↔ a = b := by
  obtain ⟨x, h1, h2⟩ := Go.MapKept.sameNow_of_keys ha hb
  rw [keq_ok ha hb] at h1
  injection h1 with h1
  rw [h1]; exact h2
theorem upd_ok {kt : KT} {key : Value} (hk : Go.MapKept.IsKey kt.desc key) {v : SV} {u : Value} (hv : v.Is r u) : ∀ {n : Nat} {ps : List (Value × SV)} {es : List MapEntry}, MapIs r kt.desc n ps es →
    (findM key n ps = none ∧ Instr.findNow kt.desc key es n = some none ∧ MapIs r kt.desc n (putM key v ps) (es ++ [⟨key, u, n + es.length⟩]) ∧ MapIs r kt.desc n (ps ++ [(key, v)]) (es ++ [⟨key, u, n + es.length⟩]) ∧ (putM key v ps).length = ps.length + 1) ∨
    ∃ i e s, findM key n ps = some (n + i, s) ∧ Instr.findNow kt.desc key es n = some (some (n + i, e.val)) ∧ es[i]? = some e ∧ e.key = key ∧ s.Is r e.val ∧ MapIs r kt.desc n (putM key v ps) (es.modify i fun e => { e with key := key, val := u }) ∧ (putM key v ps).length = ps.length
  | n, [], es, h => by
    simp only [MapIs] at h
    subst h
    exact .inl ⟨rfl, rfl, ⟨_, [], rfl, rfl, hv, rfl, hk, by simp [MapIs]⟩, ⟨_, [], rfl, rfl, hv, rfl, hk, by simp [MapIs]⟩, rfl⟩
  | n, p :: ps, es, h => by
    obtain ⟨e, t, rfl, h1, h2, h3, h4, h5⟩ := h
    have he := keq_ok hk h4
    unfold findM Instr.findNow putM
    rw [he, ← h1]
    cases hq : keq key p.1 with
    | true =>
      rw [h1] at hq
      have hke := (keq_iff hk h4).1 hq
      refine .inr ⟨0, e, p.2, rfl, rfl, rfl, hke.symm, h2, ?_, rfl⟩
      simp only [cond_true]
      exact ⟨_, t, rfl, by rw [h1]; exact hke.symm, hv, h3, hk, h5⟩
    | false =>
      simp only [cond_false]
      rcases upd_ok hk hv h5 with ⟨a1, a2, a3, a4, a5⟩ | ⟨i, e', s, a1, a2, a3, a4, a5, a6, a7⟩
      · refine .inl ⟨a1, a2, ⟨e, _, rfl, h1, h2, h3, h4, ?_⟩, ⟨e, _, rfl, h1, h2, h3, h4, ?_⟩, by simp [a5]⟩
        · simpa [Nat.add_assoc, Nat.add_comm 1] using a3
        · simpa [Nat.add_assoc, Nat.add_comm 1] using a4
      · refine .inr ⟨i + 1, e', s, by rw [a1]; congr 2; omega, by rw [a2]; congr 3; omega, by simpa using a3, a4, a5, ⟨e, _, rfl, h1, h2, h3, h4, ?_⟩, by simp [a7]⟩
        exact a6
theorem set_ok {d : TypeDesc} {v : SV} {u : Value} (hv : v.Is r u) : ∀ {n : Nat} {ps : List (Value × SV)} {es : List MapEntry}, MapIs r d n ps es → ∀ i, i < ps.length →
    MapIs r d n (setM v i ps) (es.modify i fun e => { e with val := u }) ∧ (setM v i ps).length = ps.length ∧ es.findIdx? (fun e => (e.born : Int) == ((n + i : Nat) : Int)) = some i
  | n, [], es, h, i, hi => by simp at hi
  | n, p :: ps, es, h, 0, hi => by
    obtain ⟨e, t, rfl, h1, h2, h3, h4, h5⟩ := h
    refine ⟨⟨_, t, rfl, h1, hv, h3, h4, h5⟩, rfl, ?_⟩
    simp [List.findIdx?_cons, h3]
  | n, p :: ps, es, h, i + 1, hi => by
    obtain ⟨e, t, rfl, h1, h2, h3, h4, h5⟩ := h
    obtain ⟨a1, a2, a3⟩ := set_ok hv h5 i (by simpa using hi)
    refine ⟨⟨e, _, rfl, h1, h2, h3, h4, a1⟩, by simp [setM, a2], ?_⟩
    rw [List.findIdx?_cons]
    have hne : ((e.born : Int) == ((n + (i + 1) : Nat) : Int)) = false := by
      rw [h3]
      simp
      omega
    rw [hne]
    have e1 : n + 1 + i = n + (i + 1) := by omega
    rw [e1] at a3
    simp only [a3, Bool.false_eq_true, if_false, Option.map_some]
theorem modify_same {es : List MapEntry} {i : Nat} {f : MapEntry → MapEntry} (h : ∀ e, es[i]? = some e → f e = e) : es.modify i f = es := by
  apply List.ext_getElem?
  intro j
  rw [List.getElem?_modify]
  by_cases hij : i = j
  · subst hij
    cases he : es[i]? with
    | none => simp
    | some e => simp [h e he]
  · simp [hij]
theorem anyAt_ok [Inp] (hst : St base w0 r m W) {k : Nat} {l : Loc} {kt : KT} {es : List (Value × SV)} (hl : r[k]? = some l) (h : anyAt m k = some (kt, es)) : ∃ ob es', m[k]? = some ob ∧ ob.own = true ∧ W.heap[l.blk]? = some (.map es' es.length) ∧ MapIs r kt.desc 0 es es'.toList ∧ l.room = 0 := by
  unfold anyAt at h
  split at h
  · rename_i ob hob
    cases hown : ob.own with
    | false => simp [hown] at h
    | true =>
      simp only [hown, cond_true] at h
      obtain ⟨es', h1, h2, h3⟩ := mapOb_ok (kt := kt) (ps := es) (hst.obj k l ob hl hob) (by
        unfold anyOb at h
        unfold mapOb
        split at h
        · rename_i he
          injection h with h; injection h with h1 h2
          simp only [he, h1, h2, if_true]
        · cases h)
      exact ⟨ob, es', hob, hown, h1, h2, h3⟩
  · cases h
theorem St.setMap [Inp] (hst : St base w0 r m W) {k : Nat} {l : Loc} {ob : SObj} {kt : KT} {ps : List (Value × SV)} {es es' : Array MapEntry} {cl : Nat} (hl : r[k]? = some l) (hob : m[k]? = some ob) (hown : ob.own = true) (hb : W.heap[l.blk]? = some (.map es cl)) (hr : l.room = 0)
    (hm : MapIs r kt.desc 0 ps es'.toList) : St base w0 r (m.set k (mapO kt ps)) { W with heap := W.heap.setIfInBounds l.blk (.map es' ps.length) } := by
  have hO := hst.obj k l ob hl hob
  have hext : ExtIs r { W with heap := W.heap.setIfInBounds l.blk (.map es' ps.length) } l (mapO kt ps) := ⟨⟨rfl, hr, rfl⟩, es', (Go.MapKept.heap_set hb).1, hm⟩
  refine hst.wr (W1 := { W with heap := W.heap.setIfInBounds l.blk (.map es' ps.length) }) hl hob hown ⟨rfl, rfl, rfl, by simp, fun j hj hn => ?_, fun j d T fr hj => ?_⟩ (fun j _ hj => (Go.MapKept.heap_set hb).2 j hj) _ ⟨fun h => ?_, by simp [mapO], fun _ => hO.own hown, by simpa using hO.lt, hext⟩ rfl
  · exact (Go.MapKept.heap_set hb).2 j (fun e => hn (e ▸ hO.own hown))
  · have hne : j ≠ l.blk := fun e => by rw [e, hb] at hj; cases hj
    exact ⟨d, T, fr, by rw [← hj]; exact (Go.MapKept.heap_set hb).2 j hne, rfl⟩
  · exact (Bool.noConfusion (show true = false from h))
end
end Go.Proofs.Ytcejgadbpahbmaa.Sz
end
