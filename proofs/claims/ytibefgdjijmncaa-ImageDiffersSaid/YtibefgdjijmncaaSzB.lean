/- Symbolic walks, part B: operations that only look. No condition. -/
import Derived.Test.YtibefgdjijmncaaSzA
import Derived.Test.YtibefgdjijmncaaSzQ
import Derived.Laws.StructEq
import Derived.Laws.Slices
namespace Go.Proofs.Ytibefgdjijmncaa.Sz
open Go.RowKit
set_option linter.unusedVariables false
set_option linter.unusedSimpArgs false
inductive XO where
  | tmp (t : Nat)
  | cst (s : SV)
def XO.of : Operand → XO
  | .tmp t => .tmp t
  | .const v => .cst (SV.of v)
  | .global g => .cst (.v (.pointer (some ⟨g, 0, none⟩)))
  | .func f => .cst (.fn f [])
abbrev Env := Nat → SV
def XO.get (e : Env) : XO → SV
  | .tmp t => e t
  | .cst s => s
structure EnvIs (n : Nat) (r : List Loc) (e : Env) (tmps : Array Value) : Prop where
  size : tmps.size = n
  is : ∀ t, (e t).Is r (tmps.getD t undef)
theorem EnvIs.get {n : Nat} {r : List Loc} {e : Env} {a : Act} (h : EnvIs n r e a.tmps) (x : Operand) : ((XO.of x).get e).Is r (a.eval x) := by
  cases x with
  | tmp t => exact h.is t
  | const v => exact SV.of_is r v
  | global g => simp only [XO.of, XO.get, SV.Is]; rfl
  | func f => simp only [XO.of, XO.get, SV.Is]; exact ⟨[], rfl, by simp [SV.IsL]⟩
theorem EnvIs.grow {n : Nat} {r : List Loc} {e : Env} {ts : Array Value} (h : EnvIs n r e ts) (t : List Loc) : EnvIs n (r ++ t) e ts := ⟨h.size, fun x => (h.is x).grow t⟩
def put (e : Env) (d : Nat) (s : SV) : Env := fun t => if t = d then s else e t
theorem put_same (e : Env) (d : Nat) (s : SV) : put e d s d = s := by simp [put]
theorem put_other (e : Env) (d t : Nat) (s : SV) (h : t ≠ d) : put e d s t = e t := by simp [put, h]
theorem put_apply (e : Env) (d t : Nat) (s : SV) : put e d s t = if t = d then s else e t := rfl
def putO (e : Env) : Option Nat → SV → Env
  | some d, s => put e d s
  | none, _ => e
theorem EnvIs.putO {n : Nat} {r : List Loc} {e : Env} {a : Act} (h : EnvIs n r e a.tmps) (d : Option Nat) (hd : ∀ x, d = some x → x < n) {s : SV} {u : Value} (hs : s.Is r u) : EnvIs n r (putO e d s) (a.put d u).tmps := by
  cases d with
  | none => exact h
  | some x =>
    have hx := hd x rfl
    refine ⟨by simp [Act.put, h.size], fun t => ?_⟩
    simp only [Sz.putO, put, Act.put]
    by_cases ht : t = x
    · subst ht
      simp only [if_true]
      rw [show (a.tmps.setIfInBounds t u).getD t undef = u by simp [h.size, hx]]
      exact hs
    · rw [if_neg ht]
      rw [show (a.tmps.setIfInBounds x u).getD t undef = a.tmps.getD t undef by simp [Array.getElem?_setIfInBounds_ne (fun e => ht e.symm)]]
      exact h.is t
/-! ### Operations that only look -/
inductive XA where
  | mv (x : XO)
  | pick (c a b : XO)
  | bin (op : BinOp) (x y : XO)
  | eqb (neg : Bool) (x y : XO)
  | eqn (neg : Bool) (srt : Nat) (x y : XO)
  | un (op : UnOp) (x : XO)
  | conv (k : IntKind) (x : XO)
  | field (off : Nat) (sz : Option Nat) (x : XO)
  | faddr (off : Nat) (x : XO)
  | iarr (n sz : Nat) (x i : XO)
  | isl (sz : Nat) (x i : XO)
  | idx (n sz : Nat) (agg : Bool) (x i : XO)
  | extract (i : Nat) (x : XO)
  | load (sz : Option Nat) (x : XO)
  | len (x : XO)
  | lens (x : XO)
  | nilc (x : XO)
  | mkfn (f : FuncId) (cap : List XO)
  | mkbnd (f : FuncId) (first : List XO)
  | eqs (neg : Bool) (ks : List CK) (x y : XO)
  | mx (big : Bool) (x : XO) (l : List XO)
  | slc (sz : Nat) (x : XO) (lo hi : Option XO)
  | slca (n sz : Nat) (x : XO) (lo hi : Option XO)
  | slcs (x : XO) (lo hi : Option XO)
  | slc3 (sz : Nat) (x : XO) (lo : Option XO) (hi mx : XO)
  | sidx (x i : XO)
  | b2s (x : XO)
  | strc (x : XO)
  | capc (x : XO)
  | lenm (x : XO)
  | look (kt : KT) (zero : SV) (ok : Bool) (x i : XO)
/-- Does it read memory? -/
def XA.mem : XA → Bool
  | .load .. | .b2s .. | .lenm .. | .look .. => true
  | _ => false
def szOf (P : Program) (t : TypeId) : Option (Option Nat) :=
  match P.underlying t, P.info? t with
  | some (.struct _), some i | some (.array _ _), some i => some (some i.size)
  | some _, some _ => some none
  | _, _ => none
/-- The kind of a map's keys. -/
def ktOf (P : Program) (t : TypeId) : Option KT :=
  match P.underlying t with
  | some (.int k) => some (.int k)
  | some .string => some .str
  | some .bool => some .bool
  | _ => none
def isNeq : BinOp → Bool
  | .neq => true
  | _ => false
def compA (P : Program) : Op → Option XA
  | .move x | .assign x => some (.mv (XO.of x))
  | .pick c a b => some (.pick (XO.of c) (XO.of a) (XO.of b))
  | .binOp op t x y _ =>
    match op with
    | .eql | .neq =>
      match P.underlying t with
      | some (.int _) | some .string => some (.bin op (XO.of x) (XO.of y))
      | some .bool => some (.eqb (isNeq op) (XO.of x) (XO.of y))
      | some (.pointer _) => some (.eqn (isNeq op) 1 (XO.of x) (XO.of y))
      | some (.slice _) => some (.eqn (isNeq op) 2 (XO.of x) (XO.of y))
      | some (.func _ _ _) => some (.eqn (isNeq op) 3 (XO.of x) (XO.of y))
      | some (.struct _) | some (.array _ _) => if P.eqGuardType P.depth t then none else (flatK P 20 t).map fun ks => .eqs (isNeq op) ks (XO.of x) (XO.of y)
      | _ => none
    | _ => some (.bin op (XO.of x) (XO.of y))
  | .unOp op _ x => some (.un op (XO.of x))
  | .convert s d x =>
    match P.underlying s, P.underlying d with
    | some (.int _), some (.int k) => some (.conv k (XO.of x))
    | some .string, some .string => some (.strc (XO.of x))
    | some (.slice e), some .string => (match P.underlying e with | some (.int .u8) => some (.b2s (XO.of x)) | _ => none)
    | _, _ => none
  | .fieldAddr s x f =>
    match P.underlying s with
    | some (.struct fs) => (fs[f]?).bind fun f => (P.info? f.type).bind fun i => if i.size = 0 then none else some (.faddr f.offset (XO.of x))
    | _ => none
  | .field s x f =>
    match P.underlying s with
    | some (.struct fs) => (fs[f]?).bind fun f => (szOf P f.type).map fun z => .field f.offset z (XO.of x)
    | _ => none
  | .indexAddr t x i =>
    match P.underlying t with
    | some (.array n e) => (P.info? e).map fun j => .iarr n j.size (XO.of x) (XO.of i)
    | some (.slice e) => (P.info? e).map fun j => .isl j.size (XO.of x) (XO.of i)
    | _ => none
  | .index t x i =>
    match P.underlying t with
    | some (.array n e) => (P.info? e).bind fun j => (szOf P e).map fun z => .idx n j.size z.isSome (XO.of x) (XO.of i)
    | some .string => some (.sidx (XO.of x) (XO.of i))
    | _ => none
  | .extract x i => some (.extract i (XO.of x))
  | .load t x => (szOf P t).map fun z => .load z (XO.of x)
  | .nilCheck x => some (.nilc (XO.of x))
  | .makeFunc (.func f) first cap => if first.isEmpty then some (.mkfn f (cap.toList.map XO.of)) else if cap.isEmpty then some (.mkbnd f (first.toList.map XO.of)) else none
  | .call { callee := .builtin .len, args, argTypes } =>
    match args.toList, argTypes.toList with
    | [x], [t] =>
      match P.underlying t with
      | some (.slice _) => some (.len (XO.of x))
      | some .string => some (.lens (XO.of x))
      | some (.array n _) => some (.mv (.cst (.v (.int .i64 n))))
      | some (.map _ _) => some (.lenm (XO.of x))
      | _ => none
    | _, _ => none
  | .call { callee := .builtin .max, args, argTypes := _ } => match args.toList with | x :: l => some (.mx true (XO.of x) (l.map XO.of)) | [] => none
  | .call { callee := .builtin .min, args, argTypes := _ } => match args.toList with | x :: l => some (.mx false (XO.of x) (l.map XO.of)) | [] => none
  | .call { callee := .builtin .cap, args, argTypes } =>
    match args.toList, argTypes.toList with
    | [x], [t] =>
      match P.underlying t with
      | some (.slice _) => some (.capc (XO.of x))
      | _ => none
    | _, _ => none
  | .lookup t x i ok =>
    match P.underlying t with
    | some (.map kt et) => (ktOf P kt).bind fun k => (P.info? et).bind fun j => j.zero.map fun z => .look k (SV.of z) ok (XO.of x) (XO.of i)
    | _ => none
  | .slice t x lo hi none =>
    match P.underlying t with
    | some (.slice e) => (P.info? e).map fun j => .slc j.size (XO.of x) (lo.map XO.of) (hi.map XO.of)
    | some (.array n e) => (P.info? e).map fun j => .slca n j.size (XO.of x) (lo.map XO.of) (hi.map XO.of)
    | some .string => some (.slcs (XO.of x) (lo.map XO.of) (hi.map XO.of))
    | _ => none
  | .slice t x lo (some hi) (some mx) =>
    match P.underlying t with
    | some (.slice e) => (P.info? e).map fun j => .slc3 j.size (XO.of x) (lo.map XO.of) (XO.of hi) (XO.of mx)
    | _ => none
  | _ => none
def evInt (op : BinOp) (k k' : IntKind) (a b : Int) (K : SV → Prop) : Prop :=
  match op with
  | .shl => 0 ≤ b ∧ K (.v (.int k (k.wrap (a * 2 ^ (min b.toNat k.bits)))))
  | .shr => 0 ≤ b ∧ K (.v (.int k (a.fdiv (2 ^ (min b.toNat k.bits)))))
  | .add => k = k' ∧ K (.v (.int k (k.wrap (a + b))))
  | .sub => k = k' ∧ K (.v (.int k (k.wrap (a - b))))
  | .mul => k = k' ∧ K (.v (.int k (k.wrap (a * b))))
  | .quo => k = k' ∧ b ≠ 0 ∧ K (.v (.int k (k.wrap (a.tdiv b))))
  | .rem => k = k' ∧ b ≠ 0 ∧ K (.v (.int k (a.tmod b)))
  | .and => k = k' ∧ K (.v (.int k (k.wrap (BitVec.ofInt k.bits a &&& BitVec.ofInt k.bits b).toNat)))
  | .or => k = k' ∧ K (.v (.int k (k.wrap (BitVec.ofInt k.bits a ||| BitVec.ofInt k.bits b).toNat)))
  | .xor => k = k' ∧ K (.v (.int k (k.wrap (BitVec.ofInt k.bits a ^^^ BitVec.ofInt k.bits b).toNat)))
  | .andNot => k = k' ∧ K (.v (.int k (k.wrap (BitVec.ofInt k.bits a &&& ~~~ BitVec.ofInt k.bits b).toNat)))
  | .eql => k = k' ∧ K (.v (.bool (a == b)))
  | .neq => k = k' ∧ K (.v (.bool (a != b)))
  | .lss => k = k' ∧ K (.v (.bool (decide (a < b))))
  | .leq => k = k' ∧ K (.v (.bool (decide (a ≤ b))))
  | .gtr => k = k' ∧ K (.v (.bool (decide (a > b))))
  | .geq => k = k' ∧ K (.v (.bool (decide (a ≥ b))))
def evStr (op : BinOp) (a b : ByteArray) (K : SV → Prop) : Prop :=
  match op with
  | .add => (((a.size + b.size : Nat) : Int) ≤ 9223372036854775807) ∧ K (.v (.string (a ++ b)))
  | .eql => K (.v (.bool (a.toList == b.toList)))
  | .neq => K (.v (.bool (!(a.toList == b.toList))))
  | .lss => K (.v (.bool (Op.bytesLess a.toList b.toList)))
  | _ => False
def evBin (op : BinOp) (x y : SV) (K : SV → Prop) : Prop :=
  match x, y with
  | .v (.int k a), .v (.int k' b) => evInt op k k' a b K
  | .v (.string a), .v (.string b) => evStr op a b K
  | _, _ => False
def evEqb (neg : Bool) (x y : SV) (K : SV → Prop) : Prop :=
  match x, y with
  | .v (.bool a), .v (.bool b) => K (.v (.bool (bif neg then !(a == b) else a == b)))
  | _, _ => False
/-- nil, or not. -/
def isNil : SV → Option Bool
  | .v (.pointer p) => some p.isNone
  | .v (.slice p _ _) => some p.isNone
  | .v .nilFunc => some true
  | .ptr .. | .row .. | .fn .. | .emp | .bnd .. => some false
  | _ => none
/-- Are two values of one sort: pointers, slices, functions? -/
def sort : SV → Nat
  | .v (.pointer _) | .ptr .. => 1
  | .v (.slice ..) | .row .. | .emp => 2
  | .v .nilFunc | .fn .. | .bnd .. => 3
  | _ => 0
def evEqn (neg : Bool) (srt : Nat) (x y : SV) (K : SV → Prop) : Prop :=
  match isNil x, isNil y with
  | some true, some b => (sort x = srt ∧ sort y = srt) ∧ K (.v (.bool (bif neg then !b else b)))
  | some false, some true => (sort x = srt ∧ sort y = srt) ∧ K (.v (.bool neg))
  | _, _ => False
def evUn (op : UnOp) (x : SV) (K : SV → Prop) : Prop :=
  match op, x with
  | .not, .v (.bool b) => K (.v (.bool !b))
  | .neg, .v (.int k n) => K (.v (.int k (k.wrap (0 - n))))
  | .xor, .v (.int k n) => K (.v (.int k (k.wrap (BitVec.ofInt k.bits (if k.signed then -1 else k.max) ^^^ BitVec.ofInt k.bits n).toNat)))
  | _, _ => False
def evPart (cs : List SV) (off : Nat) (sz : Option Nat) (K : SV → Prop) : Prop :=
  match sz with
  | none => match cs[off]? with | some s => K s | none => False
  | some n => off + n ≤ cs.length ∧ K (.agg ((cs.drop off).take n))
/-- Are cells of these kinds the same? -/
def evCs : List CK → List SV → List SV → (Bool → Prop) → Prop
  | [], [], [], K => K true
  | .int :: ks, .v (.int q a) :: xs, .v (.int q' b) :: ys, K => q = q' ∧ evCs ks xs ys fun r => K ((a == b) && r)
  | .bool :: ks, .v (.bool a) :: xs, .v (.bool b) :: ys, K => evCs ks xs ys fun r => K ((a == b) && r)
  | .str :: ks, .v (.string a) :: xs, .v (.string b) :: ys, K => evCs ks xs ys fun r => K ((a.toList == b.toList) && r)
  | _, _, _, _ => False
def evMx (big : Bool) : SV → List SV → (SV → Prop) → Prop
  | s, [], K => K s
  | .v (.int k a), .v (.int k' b) :: l, K => evMx big (.v (.int k (bif big then (if b > a then b else a) else (if b < a then b else a)))) l K
  | _, _, _ => False
/-- A bound of a slice that is cut. -/
def evBd (d : Nat) (x : Option SV) (K : Nat → Prop) : Prop :=
  match x with
  | none => K d
  | some (.v (.int _ j)) => 0 ≤ j ∧ K j.toNat
  | _ => False
def evCut (k o n sz : Nat) (lo hi : Option SV) (K : SV → Prop) : Prop :=
  evBd n hi fun h => evBd 0 lo fun l => (l ≤ h ∧ h ≤ n) ∧ (if l = 0 ∨ l < n then K (.row k (o + l * sz) (h - l) sz) else K .emp)
/-- The cells of the input from a place on. -/
def inpL [Inp] (p : Option Addr) (k : Nat) : Option (List Value) :=
  if k = 0 then some [] else match p with
  | some a => if a.spot = none then (List.range k).mapM fun j => Inp.at_ (a.add j) else none
  | none => none
/-- A place some cells on. -/
def plusA (p : Option Addr) (k : Nat) : Option Addr := p.map (·.add k)
/-- Where a slice begins that is cut. -/
def cutA (p : Option Addr) (l c sz : Nat) : Option Addr := if c = l then p else plusA p (l * sz)
def evInp [Inp] (p : Option Addr) (sz : Option Nat) (K : SV → Prop) : Prop :=
  match sz with
  | none => (match inpL p 1 with | some us => (match us with | u :: _ => K (.v u) | [] => False) | none => False)
  | some n => p.isSome = true ∧ (match inpL p n with | some us => K (.agg (us.map .v)) | none => False)
/-- The bytes of cells. -/
def bytesV : List SV → Option (List UInt8)
  | [] => some []
  | .v (.int .u8 n) :: l => (bytesV l).map (UInt8.ofNat n.toNat :: ·)
  | _ :: _ => none
def strOf (l : List UInt8) : ByteArray := ⟨l.toArray⟩
/-- What a slice holds. -/
def slOf [Inp] (m : Mem) (z : Nat) : SV → Option (Nat × List SV)
  | .row k o n sz => if sz = z then match m[k]? with | some ob => if o + n * sz ≤ ob.cells.length then some (n, (ob.cells.drop o).take (n * sz)) else none | none => none else none
  | .v (.slice a n _) => (inpL a (n * z)).map fun us => (n, us.map .v)
  | .emp => some (0, [])
  | .zro => some (0, [])
  | _ => none
/-! ### Maps -/
def mapO (kt : KT) (es : List (Value × SV)) : SObj := @SObj.mk true [] ⟨.map kt es⟩
def keq : Value → Value → Bool
  | .int _ a, .int _ b => a == b
  | .string a, .string b => a == b
  | .bool a, .bool b => a == b
  | _, _ => false
def isK : KT → Value → Bool
  | .int k, .int k' _ => k' == k
  | .str, .string _ => true
  | .bool, .bool _ => true
  | _, _ => false
/-- Where a key is, counted from n. -/
def findM (key : Value) : Nat → List (Value × SV) → Option (Nat × SV)
  | _, [] => none
  | n, p :: ps => bif keq key p.1 then some (n, p.2) else findM key (n + 1) ps
def getM (key : Value) (es : List (Value × SV)) : Option SV := (findM key 0 es).map (·.2)
def putM (key : Value) (v : SV) : List (Value × SV) → List (Value × SV)
  | [] => [(key, v)]
  | p :: ps => bif keq key p.1 then (p.1, v) :: ps else p :: putM key v ps
def setM (v : SV) : Nat → List (Value × SV) → List (Value × SV)
  | _, [] => []
  | 0, p :: ps => (p.1, v) :: ps
  | n + 1, p :: ps => p :: setM v n ps
def mapOb (kt : KT) (ob : SObj) : Option (List (Value × SV)) := match ob.x.v with | .map kt' es => if kt' = kt then some es else none | _ => none
theorem mapOb_m {kt : KT} {es : List (Value × SV)} : mapOb kt (mapO kt es) = some es := if_pos rfl
/-- What a map holds. -/
def mapOf (m : Mem) (kt : KT) : SV → Option (List (Value × SV))
  | .mp k => match m[k]? with | some ob => mapOb kt ob | none => none
  | .v (.map none) => some []
  | _ => none
def lenOb (ob : SObj) : Option Nat := match ob.x.v with | .map _ es => some es.length | _ => none
theorem lenOb_m {kt : KT} {es : List (Value × SV)} : lenOb (mapO kt es) = some es.length := rfl
def lenOf (m : Mem) : SV → Option Nat
  | .mp k => match m[k]? with | some ob => lenOb ob | none => none
  | .v (.map none) => some 0
  | _ => none
def lookR (ok : Bool) (zero : SV) (o : Option SV) : SV := bif ok then .tup [o.getD zero, .v (.bool o.isSome)] else o.getD zero
def evLook (kt : KT) (zero : SV) (ok : Bool) (es : Option (List (Value × SV))) (i : SV) (K : SV → Prop) : Prop := match es, i with
  | some es, .v key => isK kt key = true ∧ K (lookR ok zero (getM key es))
  | _, _ => False
def evB2s [Inp] (m : Mem) (s : SV) (K : SV → Prop) : Prop :=
  match slOf m 1 s with
  | some x => (match bytesV x.2 with | some bs => K (.v (.string (strOf bs))) | none => False)
  | none => False
def evA [Inp] (x : XA) (e : Env) (m : Mem) (K : SV → Prop) : Prop :=
  match x with
  | .mv x => K (x.get e)
  | .pick c a b => match c.get e with | .v (.bool t) => if t = true then K (a.get e) else K (b.get e) | _ => False
  | .bin op x y => evBin op (x.get e) (y.get e) K
  | .eqb neg x y => evEqb neg (x.get e) (y.get e) K
  | .eqn neg srt x y => evEqn neg srt (x.get e) (y.get e) K
  | .un op x => evUn op (x.get e) K
  | .conv k x => match x.get e with | .v (.int _ n) => K (.v (.int k (k.wrap n))) | _ => False
  | .field off sz x => match x.get e with | .agg cs => evPart cs off sz K | _ => False
  | .faddr off x => match x.get e with | .ptr k o => K (.ptr k (o + off)) | .v (.pointer p) => p.isSome = true ∧ K (.v (.pointer (plusA p off))) | _ => False
  | .iarr n sz x i => match x.get e, i.get e with | .ptr k o, .v (.int _ j) => (0 ≤ j ∧ j < (n : Int)) ∧ K (.ptr k (o + j.toNat * sz)) | .v (.pointer p), .v (.int _ j) => (0 ≤ j ∧ j < (n : Int) ∧ p.isSome = true) ∧ K (.v (.pointer (plusA p (j.toNat * sz)))) | _, _ => False
  | .isl sz x i => match x.get e, i.get e with | .row k o n s, .v (.int _ j) => (0 ≤ j ∧ j < (n : Int)) ∧ K (.ptr k (o + j.toNat * sz)) | .v (.slice p n c), .v (.int _ j) => (0 ≤ j ∧ j < (n : Int) ∧ p.isSome = true) ∧ K (.v (.pointer (plusA p (j.toNat * sz)))) | _, _ => False
  | .idx n sz agg x i => match x.get e, i.get e with | .agg cs, .v (.int _ j) => (0 ≤ j ∧ j < (n : Int)) ∧ evPart cs (j.toNat * sz) (bif agg then some sz else none) K | _, _ => False
  | .extract i x => match x.get e with | .tup cs => (match cs[i]? with | some s => K s | none => False) | _ => False
  | .load sz x => match x.get e with | .ptr k o => (match m[k]? with | some ob => evPart ob.cells o sz K | none => False) | .v (.pointer p) => evInp p sz K | _ => False
  | .len x => match x.get e with | .row _ _ n _ => K (.v (.int .i64 n)) | .emp => K (.v (.int .i64 0)) | .zro => K (.v (.int .i64 0)) | .v (.slice _ n _) => K (.v (.int .i64 n)) | _ => False
  | .lens x => match x.get e with | .v (.string s) => K (.v (.int .i64 s.size)) | _ => False
  | .nilc x => match x.get e with | .ptr k o => K (.ptr k o) | .fn f c => K (.fn f c) | .bnd f c => K (.bnd f c) | .v (.pointer p) => p.isSome = true ∧ K (.v (.pointer p)) | _ => False
  | .mkfn f cap => K (.fn f (cap.map (XO.get e)))
  | .mkbnd f l => K (.bnd f (l.map (XO.get e)))
  | .eqs neg ks x y => match x.get e, y.get e with | .agg xs, .agg ys => evCs ks xs ys fun b => K (.v (.bool (bif neg then !b else b))) | _, _ => False
  | .mx big x l => (match x.get e with | .v (.int k a) => evMx big (.v (.int k a)) (l.map (XO.get e)) K | _ => False)
  | .slc sz x lo hi => match x.get e with
    | .row k o n s => s = sz ∧ evCut k o n sz (lo.map (XO.get e)) (hi.map (XO.get e)) K
    | .v (.slice p n c) => evBd n (hi.map (XO.get e)) fun h => evBd 0 (lo.map (XO.get e)) fun l => (l ≤ h ∧ h ≤ c) ∧ K (.v (.slice (cutA p l c sz) (h - l) (c - l)))
    | .zro => evBd 0 (hi.map (XO.get e)) fun h => evBd 0 (lo.map (XO.get e)) fun l => (l ≤ h ∧ h ≤ 0) ∧ K .zro
    | _ => False
  | .slca n sz x lo hi => match x.get e with
    | .ptr k o => (match m[k]? with | some ob => o + n * sz ≤ ob.cells.length | none => False) ∧ evCut k o n sz (lo.map (XO.get e)) (hi.map (XO.get e)) K
    | _ => False
  | .slcs x lo hi => match x.get e with
    | .v (.string s) => evBd s.size (hi.map (XO.get e)) fun h => evBd 0 (lo.map (XO.get e)) fun l => (l ≤ h ∧ h ≤ s.size) ∧ K (.v (.string (s.extract l h)))
    | _ => False
  | .slc3 sz x lo hi mx => match x.get e with
    | .row k o n s => s = sz ∧ evBd n (some (mx.get e)) fun mm => evBd n (some (hi.get e)) fun h => evBd 0 (lo.map (XO.get e)) fun l => (l ≤ h ∧ h ≤ mm ∧ mm ≤ n) ∧ (if l = 0 ∨ l < mm then K (.row k (o + l * sz) (h - l) sz) else K .emp)
    | .v (.slice p n c) => evBd n (some (mx.get e)) fun mm => evBd n (some (hi.get e)) fun h => evBd 0 (lo.map (XO.get e)) fun l => (l ≤ h ∧ h ≤ mm ∧ mm ≤ c) ∧ K (.v (.slice (cutA p l mm sz) (h - l) (mm - l)))
    | .zro => evBd 0 (some (mx.get e)) fun mm => evBd 0 (some (hi.get e)) fun h => evBd 0 (lo.map (XO.get e)) fun l => (l ≤ h ∧ h ≤ mm ∧ mm ≤ 0) ∧ K .zro
    | _ => False
  | .sidx x i => match x.get e, i.get e with
    | .v (.string s), .v (.int _ j) => (0 ≤ j ∧ j < (s.size : Int)) ∧ K (.v (.int .u8 ((s[j.toNat]?.getD 0).toNat)))
    | _, _ => False
  | .b2s x => evB2s m (x.get e) K
  | .strc x => match x.get e with | .v (.string s) => K (.v (.string s)) | _ => False
  | .capc x => match x.get e with | .v (.slice _ _ c) => K (.v (.int .i64 c)) | _ => False
  | .lenm x => match lenOf m (x.get e) with | some n => K (.v (.int .i64 n)) | none => False
  | .look kt zero ok x i => evLook kt zero ok (mapOf m kt (x.get e)) (i.get e) K
/-- The operation comes to this value in whatever world that has the walk's objects as this one has them. -/
def Den [Inp] (P : Program) (o : Oper) (mem : Bool) (r : List Loc) (W : World) (ev : Operand → Value) (u : Value) : Prop :=
  ∀ W', (mem = true → Same r W W') → (execOp ev o).run P W' = .ok (.value u) W'
section
variable {P : Program} {n : Nat} {r : List Loc} {e : Env} {m : Mem} {a : Act}
def aggD : TypeDesc → Bool
  | .struct _ | .array _ _ => true
  | _ => false
theorem szOf_agg {t : TypeId} {z : Nat} (h : szOf P t = some (some z)) : ∃ d i, P.underlying t = some d ∧ aggD d = true ∧ P.info? t = some i ∧ i.size = z := by
  unfold szOf at h
  split at h
  all_goals first | (simp at h; done) | skip
  all_goals
    rename_i hu hi
    simp at h
    exact ⟨_, _, hu, rfl, hi, h⟩
theorem szOf_one {t : TypeId} (h : szOf P t = some none) : ∃ d, P.underlying t = some d ∧ aggD d = false := by
  unfold szOf at h
  split at h
  all_goals first | (simp at h; done) | skip
  rename_i d i h1 h2 hu hi
  refine ⟨_, hu, ?_⟩
  cases d
  case struct f => exact (h1 f rfl).elim
  case array a b => exact (h2 a b rfl).elim
  all_goals rfl
theorem run_isAgg {t : TypeId} {d : TypeDesc} (h : P.underlying t = some d) (w : World) : (isAgg t).run P w = .ok (aggD d) w := by
  cases d <;> simp [isAgg, run_underlying h, aggD]
theorem take_drop_get (cs : List Value) (o k : Nat) : ∀ (j : Nat) (v : Value), ((cs.drop o).take k)[j]? = some v → cs[o + j]? = some v := by
  intro j v h
  rw [List.getElem?_take] at h
  split at h
  · rwa [List.getElem?_drop] at h
  · cases h
/-- A part of a struct's or an array's cells. -/
theorem evPart_sound {cs : List SV} {us : List Value} {off : Nat} {t : TypeId} {z : Option Nat} {K : SV → Prop} (hz : szOf P t = some z) (h : evPart cs off z K) (hs : SV.IsL r cs us) : ∃ s u, K s ∧ s.Is r u ∧ ∀ W, (part t us.toArray off).run P W = .ok u W := by
  cases z with
  | none =>
    obtain ⟨d, hd, hda⟩ := szOf_one hz
    simp only [evPart] at h
    split at h
    · rename_i s hsome
      obtain ⟨u, hu, hus⟩ := IsL_get hs hsome
      refine ⟨s, u, h, hus, fun W => ?_⟩
      simp [part, run_isAgg hd, hda, hu]
    · exact h.elim
  | some k =>
    obtain ⟨d, i, hd, hda, hi, hk⟩ := szOf_agg hz
    simp only [evPart] at h
    refine ⟨_, .agg ((us.drop off).take k).toArray, h.2, ?_, fun W => ?_⟩
    · simp only [SV.Is]
      exact ⟨_, rfl, IsL_take _ (IsL_drop _ hs)⟩
    · simp [part, run_isAgg hd, hda, sizeOf, typeInfo, hi, hk]
theorem evInt_sound {op : BinOp} {k k' : IntKind} {a b : Int} {K : SV → Prop} (t : TypeId) (h : evInt op k k' a b K) : ∃ s u, K s ∧ s.Is r u ∧ ∀ W, (binOp op t (.int k a) (.int k' b)).run P W = .ok u W := by
  cases op <;> simp only [evInt] at h
  case shl =>
    refine ⟨_, _, h.2, by simp only [SV.Is]; rfl, fun W => ?_⟩
    have : ¬ b < 0 := by omega
    simp [binOp, Op.shift, this]
  case shr =>
    refine ⟨_, _, h.2, by simp only [SV.Is]; rfl, fun W => ?_⟩
    have : ¬ b < 0 := by omega
    simp [binOp, Op.shift, this]
  case quo =>
    obtain ⟨rfl, h1, h2⟩ := h
    refine ⟨_, _, h2, by simp only [SV.Is]; rfl, fun W => ?_⟩
    simp [binOp, Op.intDiv, h1]
  case rem =>
    obtain ⟨rfl, h1, h2⟩ := h
    refine ⟨_, _, h2, by simp only [SV.Is]; rfl, fun W => ?_⟩
    simp [binOp, Op.intDiv, h1]
  all_goals
    obtain ⟨rfl, h2⟩ := h
    refine ⟨_, _, h2, by simp only [SV.Is]; rfl, fun W => ?_⟩
    simp [binOp, Op.intArith, Op.intBits, Op.intCmp]
theorem evStr_sound {op : BinOp} {a b : ByteArray} {K : SV → Prop} (t : TypeId) (h : evStr op a b K) : ∃ s u, K s ∧ s.Is r u ∧ ∀ W, (binOp op t (.string a) (.string b)).run P W = .ok u W := by
  cases op <;> simp only [evStr] at h
  case add =>
    refine ⟨_, _, h.2, by simp only [SV.Is]; rfl, fun W => ?_⟩
    have h1 := h.1
    have h' : ¬ (9223372036854775807 < (a.size : Int) + (b.size : Int)) := by omega
    have e : IntKind.i64.max = 9223372036854775807 := by decide
    simp [binOp, Op.stringOp, e, h']
  all_goals first | exact h.elim | skip
  all_goals
    refine ⟨_, _, h, by simp only [SV.Is]; rfl, fun W => ?_⟩
    simp [binOp, Op.stringOp]
end
end Go.Proofs.Ytibefgdjijmncaa.Sz
