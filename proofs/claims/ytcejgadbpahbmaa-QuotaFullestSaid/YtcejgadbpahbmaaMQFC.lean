/- Walks and plain facts for the law QuotaFullest, part MQFC. No condition. -/
import Derived.Test.YtcejgadbpahbmaaMQFB
import Derived.IntWalk
set_option linter.unusedVariables false
set_option linter.unusedSimpArgs false
section
namespace Go.Proofs.Ytcejgadbpahbmaa.Sz
open Go.RowKit
def condK (s : SV) (A B : Prop) : Prop := match s with | .v (.bool t) => if t = true then A else B | _ => False
def guardK (s : SV) (want : Bool) (A B C : Prop) : Prop := match s with | .v (.bool b) => if b = want then A else B | .tup [] => C | _ => False
def pickK (c a b : SV) (K : SV → Prop) : Prop := match c with | .v (.bool t) => if t = true then K a else K b | _ => False
def convK (k : IntKind) (s : SV) (K : SV → Prop) : Prop := match s with | .v (.int _ n) => K (.v (.int k (k.wrap n))) | _ => False
def fieldK (off : Nat) (sz : Option Nat) (s : SV) (K : SV → Prop) : Prop := match s with | .agg cs => evPart cs off sz K | _ => False
def faddrK (off : Nat) (s : SV) (K : SV → Prop) : Prop := match s with | .ptr k o => K (.ptr k (o + off)) | .v (.pointer p) => p.isSome = true ∧ K (.v (.pointer (plusA p off))) | _ => False
def iarrK (n sz : Nat) (x i : SV) (K : SV → Prop) : Prop := match x, i with | .ptr k o, .v (.int _ j) => (0 ≤ j ∧ j < (n : Int)) ∧ K (.ptr k (o + j.toNat * sz)) | .v (.pointer p), .v (.int _ j) => (0 ≤ j ∧ j < (n : Int) ∧ p.isSome = true) ∧ K (.v (.pointer (plusA p (j.toNat * sz)))) | _, _ => False
def islK (sz : Nat) (x i : SV) (K : SV → Prop) : Prop := match x, i with | .row k o n s, .v (.int _ j) => (0 ≤ j ∧ j < (n : Int)) ∧ K (.ptr k (o + j.toNat * sz)) | .v (.slice p n c), .v (.int _ j) => (0 ≤ j ∧ j < (n : Int) ∧ p.isSome = true) ∧ K (.v (.pointer (plusA p (j.toNat * sz)))) | _, _ => False
def idxK (n sz : Nat) (agg : Bool) (x i : SV) (K : SV → Prop) : Prop := match x, i with | .agg cs, .v (.int _ j) => (0 ≤ j ∧ j < (n : Int)) ∧ evPart cs (j.toNat * sz) (bif agg then some sz else none) K | _, _ => False
def someK (s : Option SV) (K : SV → Prop) : Prop := match s with | some s => K s | none => False
def extK (i : Nat) (s : SV) (K : SV → Prop) : Prop := match s with | .tup cs => someK cs[i]? K | _ => False
def objK (o : Option SObj) (K : SObj → Prop) : Prop := match o with | some o => K o | none => False
def inp1K (o : Option (List Value)) (K : SV → Prop) : Prop := match o with | some us => (match us with | u :: _ => K (.v u) | [] => False) | none => False
def inpnK (o : Option (List Value)) (K : SV → Prop) : Prop := match o with | some us => K (.agg (us.map .v)) | none => False
def loadK [Inp] (sz : Option Nat) (s : SV) (m : Mem) (K : SV → Prop) : Prop := match s with | .ptr k o => objK m[k]? fun ob => evPart ob.cells o sz K | .v (.pointer p) => evInp p sz K | _ => False
def lenK (s : SV) (K : SV → Prop) : Prop := match s with | .row _ _ n _ => K (.v (.int .i64 n)) | .emp => K (.v (.int .i64 0)) | .zro => K (.v (.int .i64 0)) | .v (.slice _ n _) => K (.v (.int .i64 n)) | _ => False
def lensK (s : SV) (K : SV → Prop) : Prop := match s with | .v (.string s) => K (.v (.int .i64 s.size)) | _ => False
def nilcK (s : SV) (K : SV → Prop) : Prop := match s with | .ptr k o => K (.ptr k o) | .fn f c => K (.fn f c) | .bnd f c => K (.bnd f c) | .v (.pointer p) => p.isSome = true ∧ K (.v (.pointer p)) | _ => False
def eqsK (neg : Bool) (ks : List CK) (x y : SV) (K : SV → Prop) : Prop := match x, y with | .agg xs, .agg ys => evCs ks xs ys fun b => K (.v (.bool (bif neg then !b else b))) | _, _ => False
def mxK (big : Bool) (x : SV) (l : List SV) (K : SV → Prop) : Prop := match x with | .v (.int k a) => evMx big (.v (.int k a)) l K | _ => False
def slcK (sz : Nat) (x : SV) (lo hi : Option SV) (K : SV → Prop) : Prop := match x with
  | .row k o n s => s = sz ∧ evCut k o n sz lo hi K
  | .v (.slice p n c) => evBd n hi fun h => evBd 0 lo fun l => (l ≤ h ∧ h ≤ c) ∧ K (.v (.slice (cutA p l c sz) (h - l) (c - l)))
  | .zro => evBd 0 hi fun h => evBd 0 lo fun l => (l ≤ h ∧ h ≤ 0) ∧ K .zro
  | .emp => evBd 0 hi fun h => evBd 0 lo fun l => (l ≤ h ∧ h ≤ 0) ∧ K .emp
  | _ => False
def slcaK (n sz : Nat) (x : SV) (m : Mem) (lo hi : Option SV) (K : SV → Prop) : Prop := match x with
  | .ptr k o => objK m[k]? (fun ob => o + n * sz ≤ ob.cells.length) ∧ evCut k o n sz lo hi K
  | _ => False
def slcsK (x : SV) (lo hi : Option SV) (K : SV → Prop) : Prop := match x with
  | .v (.string s) => evBd s.size hi fun h => evBd 0 lo fun l => (l ≤ h ∧ h ≤ s.size) ∧ K (.v (.string (s.extract l h)))
  | _ => False
def slc3K (sz : Nat) (x : SV) (lo : Option SV) (hi mx : SV) (K : SV → Prop) : Prop := match x with
  | .row k o n s => s = sz ∧ evBd n (some mx) fun mm => evBd n (some hi) fun h => evBd 0 lo fun l => (l ≤ h ∧ h ≤ mm ∧ mm ≤ n) ∧ (if l = 0 ∨ l < mm then K (.row k (o + l * sz) (h - l) sz) else K .emp)
  | .v (.slice p n c) => evBd n (some mx) fun mm => evBd n (some hi) fun h => evBd 0 lo fun l => (l ≤ h ∧ h ≤ mm ∧ mm ≤ c) ∧ K (.v (.slice (cutA p l mm sz) (h - l) (mm - l)))
  | .zro => evBd 0 (some mx) fun mm => evBd 0 (some hi) fun h => evBd 0 lo fun l => (l ≤ h ∧ h ≤ mm ∧ mm ≤ 0) ∧ K .zro
  | .emp => evBd 0 (some mx) fun mm => evBd 0 (some hi) fun h => evBd 0 lo fun l => (l ≤ h ∧ h ≤ mm ∧ mm ≤ 0) ∧ K .emp
  | _ => False
def sidxK (x i : SV) (K : SV → Prop) : Prop := match x, i with
  | .v (.string s), .v (.int _ j) => (0 ≤ j ∧ j < (s.size : Int)) ∧ K (.v (.int .u8 ((s[j.toNat]?.getD 0).toNat)))
  | _, _ => False
def strcK (s : SV) (K : SV → Prop) : Prop := match s with | .v (.string s) => K (.v (.string s)) | _ => False
def capcK (s : SV) (K : SV → Prop) : Prop := match s with | .v (.slice _ _ c) => K (.v (.int .i64 c)) | _ => False
def strK (o : Option (List UInt8)) (K : SV → Prop) : Prop := match o with | some bs => K (.v (.string (strOf bs))) | none => False
def b2sK (o : Option (Nat × List SV)) (K : SV → Prop) : Prop := match o with | some x => strK (bytesV x.2) K | none => False
def cellsK (s : Option (List SV)) (K : List SV → Prop) : Prop := match s with | some cs => K cs | none => False
def storeK (sz : Nat) (a : SV) (cs : Option (List SV)) (m : Mem) (K : SV → Mem → Prop) : Prop := match a, cs with
  | .ptr k o, some cs => objK m[k]? fun ob => (ob.own = true ∧ cs.length = sz ∧ o + sz ≤ ob.cells.length ∧ cs.all SV.one = true ∧ ob.isM = false) ∧ K (.tup []) (m.set k ⟨true, over ob.cells o cs⟩)
  | _, _ => False
def appK (sz bytes : Nat) (s : SV) (x y : Option (Nat × List SV)) (m : Mem) (K : SV → Mem → Prop) : Prop := match x, y with
  | some (n, xs), some (k, ys) => if k = 0 then capOk s ∧ K s m else (grows m sz s ∧ xs.length = n * sz ∧ ys.length = k * sz ∧ 0 < k ∧ ys.all SV.one = true ∧ n + k ≤ maxLen ∧ (n + k) * bytes ≤ 140737488355328) ∧ K (.row m.length 0 (n + k) sz) (kill m s ++ [⟨true, xs ++ ys⟩])
  | _, _ => False
def entK (c : Option CEntry) (args : List SV) (m : Mem) (K : SV → Mem → Prop) : Prop := match c with | some c => c.tr args m K | none => False
def appsK (bytes : Nat) (s : SV) (x : Option (Nat × List SV)) (y : SV) (m : Mem) (K : SV → Mem → Prop) : Prop := match x, y with
  | some (n, xs), .v (.string str) => if str.size = 0 then capOk s ∧ K s m else (grows m 1 s ∧ xs.length = n ∧ n + str.size ≤ maxLen ∧ (n + str.size) * bytes ≤ 140737488355328) ∧ K (.row m.length 0 (n + str.size) 1) (kill m s ++ [⟨true, xs ++ bytesC str⟩])
  | _, _ => False
def cpyK (sz : Nat) (d : SV) (x : Option (Nat × List SV)) (m : Mem) (K : SV → Mem → Prop) : Prop := match d, x with
  | .row k o n s, some (k2, ys) => objK m[k]? fun ob => (s = sz ∧ ob.own = true ∧ o + n * sz ≤ ob.cells.length ∧ ys.length = k2 * sz ∧ ys.all SV.one = true ∧ ob.isM = false) ∧ K (.v (.int .i64 (min k2 n : Nat))) (m.set k ⟨true, over ob.cells o (ys.take (min k2 n * sz))⟩)
  | _, _ => False
def mkSlK (sz bytes : Nat) (zero : List SV) (l c : SV) (m : Mem) (K : SV → Mem → Prop) : Prop := match l, c with
  | .v (.int _ n), .v (.int _ q) => (0 ≤ n ∧ n ≤ q ∧ (bytes : Int) * q ≤ 281474976710656 ∧ q ≤ 9223372036854775807) ∧ K (.row m.length 0 n.toNat sz) (m ++ [⟨true, (List.replicate n.toNat zero).flatten⟩])
  | _, _ => False
def s2bK (x : SV) (m : Mem) (K : SV → Mem → Prop) : Prop := match x with | .v (.string s) => K (.row m.length 0 s.size 1) (m ++ [⟨false, bytesC s⟩]) | _ => False
def callK (G : List CEntry) (f : SV) (args : List SV) (m : Mem) (K : SV → Mem → Prop) : Prop := match f with | .fn f cap => entK (look f G) (args ++ cap) m K | .bnd f fst => entK (look f G) (fst ++ args) m K | _ => False
def resK (s : SV) (sz : Option Nat) (m : Mem) (K : SV → Prop) : Prop := match s with | .ptr k o => objK m[k]? fun ob => evPart ob.cells o sz K | _ => False
def lnK (o : Option Nat) (K : SV → Prop) : Prop := match o with | some n => K (.v (.int .i64 n)) | none => False
def anyK (o : Option (KT × List (Value × SV))) (F : KT → List (Value × SV) → Prop) : Prop := match o with | some p => F p.1 p.2 | none => False
def fndK (o : Option (Nat × SV)) (F : Nat → SV → Prop) (N : Prop) : Prop := match o with | some p => F p.1 p.2 | none => N
def mvK (s : SV) (K : SV → Prop) : Prop := K s
def nw (s : SV) : SV := s
def mwK (s : SV) (K : SV → Prop) : Prop := K s
def stK (s : SV) (m : Mem) (K : SV → Mem → Prop) : Prop := K s m
section
variable {s s' x x' y y' a a' b b' c c' : SV} {m m' : Mem} {e e' : Env} {K : SV → Prop} {KM : SV → Mem → Prop} {KE : Env → Mem → Prop} {Q : Post}
@[congr] theorem condK_c {A B : Prop} (h : s = s') : condK s A B = condK s' A B := by rw [h]
@[congr] theorem guardK_c {w : Bool} {A B C : Prop} (h : s = s') : guardK s w A B C = guardK s' w A B C := by rw [h]
@[congr] theorem pickK_c (h : c = c') : pickK c a b K = pickK c' a b K := by rw [h]
@[congr] theorem convK_c {k : IntKind} (h : s = s') : convK k s K = convK k s' K := by rw [h]
@[congr] theorem fieldK_c {o : Nat} {z : Option Nat} (h : s = s') : fieldK o z s K = fieldK o z s' K := by rw [h]
@[congr] theorem faddrK_c {o : Nat} (h : s = s') : faddrK o s K = faddrK o s' K := by rw [h]
@[congr] theorem iarrK_c {n z : Nat} (h : x = x') (h2 : y = y') : iarrK n z x y K = iarrK n z x' y' K := by rw [h, h2]
@[congr] theorem islK_c {z : Nat} (h : x = x') (h2 : y = y') : islK z x y K = islK z x' y' K := by rw [h, h2]
@[congr] theorem idxK_c {n z : Nat} {g : Bool} (h : x = x') (h2 : y = y') : idxK n z g x y K = idxK n z g x' y' K := by rw [h, h2]
@[congr] theorem someK_c {s s' : Option SV} (h : s = s') : someK s K = someK s' K := by rw [h]
@[congr] theorem extK_c {i : Nat} (h : s = s') : extK i s K = extK i s' K := by rw [h]
@[congr] theorem objK_c {o o' : Option SObj} {K : SObj → Prop} (h : o = o') : objK o K = objK o' K := by rw [h]
@[congr] theorem loadK_c [Inp] {z : Option Nat} (h : s = s') (h2 : m = m') : loadK z s m K = loadK z s' m' K := by rw [h, h2]
@[congr] theorem lenK_c (h : s = s') : lenK s K = lenK s' K := by rw [h]
@[congr] theorem lnK_c {o o' : Option Nat} (h : o = o') : lnK o K = lnK o' K := by rw [h]
@[congr] theorem evLook_c {kt : KT} {z : SV} {ok : Bool} {o o' : Option (List (Value × SV))} (h : o = o') (h2 : x = x') : evLook kt z ok o x K = evLook kt z ok o' x' K := by rw [h, h2]
@[congr] theorem anyK_c {o o' : Option (KT × List (Value × SV))} {F : KT → List (Value × SV) → Prop} (h : o = o') : anyK o F = anyK o' F := by rw [h]
@[congr] theorem fndK_c {o o' : Option (Nat × SV)} {F : Nat → SV → Prop} {N : Prop} (h : o = o') : fndK o F N = fndK o' F N := by rw [h]
@[congr] theorem evUpd_c {kt : KT} (h : x = x') (h2 : y = y') (h3 : a = a') (h4 : m = m') : evUpd kt x y a m KM = evUpd kt x' y' a' m' KM := by rw [h, h2, h3, h4]
@[congr] theorem evEnt_c {kt : KT} {z : SV} (h : x = x') (h2 : y = y') (h4 : m = m') : evEnt kt z x y m KM = evEnt kt z x' y' m' KM := by rw [h, h2, h4]
@[congr] theorem evEntSt_c (h : x = x') (h2 : y = y') (h3 : a = a') (h4 : m = m') : evEntSt x y a m KM = evEntSt x' y' a' m' KM := by rw [h, h2, h3, h4]
@[congr] theorem lensK_c (h : s = s') : lensK s K = lensK s' K := by rw [h]
@[congr] theorem nilcK_c (h : s = s') : nilcK s K = nilcK s' K := by rw [h]
@[congr] theorem eqsK_c {n : Bool} {ks : List CK} (h : x = x') (h2 : y = y') : eqsK n ks x y K = eqsK n ks x' y' K := by rw [h, h2]
@[congr] theorem mxK_c {n : Bool} {l l' : List SV} (h : x = x') (h2 : l = l') : mxK n x l K = mxK n x' l' K := by rw [h, h2]
@[congr] theorem slcK_c {z : Nat} {lo lo' hi hi' : Option SV} (h : x = x') (h2 : lo = lo') (h3 : hi = hi') : slcK z x lo hi K = slcK z x' lo' hi' K := by rw [h, h2, h3]
@[congr] theorem slcaK_c {n z : Nat} {lo lo' hi hi' : Option SV} (h : x = x') (h0 : m = m') (h2 : lo = lo') (h3 : hi = hi') : slcaK n z x m lo hi K = slcaK n z x' m' lo' hi' K := by rw [h, h2, h3, h0]
@[congr] theorem slcsK_c {lo lo' hi hi' : Option SV} (h : x = x') (h2 : lo = lo') (h3 : hi = hi') : slcsK x lo hi K = slcsK x' lo' hi' K := by rw [h, h2, h3]
@[congr] theorem inp1K_c {o o' : Option (List Value)} (h : o = o') : inp1K o K = inp1K o' K := by rw [h]
@[congr] theorem inpnK_c {o o' : Option (List Value)} (h : o = o') : inpnK o K = inpnK o' K := by rw [h]
@[congr] theorem slc3K_c {z : Nat} {lo lo' : Option SV} (h : x = x') (h2 : lo = lo') (h3 : a = a') (h4 : b = b') : slc3K z x lo a b K = slc3K z x' lo' a' b' K := by rw [h, h2, h3, h4]
@[congr] theorem sidxK_c (h : x = x') (h2 : y = y') : sidxK x y K = sidxK x' y' K := by rw [h, h2]
@[congr] theorem strcK_c (h : x = x') : strcK x K = strcK x' K := by rw [h]
@[congr] theorem capcK_c (h : x = x') : capcK x K = capcK x' K := by rw [h]
@[congr] theorem strK_c {o o' : Option (List UInt8)} (h : o = o') : strK o K = strK o' K := by rw [h]
@[congr] theorem b2sK_c {o o' : Option (Nat × List SV)} (h : o = o') : b2sK o K = b2sK o' K := by rw [h]
@[congr] theorem appsK_c {n : Nat} {p p' : Option (Nat × List SV)} (h : s = s') (h2 : p = p') (h4 : x = x') (h3 : m = m') : appsK n s p x m KM = appsK n s' p' x' m' KM := by rw [h, h2, h3, h4]
@[congr] theorem cpyK_c {n : Nat} {p p' : Option (Nat × List SV)} (h : s = s') (h2 : p = p') (h3 : m = m') : cpyK n s p m KM = cpyK n s' p' m' KM := by rw [h, h2, h3]
@[congr] theorem mkSlK_c {n b : Nat} {z : List SV} (h : x = x') (h2 : y = y') (h3 : m = m') : mkSlK n b z x y m KM = mkSlK n b z x' y' m' KM := by rw [h, h2, h3]
@[congr] theorem s2bK_c (h : x = x') (h3 : m = m') : s2bK x m KM = s2bK x' m' KM := by rw [h, h3]
@[congr] theorem cellsK_c {s s' : Option (List SV)} {K : List SV → Prop} (h : s = s') : cellsK s K = cellsK s' K := by rw [h]
@[congr] theorem storeK_c {z : Nat} {cs cs' : Option (List SV)} (h : s = s') (h2 : cs = cs') (h3 : m = m') : storeK z s cs m KM = storeK z s' cs' m' KM := by rw [h, h2, h3]
@[congr] theorem appK_c {z n : Nat} {p p' q q' : Option (Nat × List SV)} (h : s = s') (h2 : p = p') (h4 : q = q') (h3 : m = m') : appK z n s p q m KM = appK z n s' p' q' m' KM := by rw [h, h2, h3, h4]
@[congr] theorem callK_c {G : List CEntry} {l l' : List SV} (h : s = s') (h2 : l = l') (h3 : m = m') : callK G s l m KM = callK G s' l' m' KM := by rw [h, h2, h3]
@[congr] theorem entK_c {o o' : Option CEntry} {l l' : List SV} (h : o = o') (h2 : l = l') (h3 : m = m') : entK o l m KM = entK o' l' m' KM := by rw [h, h2, h3]
@[congr] theorem resK_c {z : Option Nat} (h : s = s') (h2 : m = m') : resK s z m K = resK s' z m' K := by rw [h, h2]
@[congr] theorem mvK_c (h : s = s') : mvK s K = mvK s' K := by rw [h]
@[congr] theorem stK_c (h : s = s') (h2 : m = m') : stK s m KM = stK s' m' KM := by rw [h, h2]
@[congr] theorem evBin_c {op : BinOp} (h : x = x') (h2 : y = y') : evBin op x y K = evBin op x' y' K := by rw [h, h2]
@[congr] theorem evEqb_c {n : Bool} (h : x = x') (h2 : y = y') : evEqb n x y K = evEqb n x' y' K := by rw [h, h2]
@[congr] theorem evEqn_c {n : Bool} {k : Nat} (h : x = x') (h2 : y = y') : evEqn n k x y K = evEqn n k x' y' K := by rw [h, h2]
@[congr] theorem evUn_c {op : UnOp} (h : x = x') : evUn op x K = evUn op x' K := by rw [h]
@[congr] theorem evPart_c {cs cs' : List SV} {o o' : Nat} {z : Option Nat} (h : cs = cs') (h2 : o = o') : evPart cs o z K = evPart cs' o' z K := by rw [h, h2]
end
structure N16 (T : Type) where
  mk :: (a0 a1 a2 a3 a4 a5 a6 a7 a8 a9 a10 a11 a12 a13 a14 a15 : T)
def N16.get {T : Type} (n : N16 T) (i : Nat) (d : T) : T := match n, i with
  | ⟨a0, a1, a2, a3, a4, a5, a6, a7, a8, a9, a10, a11, a12, a13, a14, a15⟩, 0 => a0
  | ⟨a0, a1, a2, a3, a4, a5, a6, a7, a8, a9, a10, a11, a12, a13, a14, a15⟩, 1 => a1
  | ⟨a0, a1, a2, a3, a4, a5, a6, a7, a8, a9, a10, a11, a12, a13, a14, a15⟩, 2 => a2
  | ⟨a0, a1, a2, a3, a4, a5, a6, a7, a8, a9, a10, a11, a12, a13, a14, a15⟩, 3 => a3
  | ⟨a0, a1, a2, a3, a4, a5, a6, a7, a8, a9, a10, a11, a12, a13, a14, a15⟩, 4 => a4
  | ⟨a0, a1, a2, a3, a4, a5, a6, a7, a8, a9, a10, a11, a12, a13, a14, a15⟩, 5 => a5
  | ⟨a0, a1, a2, a3, a4, a5, a6, a7, a8, a9, a10, a11, a12, a13, a14, a15⟩, 6 => a6
  | ⟨a0, a1, a2, a3, a4, a5, a6, a7, a8, a9, a10, a11, a12, a13, a14, a15⟩, 7 => a7
  | ⟨a0, a1, a2, a3, a4, a5, a6, a7, a8, a9, a10, a11, a12, a13, a14, a15⟩, 8 => a8
  | ⟨a0, a1, a2, a3, a4, a5, a6, a7, a8, a9, a10, a11, a12, a13, a14, a15⟩, 9 => a9
  | ⟨a0, a1, a2, a3, a4, a5, a6, a7, a8, a9, a10, a11, a12, a13, a14, a15⟩, 10 => a10
  | ⟨a0, a1, a2, a3, a4, a5, a6, a7, a8, a9, a10, a11, a12, a13, a14, a15⟩, 11 => a11
  | ⟨a0, a1, a2, a3, a4, a5, a6, a7, a8, a9, a10, a11, a12, a13, a14, a15⟩, 12 => a12
  | ⟨a0, a1, a2, a3, a4, a5, a6, a7, a8, a9, a10, a11, a12, a13, a14, a15⟩, 13 => a13
  | ⟨a0, a1, a2, a3, a4, a5, a6, a7, a8, a9, a10, a11, a12, a13, a14, a15⟩, 14 => a14
  | ⟨a0, a1, a2, a3, a4, a5, a6, a7, a8, a9, a10, a11, a12, a13, a14, a15⟩, 15 => a15
  | _, _ => d
def N16.set {T : Type} (n : N16 T) (i : Nat) (s : T) : N16 T := match n, i with
  | ⟨a0, a1, a2, a3, a4, a5, a6, a7, a8, a9, a10, a11, a12, a13, a14, a15⟩, 0 => ⟨s, a1, a2, a3, a4, a5, a6, a7, a8, a9, a10, a11, a12, a13, a14, a15⟩
  | ⟨a0, a1, a2, a3, a4, a5, a6, a7, a8, a9, a10, a11, a12, a13, a14, a15⟩, 1 => ⟨a0, s, a2, a3, a4, a5, a6, a7, a8, a9, a10, a11, a12, a13, a14, a15⟩
  | ⟨a0, a1, a2, a3, a4, a5, a6, a7, a8, a9, a10, a11, a12, a13, a14, a15⟩, 2 => ⟨a0, a1, s, a3, a4, a5, a6, a7, a8, a9, a10, a11, a12, a13, a14, a15⟩
  | ⟨a0, a1, a2, a3, a4, a5, a6, a7, a8, a9, a10, a11, a12, a13, a14, a15⟩, 3 => ⟨a0, a1, a2, s, a4, a5, a6, a7, a8, a9, a10, a11, a12, a13, a14, a15⟩
  | ⟨a0, a1, a2, a3, a4, a5, a6, a7, a8, a9, a10, a11, a12, a13, a14, a15⟩, 4 => ⟨a0, a1, a2, a3, s, a5, a6, a7, a8, a9, a10, a11, a12, a13, a14, a15⟩
  | ⟨a0, a1, a2, a3, a4, a5, a6, a7, a8, a9, a10, a11, a12, a13, a14, a15⟩, 5 => ⟨a0, a1, a2, a3, a4, s, a6, a7, a8, a9, a10, a11, a12, a13, a14, a15⟩
  | ⟨a0, a1, a2, a3, a4, a5, a6, a7, a8, a9, a10, a11, a12, a13, a14, a15⟩, 6 => ⟨a0, a1, a2, a3, a4, a5, s, a7, a8, a9, a10, a11, a12, a13, a14, a15⟩
  | ⟨a0, a1, a2, a3, a4, a5, a6, a7, a8, a9, a10, a11, a12, a13, a14, a15⟩, 7 => ⟨a0, a1, a2, a3, a4, a5, a6, s, a8, a9, a10, a11, a12, a13, a14, a15⟩
  | ⟨a0, a1, a2, a3, a4, a5, a6, a7, a8, a9, a10, a11, a12, a13, a14, a15⟩, 8 => ⟨a0, a1, a2, a3, a4, a5, a6, a7, s, a9, a10, a11, a12, a13, a14, a15⟩
  | ⟨a0, a1, a2, a3, a4, a5, a6, a7, a8, a9, a10, a11, a12, a13, a14, a15⟩, 9 => ⟨a0, a1, a2, a3, a4, a5, a6, a7, a8, s, a10, a11, a12, a13, a14, a15⟩
  | ⟨a0, a1, a2, a3, a4, a5, a6, a7, a8, a9, a10, a11, a12, a13, a14, a15⟩, 10 => ⟨a0, a1, a2, a3, a4, a5, a6, a7, a8, a9, s, a11, a12, a13, a14, a15⟩
  | ⟨a0, a1, a2, a3, a4, a5, a6, a7, a8, a9, a10, a11, a12, a13, a14, a15⟩, 11 => ⟨a0, a1, a2, a3, a4, a5, a6, a7, a8, a9, a10, s, a12, a13, a14, a15⟩
  | ⟨a0, a1, a2, a3, a4, a5, a6, a7, a8, a9, a10, a11, a12, a13, a14, a15⟩, 12 => ⟨a0, a1, a2, a3, a4, a5, a6, a7, a8, a9, a10, a11, s, a13, a14, a15⟩
  | ⟨a0, a1, a2, a3, a4, a5, a6, a7, a8, a9, a10, a11, a12, a13, a14, a15⟩, 13 => ⟨a0, a1, a2, a3, a4, a5, a6, a7, a8, a9, a10, a11, a12, s, a14, a15⟩
  | ⟨a0, a1, a2, a3, a4, a5, a6, a7, a8, a9, a10, a11, a12, a13, a14, a15⟩, 14 => ⟨a0, a1, a2, a3, a4, a5, a6, a7, a8, a9, a10, a11, a12, a13, s, a15⟩
  | ⟨a0, a1, a2, a3, a4, a5, a6, a7, a8, a9, a10, a11, a12, a13, a14, a15⟩, 15 => ⟨a0, a1, a2, a3, a4, a5, a6, a7, a8, a9, a10, a11, a12, a13, a14, s⟩
  | n, _ => n
theorem N16.get_set {T : Type} (n : N16 T) (i j : Nat) (s d : T) (hi : i < 16) : (n.set i s).get j d = if j = i then s else n.get j d := by
  obtain ⟨a0, a1, a2, a3, a4, a5, a6, a7, a8, a9, a10, a11, a12, a13, a14, a15⟩ := n
  rcases i with _ | _ | _ | _ | _ | _ | _ | _ | _ | _ | _ | _ | _ | _ | _ | _ | i
  all_goals first | (exfalso; omega) | (rcases j with _ | _ | _ | _ | _ | _ | _ | _ | _ | _ | _ | _ | _ | _ | _ | _ | j <;> first | rfl | (rw [if_neg (by omega)]; rfl))
def Z16 : N16 SV := ⟨.any, .any, .any, .any, .any, .any, .any, .any, .any, .any, .any, .any, .any, .any, .any, .any⟩
def ZZ : N16 (N16 SV) := ⟨Z16, Z16, Z16, Z16, Z16, Z16, Z16, Z16, Z16, Z16, Z16, Z16, Z16, Z16, Z16, Z16⟩
def E (n : N16 (N16 SV)) : Env := fun t => (n.get (t / 16) Z16).get (t % 16) .any
def bg (n : N16 SV) (j : Nat) : SV := n.get j .any
def bs (n : N16 SV) (j : Nat) (s : SV) : N16 SV := n.set j s
def sel (i j : Nat) (n : N16 (N16 SV)) : SV := bg (n.get i Z16) j
def updE (i j : Nat) (n : N16 (N16 SV)) (s : SV) : Env := if i < 16 then E (n.set i (bs (n.get i Z16) j s)) else put (E n) (16 * i + j) s
@[congr] theorem sel_c {i i' j j' : Nat} {n : N16 (N16 SV)} (h : i = i') (h2 : j = j') : sel i j n = sel i' j' n := by rw [h, h2]
@[congr] theorem updE_c {i i' j j' : Nat} {n : N16 (N16 SV)} {s : SV} (h : i = i') (h2 : j = j') : updE i j n s = updE i' j' n s := by rw [h, h2]
theorem e_get {n : N16 (N16 SV)} {t : Nat} : E n t = sel (t / 16) (t % 16) n := Eq.trans rfl rfl
theorem e_put {n : N16 (N16 SV)} {t : Nat} {s : SV} : put (E n) t s = updE (t / 16) (t % 16) n s := by
  unfold updE
  split
  · rename_i h
    funext x
    show (if x = t then s else E n x) = _
    unfold E bs
    rw [N16.get_set _ _ _ _ _ h]
    by_cases hx : x / 16 = t / 16
    · rw [if_pos hx, N16.get_set _ _ _ _ _ (Nat.mod_lt _ (by omega)), hx]
      by_cases hy : x = t
      · rw [if_pos hy, if_pos (by rw [hy])]
      · rw [if_neg hy, if_neg (by omega)]
    · rw [if_neg hx, if_neg (by intro h; exact hx (by rw [h]))]
  · rw [Nat.div_add_mod]
theorem e_nil : slots [] = E ZZ := by
  funext t
  show SV.any = (ZZ.get (t / 16) Z16).get (t % 16) .any
  have : ∀ i, ZZ.get i Z16 = Z16 := fun i => by
    rcases i with _ | _ | _ | _ | _ | _ | _ | _ | _ | _ | _ | _ | _ | _ | _ | _ | i <;> rfl
  rw [this]
  have : ∀ i, Z16.get i .any = SV.any := fun i => by
    rcases i with _ | _ | _ | _ | _ | _ | _ | _ | _ | _ | _ | _ | _ | _ | _ | _ | i <;> rfl
  rw [this]
theorem e_cons {k : Nat} {s : SV} {l : List (Nat × SV)} : slots ((k, s) :: l) = put (slots l) k s := Eq.trans rfl rfl
section
variable {a0 a1 a2 a3 a4 a5 a6 a7 a8 a9 a10 a11 a12 a13 a14 a15 s : SV} {b0 b1 b2 b3 b4 b5 b6 b7 b8 b9 b10 b11 b12 b13 b14 b15 : N16 SV} {j : Nat}
theorem xa0 : sel 0 j ⟨b0, b1, b2, b3, b4, b5, b6, b7, b8, b9, b10, b11, b12, b13, b14, b15⟩ = bg b0 j := Eq.trans rfl rfl
theorem xb0 : bg ⟨a0, a1, a2, a3, a4, a5, a6, a7, a8, a9, a10, a11, a12, a13, a14, a15⟩ 0 = a0 := Eq.trans rfl rfl
theorem xp0 : updE 0 j ⟨b0, b1, b2, b3, b4, b5, b6, b7, b8, b9, b10, b11, b12, b13, b14, b15⟩ s = E ⟨bs b0 j s, b1, b2, b3, b4, b5, b6, b7, b8, b9, b10, b11, b12, b13, b14, b15⟩ := Eq.trans rfl rfl
theorem xq0 : bs ⟨a0, a1, a2, a3, a4, a5, a6, a7, a8, a9, a10, a11, a12, a13, a14, a15⟩ 0 s = ⟨s, a1, a2, a3, a4, a5, a6, a7, a8, a9, a10, a11, a12, a13, a14, a15⟩ := Eq.trans rfl rfl
theorem xa1 : sel 1 j ⟨b0, b1, b2, b3, b4, b5, b6, b7, b8, b9, b10, b11, b12, b13, b14, b15⟩ = bg b1 j := Eq.trans rfl rfl
theorem xb1 : bg ⟨a0, a1, a2, a3, a4, a5, a6, a7, a8, a9, a10, a11, a12, a13, a14, a15⟩ 1 = a1 := Eq.trans rfl rfl
theorem xp1 : updE 1 j ⟨b0, b1, b2, b3, b4, b5, b6, b7, b8, b9, b10, b11, b12, b13, b14, b15⟩ s = E ⟨b0, bs b1 j s, b2, b3, b4, b5, b6, b7, b8, b9, b10, b11, b12, b13, b14, b15⟩ := Eq.trans rfl rfl
theorem xq1 : bs ⟨a0, a1, a2, a3, a4, a5, a6, a7, a8, a9, a10, a11, a12, a13, a14, a15⟩ 1 s = ⟨a0, s, a2, a3, a4, a5, a6, a7, a8, a9, a10, a11, a12, a13, a14, a15⟩ := Eq.trans rfl rfl
theorem xa2 : sel 2 j ⟨b0, b1, b2, b3, b4, b5, b6, b7, b8, b9, b10, b11, b12, b13, b14, b15⟩ = bg b2 j := Eq.trans rfl rfl
theorem xb2 : bg ⟨a0, a1, a2, a3, a4, a5, a6, a7, a8, a9, a10, a11, a12, a13, a14, a15⟩ 2 = a2 := Eq.trans rfl rfl
theorem xp2 : updE 2 j ⟨b0, b1, b2, b3, b4, b5, b6, b7, b8, b9, b10, b11, b12, b13, b14, b15⟩ s = E ⟨b0, b1, bs b2 j s, b3, b4, b5, b6, b7, b8, b9, b10, b11, b12, b13, b14, b15⟩ := Eq.trans rfl rfl
theorem xq2 : bs ⟨a0, a1, a2, a3, a4, a5, a6, a7, a8, a9, a10, a11, a12, a13, a14, a15⟩ 2 s = ⟨a0, a1, s, a3, a4, a5, a6, a7, a8, a9, a10, a11, a12, a13, a14, a15⟩ := Eq.trans rfl rfl
theorem xa3 : sel 3 j ⟨b0, b1, b2, b3, b4, b5, b6, b7, b8, b9, b10, b11, b12, b13, b14, b15⟩ = bg b3 j := Eq.trans rfl rfl
theorem xb3 : bg ⟨a0, a1, a2, a3, a4, a5, a6, a7, a8, a9, a10, a11, a12, a13, a14, a15⟩ 3 = a3 := Eq.trans rfl rfl
theorem xp3 : updE 3 j ⟨b0, b1, b2, b3, b4, b5, b6, b7, b8, b9, b10, b11, b12, b13, b14, b15⟩ s = E ⟨b0, b1, b2, bs b3 j s, b4, b5, b6, b7, b8, b9, b10, b11, b12, b13, b14, b15⟩ := Eq.trans rfl rfl
theorem xq3 : bs ⟨a0, a1, a2, a3, a4, a5, a6, a7, a8, a9, a10, a11, a12, a13, a14, a15⟩ 3 s = ⟨a0, a1, a2, s, a4, a5, a6, a7, a8, a9, a10, a11, a12, a13, a14, a15⟩ := Eq.trans rfl rfl
theorem xa4 : sel 4 j ⟨b0, b1, b2, b3, b4, b5, b6, b7, b8, b9, b10, b11, b12, b13, b14, b15⟩ = bg b4 j := Eq.trans rfl rfl
theorem xb4 : bg ⟨a0, a1, a2, a3, a4, a5, a6, a7, a8, a9, a10, a11, a12, a13, a14, a15⟩ 4 = a4 := Eq.trans rfl rfl
theorem xp4 : updE 4 j ⟨b0, b1, b2, b3, b4, b5, b6, b7, b8, b9, b10, b11, b12, b13, b14, b15⟩ s = E ⟨b0, b1, b2, b3, bs b4 j s, b5, b6, b7, b8, b9, b10, b11, b12, b13, b14, b15⟩ := Eq.trans rfl rfl
theorem xq4 : bs ⟨a0, a1, a2, a3, a4, a5, a6, a7, a8, a9, a10, a11, a12, a13, a14, a15⟩ 4 s = ⟨a0, a1, a2, a3, s, a5, a6, a7, a8, a9, a10, a11, a12, a13, a14, a15⟩ := Eq.trans rfl rfl
theorem xa5 : sel 5 j ⟨b0, b1, b2, b3, b4, b5, b6, b7, b8, b9, b10, b11, b12, b13, b14, b15⟩ = bg b5 j := Eq.trans rfl rfl
theorem xb5 : bg ⟨a0, a1, a2, a3, a4, a5, a6, a7, a8, a9, a10, a11, a12, a13, a14, a15⟩ 5 = a5 := Eq.trans rfl rfl
theorem xp5 : updE 5 j ⟨b0, b1, b2, b3, b4, b5, b6, b7, b8, b9, b10, b11, b12, b13, b14, b15⟩ s = E ⟨b0, b1, b2, b3, b4, bs b5 j s, b6, b7, b8, b9, b10, b11, b12, b13, b14, b15⟩ := Eq.trans rfl rfl
theorem xq5 : bs ⟨a0, a1, a2, a3, a4, a5, a6, a7, a8, a9, a10, a11, a12, a13, a14, a15⟩ 5 s = ⟨a0, a1, a2, a3, a4, s, a6, a7, a8, a9, a10, a11, a12, a13, a14, a15⟩ := Eq.trans rfl rfl
theorem xa6 : sel 6 j ⟨b0, b1, b2, b3, b4, b5, b6, b7, b8, b9, b10, b11, b12, b13, b14, b15⟩ = bg b6 j := Eq.trans rfl rfl
theorem xb6 : bg ⟨a0, a1, a2, a3, a4, a5, a6, a7, a8, a9, a10, a11, a12, a13, a14, a15⟩ 6 = a6 := Eq.trans rfl rfl
theorem xp6 : updE 6 j ⟨b0, b1, b2, b3, b4, b5, b6, b7, b8, b9, b10, b11, b12, b13, b14, b15⟩ s = E ⟨b0, b1, b2, b3, b4, b5, bs b6 j s, b7, b8, b9, b10, b11, b12, b13, b14, b15⟩ := Eq.trans rfl rfl
theorem xq6 : bs ⟨a0, a1, a2, a3, a4, a5, a6, a7, a8, a9, a10, a11, a12, a13, a14, a15⟩ 6 s = ⟨a0, a1, a2, a3, a4, a5, s, a7, a8, a9, a10, a11, a12, a13, a14, a15⟩ := Eq.trans rfl rfl
theorem xa7 : sel 7 j ⟨b0, b1, b2, b3, b4, b5, b6, b7, b8, b9, b10, b11, b12, b13, b14, b15⟩ = bg b7 j := Eq.trans rfl rfl
theorem xb7 : bg ⟨a0, a1, a2, a3, a4, a5, a6, a7, a8, a9, a10, a11, a12, a13, a14, a15⟩ 7 = a7 := Eq.trans rfl rfl
theorem xp7 : updE 7 j ⟨b0, b1, b2, b3, b4, b5, b6, b7, b8, b9, b10, b11, b12, b13, b14, b15⟩ s = E ⟨b0, b1, b2, b3, b4, b5, b6, bs b7 j s, b8, b9, b10, b11, b12, b13, b14, b15⟩ := Eq.trans rfl rfl
theorem xq7 : bs ⟨a0, a1, a2, a3, a4, a5, a6, a7, a8, a9, a10, a11, a12, a13, a14, a15⟩ 7 s = ⟨a0, a1, a2, a3, a4, a5, a6, s, a8, a9, a10, a11, a12, a13, a14, a15⟩ := Eq.trans rfl rfl
theorem xa8 : sel 8 j ⟨b0, b1, b2, b3, b4, b5, b6, b7, b8, b9, b10, b11, b12, b13, b14, b15⟩ = bg b8 j := Eq.trans rfl rfl
theorem xb8 : bg ⟨a0, a1, a2, a3, a4, a5, a6, a7, a8, a9, a10, a11, a12, a13, a14, a15⟩ 8 = a8 := Eq.trans rfl rfl
theorem xp8 : updE 8 j ⟨b0, b1, b2, b3, b4, b5, b6, b7, b8, b9, b10, b11, b12, b13, b14, b15⟩ s = E ⟨b0, b1, b2, b3, b4, b5, b6, b7, bs b8 j s, b9, b10, b11, b12, b13, b14, b15⟩ := Eq.trans rfl rfl
theorem xq8 : bs ⟨a0, a1, a2, a3, a4, a5, a6, a7, a8, a9, a10, a11, a12, a13, a14, a15⟩ 8 s = ⟨a0, a1, a2, a3, a4, a5, a6, a7, s, a9, a10, a11, a12, a13, a14, a15⟩ := Eq.trans rfl rfl
theorem xa9 : sel 9 j ⟨b0, b1, b2, b3, b4, b5, b6, b7, b8, b9, b10, b11, b12, b13, b14, b15⟩ = bg b9 j := Eq.trans rfl rfl
theorem xb9 : bg ⟨a0, a1, a2, a3, a4, a5, a6, a7, a8, a9, a10, a11, a12, a13, a14, a15⟩ 9 = a9 := Eq.trans rfl rfl
theorem xp9 : updE 9 j ⟨b0, b1, b2, b3, b4, b5, b6, b7, b8, b9, b10, b11, b12, b13, b14, b15⟩ s = E ⟨b0, b1, b2, b3, b4, b5, b6, b7, b8, bs b9 j s, b10, b11, b12, b13, b14, b15⟩ := Eq.trans rfl rfl
theorem xq9 : bs ⟨a0, a1, a2, a3, a4, a5, a6, a7, a8, a9, a10, a11, a12, a13, a14, a15⟩ 9 s = ⟨a0, a1, a2, a3, a4, a5, a6, a7, a8, s, a10, a11, a12, a13, a14, a15⟩ := Eq.trans rfl rfl
theorem xaa : sel 10 j ⟨b0, b1, b2, b3, b4, b5, b6, b7, b8, b9, b10, b11, b12, b13, b14, b15⟩ = bg b10 j := Eq.trans rfl rfl
theorem xba : bg ⟨a0, a1, a2, a3, a4, a5, a6, a7, a8, a9, a10, a11, a12, a13, a14, a15⟩ 10 = a10 := Eq.trans rfl rfl
theorem xpa : updE 10 j ⟨b0, b1, b2, b3, b4, b5, b6, b7, b8, b9, b10, b11, b12, b13, b14, b15⟩ s = E ⟨b0, b1, b2, b3, b4, b5, b6, b7, b8, b9, bs b10 j s, b11, b12, b13, b14, b15⟩ := Eq.trans rfl rfl
theorem xqa : bs ⟨a0, a1, a2, a3, a4, a5, a6, a7, a8, a9, a10, a11, a12, a13, a14, a15⟩ 10 s = ⟨a0, a1, a2, a3, a4, a5, a6, a7, a8, a9, s, a11, a12, a13, a14, a15⟩ := Eq.trans rfl rfl
theorem xab : sel 11 j ⟨b0, b1, b2, b3, b4, b5, b6, b7, b8, b9, b10, b11, b12, b13, b14, b15⟩ = bg b11 j := Eq.trans rfl rfl
theorem xbb : bg ⟨a0, a1, a2, a3, a4, a5, a6, a7, a8, a9, a10, a11, a12, a13, a14, a15⟩ 11 = a11 := Eq.trans rfl rfl
theorem xpb : updE 11 j ⟨b0, b1, b2, b3, b4, b5, b6, b7, b8, b9, b10, b11, b12, b13, b14, b15⟩ s = E ⟨b0, b1, b2, b3, b4, b5, b6, b7, b8, b9, b10, bs b11 j s, b12, b13, b14, b15⟩ := Eq.trans rfl rfl
theorem xqb : bs ⟨a0, a1, a2, a3, a4, a5, a6, a7, a8, a9, a10, a11, a12, a13, a14, a15⟩ 11 s = ⟨a0, a1, a2, a3, a4, a5, a6, a7, a8, a9, a10, s, a12, a13, a14, a15⟩ := Eq.trans rfl rfl
theorem xac : sel 12 j ⟨b0, b1, b2, b3, b4, b5, b6, b7, b8, b9, b10, b11, b12, b13, b14, b15⟩ = bg b12 j := Eq.trans rfl rfl
theorem xbc : bg ⟨a0, a1, a2, a3, a4, a5, a6, a7, a8, a9, a10, a11, a12, a13, a14, a15⟩ 12 = a12 := Eq.trans rfl rfl
theorem xpc : updE 12 j ⟨b0, b1, b2, b3, b4, b5, b6, b7, b8, b9, b10, b11, b12, b13, b14, b15⟩ s = E ⟨b0, b1, b2, b3, b4, b5, b6, b7, b8, b9, b10, b11, bs b12 j s, b13, b14, b15⟩ := Eq.trans rfl rfl
theorem xqc : bs ⟨a0, a1, a2, a3, a4, a5, a6, a7, a8, a9, a10, a11, a12, a13, a14, a15⟩ 12 s = ⟨a0, a1, a2, a3, a4, a5, a6, a7, a8, a9, a10, a11, s, a13, a14, a15⟩ := Eq.trans rfl rfl
theorem xad : sel 13 j ⟨b0, b1, b2, b3, b4, b5, b6, b7, b8, b9, b10, b11, b12, b13, b14, b15⟩ = bg b13 j := Eq.trans rfl rfl
theorem xbd : bg ⟨a0, a1, a2, a3, a4, a5, a6, a7, a8, a9, a10, a11, a12, a13, a14, a15⟩ 13 = a13 := Eq.trans rfl rfl
theorem xpd : updE 13 j ⟨b0, b1, b2, b3, b4, b5, b6, b7, b8, b9, b10, b11, b12, b13, b14, b15⟩ s = E ⟨b0, b1, b2, b3, b4, b5, b6, b7, b8, b9, b10, b11, b12, bs b13 j s, b14, b15⟩ := Eq.trans rfl rfl
theorem xqd : bs ⟨a0, a1, a2, a3, a4, a5, a6, a7, a8, a9, a10, a11, a12, a13, a14, a15⟩ 13 s = ⟨a0, a1, a2, a3, a4, a5, a6, a7, a8, a9, a10, a11, a12, s, a14, a15⟩ := Eq.trans rfl rfl
theorem xae : sel 14 j ⟨b0, b1, b2, b3, b4, b5, b6, b7, b8, b9, b10, b11, b12, b13, b14, b15⟩ = bg b14 j := Eq.trans rfl rfl
theorem xbe : bg ⟨a0, a1, a2, a3, a4, a5, a6, a7, a8, a9, a10, a11, a12, a13, a14, a15⟩ 14 = a14 := Eq.trans rfl rfl
theorem xpe : updE 14 j ⟨b0, b1, b2, b3, b4, b5, b6, b7, b8, b9, b10, b11, b12, b13, b14, b15⟩ s = E ⟨b0, b1, b2, b3, b4, b5, b6, b7, b8, b9, b10, b11, b12, b13, bs b14 j s, b15⟩ := Eq.trans rfl rfl
theorem xqe : bs ⟨a0, a1, a2, a3, a4, a5, a6, a7, a8, a9, a10, a11, a12, a13, a14, a15⟩ 14 s = ⟨a0, a1, a2, a3, a4, a5, a6, a7, a8, a9, a10, a11, a12, a13, s, a15⟩ := Eq.trans rfl rfl
theorem xaf : sel 15 j ⟨b0, b1, b2, b3, b4, b5, b6, b7, b8, b9, b10, b11, b12, b13, b14, b15⟩ = bg b15 j := Eq.trans rfl rfl
theorem xbf : bg ⟨a0, a1, a2, a3, a4, a5, a6, a7, a8, a9, a10, a11, a12, a13, a14, a15⟩ 15 = a15 := Eq.trans rfl rfl
theorem xpf : updE 15 j ⟨b0, b1, b2, b3, b4, b5, b6, b7, b8, b9, b10, b11, b12, b13, b14, b15⟩ s = E ⟨b0, b1, b2, b3, b4, b5, b6, b7, b8, b9, b10, b11, b12, b13, b14, bs b15 j s⟩ := Eq.trans rfl rfl
theorem xqf : bs ⟨a0, a1, a2, a3, a4, a5, a6, a7, a8, a9, a10, a11, a12, a13, a14, a15⟩ 15 s = ⟨a0, a1, a2, a3, a4, a5, a6, a7, a8, a9, a10, a11, a12, a13, a14, s⟩ := Eq.trans rfl rfl
theorem a_z : ZZ = ⟨Z16, Z16, Z16, Z16, Z16, Z16, Z16, Z16, Z16, Z16, Z16, Z16, Z16, Z16, Z16, Z16⟩ := Eq.trans rfl rfl
theorem q_z {j : Nat} {s : SV} : bs Z16 j s = bs ⟨.any, .any, .any, .any, .any, .any, .any, .any, .any, .any, .any, .any, .any, .any, .any, .any⟩ j s := Eq.trans rfl rfl
theorem b_z {j : Nat} : bg Z16 j = .any := by
  have : ∀ i, Z16.get i .any = SV.any := fun i => by
    rcases i with _ | _ | _ | _ | _ | _ | _ | _ | _ | _ | _ | _ | _ | _ | _ | _ | i <;> rfl
  exact this j
end
def enK (e : Env) (F : Env → Prop) : Prop := F e
@[congr] theorem enK_c {e e' : Env} {F : Env → Prop} (h : e = e') : enK e F = enK e' F := by rw [h]
theorem v_en {e : Env} {F : Env → Prop} : enK e F = F e := Eq.trans rfl rfl
section
variable {P : Program} {N : Nat} {eff : List FuncId} {G : List CEntry} {e : Env} {m : Mem} {Q : Post} {KE : Env → Mem → Prop} {K : SV → Prop} {KM : SV → Mem → Prop} {t : XT} {i : XI}
theorem s_skip [Inp] : evX P N eff G .skip e m Q = Q .normal e m := Eq.trans rfl rfl
theorem s_tree [Inp] : evX P N eff G (.tree t) e m Q = evT G t e m (fun e m => Q .normal e m) := Eq.trans rfl rfl
theorem s_seq [Inp] {a b : XC} : evX P N eff G (.seq a b) e m Q = evX P N eff G a e m (thenQ (fun e m => evX P N eff G b e m Q) Q) := Eq.trans rfl rfl
theorem s_cond [Inp] {c : XO} {a b : XC} : evX P N eff G (.cond c a b) e m Q = condK (c.get e) (enK (upd e c true) fun e => evX P N eff G a e m Q) (enK (upd e c false) fun e => evX P N eff G b e m Q) := Eq.trans rfl rfl
theorem s_block [Inp] {id : Nat} {a : XC} : evX P N eff G (.block id a) e m Q = evX P N eff G a e m (blockQ id Q) := Eq.trans rfl rfl
theorem s_loop [Inp] {a : XC} : evX P N eff G (.loop a) e m Q = TX P N eff (.loop a) e m Q := Eq.trans rfl rfl
theorem s_exit [Inp] {id : Nat} : evX P N eff G (.exit id) e m Q = Q (.exit id) e m := Eq.trans rfl rfl
theorem s_ret [Inp] : evX P N eff G .ret e m Q = Q .ret e m := Eq.trans rfl rfl
theorem s_then_n : thenQ KE Q .normal e m = KE e m := Eq.trans rfl rfl
theorem s_then_e {id : Nat} : thenQ KE Q (.exit id) e m = Q (.exit id) e m := Eq.trans rfl rfl
theorem s_then_r : thenQ KE Q .ret e m = Q .ret e m := Eq.trans rfl rfl
theorem s_bl_n {id : Nat} : blockQ id Q .normal e m = Q .normal e m := Eq.trans rfl rfl
theorem s_bl_r {id : Nat} : blockQ id Q .ret e m = Q .ret e m := Eq.trans rfl rfl
theorem s_bl_e {id j : Nat} : blockQ id Q (.exit j) e m = if j = id then Q .normal e m else Q (.exit j) e m := Eq.trans rfl rfl
theorem s_unr [Inp] {b : XC} {n : Nat} : unr P N eff G b Q (n + 1) e m = evX P N eff G b e m (thenQ (fun e m => unr P N eff G b Q n e m) Q) := Eq.trans rfl rfl
theorem s_upd_t {t : Nat} {b : Bool} : upd e (.tmp t) b = put e t (.v (.bool b)) := Eq.trans rfl rfl
theorem s_upd_c {s : SV} {b : Bool} : upd e (.cst s) b = e := Eq.trans rfl rfl
theorem s_done [Inp] : evT G .done e m KE = KE e m := Eq.trans rfl rfl
theorem s_tseq [Inp] : evT G (.seq i t) e m KE = evI G i e m fun e m => evT G t e m KE := Eq.trans rfl rfl
theorem s_take [Inp] : evT G (.take i t) e m KE = evI G i e m fun e m => evT G t e m KE := Eq.trans rfl rfl
theorem s_act [Inp] {q : Bool} {l : List (XI × XT)} : evT G (.act q l) e m KE = evAlts G q l e m KE := Eq.trans rfl rfl
theorem s_alt [Inp] {qs : List Bool} {l : List (XI × XT)} : evT G (.alt qs l) e m KE = evAlt2 G l qs e m KE := Eq.trans rfl rfl
theorem s_alt20 [Inp] {qs : List Bool} : evAlt2 G [] qs e m KE = True := Eq.trans rfl rfl
theorem s_alt2' [Inp] {q : Bool} {qs : List Bool} {l : List (XI × XT)} : evAlt2 G ((i, t) :: l) (q :: qs) e m KE = (((q = true → quiet G e i.op = true) ∧ evI G i e m fun e m => evT G t e m KE) ∧ evAlt2 G l qs e m KE) := Eq.trans rfl rfl
theorem s_alt2t [Inp] {qs : List Bool} {l : List (XI × XT)} : evAlt2 G ((i, t) :: l) (true :: qs) e m KE = ((quiet G e i.op = true ∧ evI G i e m fun e m => evT G t e m KE) ∧ evAlt2 G l qs e m KE) := by
  rw [s_alt2']
  simp
theorem s_alt2f [Inp] {qs : List Bool} {l : List (XI × XT)} : evAlt2 G ((i, t) :: l) (false :: qs) e m KE = ((evI G i e m fun e m => evT G t e m KE) ∧ evAlt2 G l qs e m KE) := by
  rw [s_alt2']
  simp
theorem s_alt0 [Inp] {q : Bool} : evAlts G q [] e m KE = True := Eq.trans rfl rfl
theorem s_alt' [Inp] {q : Bool} {l : List (XI × XT)} : evAlts G q ((i, t) :: l) e m KE = (((q = true → quiet G e i.op = true) ∧ evI G i e m fun e m => evT G t e m KE) ∧ evAlts G q l e m KE) := Eq.trans rfl rfl
theorem s_altt [Inp] {l : List (XI × XT)} : evAlts G true ((i, t) :: l) e m KE = ((quiet G e i.op = true ∧ evI G i e m fun e m => evT G t e m KE) ∧ evAlts G true l e m KE) := by
  rw [s_alt']
  simp only [forall_const]
theorem s_altf [Inp] {l : List (XI × XT)} : evAlts G false ((i, t) :: l) e m KE = ((evI G i e m fun e m => evT G t e m KE) ∧ evAlts G false l e m KE) := by
  rw [s_alt']
  simp only [Bool.false_eq_true, false_imp_iff, true_and]
theorem s_op [Inp] {d : Option Nat} {o : XB} : evI G ⟨d, none, o⟩ e m KE = evB G o e m fun s m' => enK (putO e d s) fun e => KE e m' := Eq.trans rfl rfl
theorem s_opg [Inp] {d : Option Nat} {t : Nat} {w : Bool} {o : XB} : evI G ⟨d, some (t, w), o⟩ e m KE = guardK (e t) w (enK (put e t (.v (.bool w))) fun e => evB G o e m fun s m' => enK (putO e d s) fun e => KE e m') (enK (putO (put e t (.v (.bool !w))) d (.tup [])) fun e => KE e m) (enK (putO e d (.tup [])) fun e => KE e m) := by
  unfold evI guardK
  rfl
theorem n_w {s : SV} : nw s = s := Eq.trans rfl rfl
theorem v_mw {s : SV} : mwK s K = mvK (nw s) K := Eq.trans rfl rfl
theorem v_mv {s : SV} : mvK s K = K s := Eq.trans rfl rfl
theorem v_st {s : SV} : stK s m KM = KM s m := Eq.trans rfl rfl
theorem s_put_s {d : Nat} {s : SV} : putO e (some d) s = put e d s := Eq.trans rfl rfl
theorem s_put_n {s : SV} : putO e none s = e := Eq.trans rfl rfl
theorem s_pa {d t : Nat} {s : SV} : putO e (some d) s t = if t = d then s else e t := Eq.trans rfl rfl
theorem s_pn {t : Nat} {s : SV} : putO e none s t = e t := Eq.trans rfl rfl
theorem s_put {d t : Nat} {s : SV} : put e d s t = if t = d then s else e t := Eq.trans rfl rfl
theorem s_get_t {t : Nat} : XO.get e (.tmp t) = e t := Eq.trans rfl rfl
theorem s_get_c {s : SV} : XO.get e (.cst s) = s := Eq.trans rfl rfl
theorem s_sl0 {t : Nat} : slots [] t = .any := Eq.trans rfl rfl
theorem s_sl {t k : Nat} {s : SV} {l : List (Nat × SV)} : slots ((k, s) :: l) t = if t = k then s else slots l t := Eq.trans rfl rfl
theorem s_as0 {k : Nat} : argSlots k [] = [] := Eq.trans rfl rfl
theorem s_as {k : Nat} {s : SV} {l : List SV} : argSlots k (s :: l) = (k, s) :: argSlots (k + 1) l := Eq.trans rfl rfl
theorem s_ofA [Inp] {x : XA} : evB G (.ofA x) e m KM = evA x e m fun s => KM s m := Eq.trans rfl rfl
theorem s_box [Inp] {x : XO} : evB G (.box x) e m KM = cellsK (x.get e).cells fun cs => stK (.ptr m.length 0) (m ++ [⟨true, cs⟩]) KM := by unfold evB cellsK; rfl
theorem s_alloc [Inp] {z : List SV} : evB G (.alloc z) e m KM = stK (.ptr m.length 0) (m ++ [⟨true, z⟩]) KM := Eq.trans rfl rfl
theorem s_build [Inp] {z : List SV} {ps : List (Nat × Nat × XO)} : evB G (.build z ps) e m KM = cellsK (fillS z (ps.map fun p => (p.1, p.2.1, p.2.2.get e))) fun cs => KM (.agg cs) m := by unfold evB cellsK; rfl
theorem s_buildSl [Inp] {sz n : Nat} {z : List SV} {ps : List (Nat × Nat × XO)} : evB G (.buildSl sz n z ps) e m KM = cellsK (fillS z (ps.map fun p => (p.1, p.2.1, p.2.2.get e))) fun cs => stK (.row m.length 0 n sz) (m ++ [⟨true, cs⟩]) KM := by unfold evB cellsK; rfl
theorem s_store [Inp] {sz : Nat} {a x : XO} : evB G (.store sz a x) e m KM = storeK sz (a.get e) (x.get e).cells m KM := by
  unfold evB storeK objK; rfl
def appkK (sz bytes : Nat) (s : SV) (x y : Option (Nat × List SV)) (m : Mem) (K : SV → Mem → Prop) : Prop := match x, y with
    | some (n, xs), some (k, ys) =>
      if k = 0 then capOk s ∧ K s m else
      match s with
      | .row kk o _ sz1 => match m[kk]? with
        | some ob => (sz1 = sz ∧ o = 0 ∧ ob.own = true ∧ ob.isM = false ∧ ob.cells.length = n * sz ∧ xs.length = n * sz ∧ ys.length = k * sz ∧ 0 < k ∧ ys.all SV.one = true ∧ n + k ≤ maxLen ∧ (n + k) * bytes ≤ 140737488355328) ∧
          K (.row m.length 0 (n + k) sz) (m ++ [⟨true, xs ++ ys⟩]) ∧ K (.row kk 0 (n + k) sz) (m.set kk ⟨true, xs ++ ys⟩)
        | none => False
      | _ => False
    | _, _ => False
theorem s_appk [Inp] {sz n : Nat} {a x : XO} : evB G (.appk sz n a x) e m KM = appkK sz n (a.get e) (slOf m sz (a.get e)) (slOf m sz (x.get e)) m KM := by
  unfold evB appkK; rfl
theorem s_app [Inp] {sz n : Nat} {a x : XO} : evB G (.app sz n a x) e m KM = appK sz n (a.get e) (slOf m sz (a.get e)) (slOf m sz (x.get e)) m KM := by
  unfold evB appK; rfl
theorem s_apps [Inp] {n : Nat} {a x : XO} : evB G (.apps n a x) e m KM = appsK n (a.get e) (slOf m 1 (a.get e)) (x.get e) m KM := by unfold evB appsK; rfl
theorem s_cpy [Inp] {n : Nat} {a x : XO} : evB G (.cpy n a x) e m KM = cpyK n (a.get e) (slOf m n (x.get e)) m KM := by unfold evB cpyK objK; rfl
theorem s_mkSl [Inp] {n b : Nat} {z : List SV} {a x : XO} : evB G (.mkSl n b z a x) e m KM = mkSlK n b z (a.get e) (x.get e) m KM := by unfold evB mkSlK; rfl
theorem s_s2b [Inp] {x : XO} : evB G (.s2b x) e m KM = s2bK (x.get e) m KM := by unfold evB s2bK; rfl
theorem s_call [Inp] {f : XO} {l : List XO} : evB G (.call f l) e m KM = callK G (f.get e) (l.map (XO.get e)) m KM := by
  unfold evB callK entK; rfl
theorem s_mv [Inp] {x : XO} : evA (.mv x) e m K = mwK (x.get e) K := Eq.trans rfl rfl
theorem s_pick [Inp] {a b c : XO} : evA (.pick a b c) e m K = pickK (a.get e) (b.get e) (c.get e) K := by unfold evA pickK; rfl
theorem s_bin [Inp] {op : BinOp} {x y : XO} : evA (.bin op x y) e m K = evBin op (x.get e) (y.get e) K := Eq.trans rfl rfl
theorem s_eqb [Inp] {n : Bool} {x y : XO} : evA (.eqb n x y) e m K = evEqb n (x.get e) (y.get e) K := Eq.trans rfl rfl
theorem s_eqn [Inp] {n : Bool} {k : Nat} {x y : XO} : evA (.eqn n k x y) e m K = evEqn n k (x.get e) (y.get e) K := Eq.trans rfl rfl
theorem s_un [Inp] {op : UnOp} {x : XO} : evA (.un op x) e m K = evUn op (x.get e) K := Eq.trans rfl rfl
theorem s_conv [Inp] {k : IntKind} {x : XO} : evA (.conv k x) e m K = convK k (x.get e) K := by unfold evA convK; rfl
theorem s_field [Inp] {o : Nat} {z : Option Nat} {x : XO} : evA (.field o z x) e m K = fieldK o z (x.get e) K := by unfold evA fieldK; rfl
theorem s_faddr [Inp] {o : Nat} {x : XO} : evA (.faddr o x) e m K = faddrK o (x.get e) K := by unfold evA faddrK; rfl
theorem s_iarr [Inp] {n z : Nat} {x y : XO} : evA (.iarr n z x y) e m K = iarrK n z (x.get e) (y.get e) K := by unfold evA iarrK; rfl
theorem s_isl [Inp] {z : Nat} {x y : XO} : evA (.isl z x y) e m K = islK z (x.get e) (y.get e) K := by unfold evA islK; rfl
theorem s_idx [Inp] {n z : Nat} {g : Bool} {x y : XO} : evA (.idx n z g x y) e m K = idxK n z g (x.get e) (y.get e) K := by unfold evA idxK; rfl
theorem s_ext [Inp] {n : Nat} {x : XO} : evA (.extract n x) e m K = extK n (x.get e) K := by unfold evA extK someK; rfl
theorem s_load [Inp] {z : Option Nat} {x : XO} : evA (.load z x) e m K = loadK z (x.get e) m K := by unfold evA loadK objK; rfl
theorem s_len [Inp] {x : XO} : evA (.len x) e m K = lenK (x.get e) K := by unfold evA lenK; rfl
theorem s_lens [Inp] {x : XO} : evA (.lens x) e m K = lensK (x.get e) K := by unfold evA lensK; rfl
theorem s_nilc [Inp] {x : XO} : evA (.nilc x) e m K = nilcK (x.get e) K := by unfold evA nilcK; rfl
theorem s_mkbnd [Inp] {f : FuncId} {l : List XO} : evA (.mkbnd f l) e m K = mwK (.bnd f (l.map (XO.get e))) K := Eq.trans rfl rfl
theorem s_mkfn [Inp] {f : FuncId} {l : List XO} : evA (.mkfn f l) e m K = mwK (.fn f (l.map (XO.get e))) K := Eq.trans rfl rfl
theorem s_eqs [Inp] {n : Bool} {ks : List CK} {x y : XO} : evA (.eqs n ks x y) e m K = eqsK n ks (x.get e) (y.get e) K := by unfold evA eqsK; rfl
theorem s_mx [Inp] {n : Bool} {x : XO} {l : List XO} : evA (.mx n x l) e m K = mxK n (x.get e) (l.map (XO.get e)) K := by unfold evA mxK; rfl
theorem s_slc [Inp] {z : Nat} {x : XO} {lo hi : Option XO} : evA (.slc z x lo hi) e m K = slcK z (x.get e) (lo.map (XO.get e)) (hi.map (XO.get e)) K := by unfold evA slcK; rfl
theorem s_slca [Inp] {n z : Nat} {x : XO} {lo hi : Option XO} : evA (.slca n z x lo hi) e m K = slcaK n z (x.get e) m (lo.map (XO.get e)) (hi.map (XO.get e)) K := by unfold evA slcaK objK; rfl
theorem s_slcs [Inp] {x : XO} {lo hi : Option XO} : evA (.slcs x lo hi) e m K = slcsK (x.get e) (lo.map (XO.get e)) (hi.map (XO.get e)) K := by unfold evA slcsK; rfl
theorem s_slc3 [Inp] {z : Nat} {x : XO} {lo : Option XO} {hi mx : XO} : evA (.slc3 z x lo hi mx) e m K = slc3K z (x.get e) (lo.map (XO.get e)) (hi.get e) (mx.get e) K := by unfold evA slc3K; rfl
theorem s_sidx [Inp] {x i : XO} : evA (.sidx x i) e m K = sidxK (x.get e) (i.get e) K := by unfold evA sidxK; rfl
theorem s_b2s [Inp] {x : XO} : evA (.b2s x) e m K = b2sK (slOf m 1 (x.get e)) K := by unfold evA evB2s b2sK strK; rfl
theorem s_strc [Inp] {x : XO} : evA (.strc x) e m K = strcK (x.get e) K := by unfold evA strcK; rfl
theorem s_capc [Inp] {x : XO} : evA (.capc x) e m K = capcK (x.get e) K := by unfold evA capcK; rfl
theorem s_lenm [Inp] {x : XO} : evA (.lenm x) e m K = lnK (lenOf m (x.get e)) K := by unfold evA lnK; rfl
theorem s_look [Inp] {kt : KT} {z : SV} {ok : Bool} {x i : XO} : evA (.look kt z ok x i) e m K = evLook kt z ok (mapOf m kt (x.get e)) (i.get e) K := Eq.trans rfl rfl
theorem s_mkMap [Inp] {kt : KT} : evB G (.mkMap kt) e m KM = stK (.mp m.length) (m ++ [mapO kt []]) KM := Eq.trans rfl rfl
theorem s_mapUpd [Inp] {kt : KT} {x i v : XO} : evB G (.mapUpd kt x i v) e m KM = evUpd kt (x.get e) (i.get e) (v.get e) m KM := Eq.trans rfl rfl
theorem s_mapEnt [Inp] {kt : KT} {z : SV} {x i : XO} : evB G (.mapEnt kt z x i) e m KM = evEnt kt z (x.get e) (i.get e) m KM := Eq.trans rfl rfl
theorem s_entSt [Inp] {x i v : XO} : evB G (.entSt x i v) e m KM = evEntSt (x.get e) (i.get e) (v.get e) m KM := Eq.trans rfl rfl
variable {k k' : IntKind} {p q : Int}
theorem v_cond {b : Bool} {A B : Prop} : condK (.v (.bool b)) A B = if b = true then A else B := Eq.trans rfl rfl
theorem v_guard {b w : Bool} {A B C : Prop} : guardK (.v (.bool b)) w A B C = if b = w then A else B := Eq.trans rfl rfl
theorem v_guard0 {w : Bool} {A B C : Prop} : guardK (.tup []) w A B C = C := Eq.trans rfl rfl
theorem v_pick {b : Bool} {x y : SV} : pickK (.v (.bool b)) x y K = if b = true then mwK x K else mwK y K := Eq.trans rfl rfl
theorem v_conv : convK k (.v (.int k' p)) K = mwK (.v (.int k (k.wrap p))) K := Eq.trans rfl rfl
theorem v_field {o : Nat} {z : Option Nat} {cs : List SV} : fieldK o z (.agg cs) K = evPart cs o z K := Eq.trans rfl rfl
theorem v_part1 {cs : List SV} {o : Nat} : evPart cs o none K = someK cs[o]? K := by unfold evPart someK; rfl
theorem v_partn {cs : List SV} {o n : Nat} : evPart cs o (some n) K = (o + n ≤ cs.length ∧ mwK (.agg ((cs.drop o).take n)) K) := Eq.trans rfl rfl
theorem v_some {s : SV} : someK (some s) K = K s := Eq.trans rfl rfl
theorem v_obj {o : SObj} {K : SObj → Prop} : objK (some o) K = K o := Eq.trans rfl rfl
theorem v_cells {cs : List SV} {K : List SV → Prop} : cellsK (some cs) K = K cs := Eq.trans rfl rfl
theorem v_faddr {o k a : Nat} : faddrK o (.ptr k a) K = mwK (.ptr k (a + o)) K := Eq.trans rfl rfl
theorem v_faddrp {o : Nat} {a : Option Addr} : faddrK o (.v (.pointer a)) K = (a.isSome = true ∧ mwK (.v (.pointer (plusA a o))) K) := Eq.trans rfl rfl
theorem v_iarrp {n z : Nat} {a : Option Addr} : iarrK n z (.v (.pointer a)) (.v (.int k p)) K = ((0 ≤ p ∧ p < (n : Int) ∧ a.isSome = true) ∧ mwK (.v (.pointer (plusA a (p.toNat * z)))) K) := Eq.trans rfl rfl
theorem v_islp {z n c : Nat} {a : Option Addr} : islK z (.v (.slice a n c)) (.v (.int k p)) K = ((0 ≤ p ∧ p < (n : Int) ∧ a.isSome = true) ∧ mwK (.v (.pointer (plusA a (p.toNat * z)))) K) := Eq.trans rfl rfl
theorem v_loadp1 [Inp] {a : Option Addr} : loadK none (.v (.pointer a)) m K = inp1K (inpL a 1) K := by unfold loadK evInp inp1K; rfl
theorem v_loadpn [Inp] {a : Option Addr} {n : Nat} : loadK (some n) (.v (.pointer a)) m K = (a.isSome = true ∧ inpnK (inpL a n) K) := by unfold loadK evInp inpnK; rfl
theorem v_inp1 {u : Value} {us : List Value} : inp1K (some (u :: us)) K = K (.v u) := Eq.trans rfl rfl
theorem v_inpn {us : List Value} : inpnK (some us) K = mwK (.agg (us.map .v)) K := Eq.trans rfl rfl
theorem v_nilcp {a : Option Addr} : nilcK (.v (.pointer a)) K = (a.isSome = true ∧ K (.v (.pointer a))) := Eq.trans rfl rfl
theorem i_plus {a : Option Addr} {n : Nat} : (plusA a n).isSome = a.isSome := by cases a <;> rfl
theorem v_slcp {z n c : Nat} {a : Option Addr} {lo hi : Option SV} : slcK z (.v (.slice a n c)) lo hi K = evBd n hi fun h => evBd 0 lo fun l => (l ≤ h ∧ h ≤ c) ∧ mwK (.v (.slice (cutA a l c z) (h - l) (c - l))) K := Eq.trans rfl rfl
theorem v_slc3 {z a b n : Nat} {lo : Option SV} {hi mx : SV} : slc3K z (.row a b n z) lo hi mx K = evBd n (some mx) fun mm => evBd n (some hi) fun h => evBd 0 lo fun l => (l ≤ h ∧ h ≤ mm ∧ mm ≤ n) ∧ (if l = 0 ∨ l < mm then mwK (.row a (b + l * z) (h - l) z) K else K .emp) := by simp only [slc3K, true_and, mwK]
theorem v_slc3p {z n c : Nat} {a : Option Addr} {lo : Option SV} {hi mx : SV} : slc3K z (.v (.slice a n c)) lo hi mx K = evBd n (some mx) fun mm => evBd n (some hi) fun h => evBd 0 lo fun l => (l ≤ h ∧ h ≤ mm ∧ mm ≤ c) ∧ mwK (.v (.slice (cutA a l mm z) (h - l) (mm - l))) K := Eq.trans rfl rfl
theorem v_sidx {s : ByteArray} : sidxK (.v (.string s)) (.v (.int k p)) K = ((0 ≤ p ∧ p < (s.size : Int)) ∧ mwK (.v (.int .u8 ((s[p.toNat]?.getD 0).toNat))) K) := Eq.trans rfl rfl
theorem v_strc {s : ByteArray} : strcK (.v (.string s)) K = K (.v (.string s)) := Eq.trans rfl rfl
theorem v_capc {a : Option Addr} {n c : Nat} : capcK (.v (.slice a n c)) K = K (.v (.int .i64 c)) := Eq.trans rfl rfl
theorem v_b2s {n : Nat} {xs : List SV} : b2sK (some (n, xs)) K = strK (bytesV xs) K := Eq.trans rfl rfl
theorem v_str {bs : List UInt8} : strK (some bs) K = mwK (.v (.string (strOf bs))) K := Eq.trans rfl rfl
theorem v_iarr {n z a b : Nat} : iarrK n z (.ptr a b) (.v (.int k p)) K = ((0 ≤ p ∧ p < (n : Int)) ∧ mwK (.ptr a (b + p.toNat * z)) K) := Eq.trans rfl rfl
theorem v_isl {z a b n s : Nat} : islK z (.row a b n s) (.v (.int k p)) K = ((0 ≤ p ∧ p < (n : Int)) ∧ mwK (.ptr a (b + p.toNat * z)) K) := Eq.trans rfl rfl
theorem v_idx1 {n z : Nat} {cs : List SV} : idxK n z false (.agg cs) (.v (.int k p)) K = ((0 ≤ p ∧ p < (n : Int)) ∧ evPart cs (p.toNat * z) none K) := Eq.trans rfl rfl
theorem v_idxn {n z : Nat} {cs : List SV} : idxK n z true (.agg cs) (.v (.int k p)) K = ((0 ≤ p ∧ p < (n : Int)) ∧ evPart cs (p.toNat * z) (some z) K) := Eq.trans rfl rfl
theorem v_ext {n : Nat} {cs : List SV} : extK n (.tup cs) K = someK cs[n]? K := Eq.trans rfl rfl
theorem v_load [Inp] {z : Option Nat} {a b : Nat} : loadK z (.ptr a b) m K = objK m[a]? fun ob => evPart ob.cells b z K := Eq.trans rfl rfl
theorem v_len {a b n s : Nat} : lenK (.row a b n s) K = K (.v (.int .i64 n)) := Eq.trans rfl rfl
theorem v_lenz : lenK .zro K = K (.v (.int .i64 0)) := Eq.trans rfl rfl
theorem v_slcz {z : Nat} {lo hi : Option SV} : slcK z .zro lo hi K = evBd 0 hi fun h => evBd 0 lo fun l => (l ≤ h ∧ h ≤ 0) ∧ mwK .zro K := Eq.trans rfl rfl
theorem v_slc3z {z : Nat} {lo : Option SV} {hi mx : SV} : slc3K z .zro lo hi mx K = evBd 0 (some mx) fun mm => evBd 0 (some hi) fun h => evBd 0 lo fun l => (l ≤ h ∧ h ≤ mm ∧ mm ≤ 0) ∧ mwK .zro K := Eq.trans rfl rfl
theorem v_ln {n : Nat} : lnK (some n) K = K (.v (.int .i64 n)) := Eq.trans rfl rfl
theorem v_lkm {kt : KT} {z : SV} {ok : Bool} {es : List (Value × SV)} {key : Value} : evLook kt z ok (some es) (.v key) K = (isK kt key = true ∧ mwK (lookR ok z (getM key es)) K) := Eq.trans rfl rfl
theorem v_any {kt : KT} {es : List (Value × SV)} {F : KT → List (Value × SV) → Prop} : anyK (some (kt, es)) F = F kt es := Eq.trans rfl rfl
theorem v_fnd {j : Nat} {s : SV} {F : Nat → SV → Prop} {N : Prop} : fndK (some (j, s)) F N = F j s := Eq.trans rfl rfl
theorem v_fnd0 {F : Nat → SV → Prop} {N : Prop} : fndK none F N = N := Eq.trans rfl rfl
theorem v_upd {kt : KT} {k : Nat} {key : Value} {v : SV} : evUpd kt (.mp k) (.v key) v m KM = anyK (anyAt m k) fun kt' es => (kt' = kt ∧ isK kt key = true) ∧ stK (.tup []) (m.set k (mapO kt (putM key v es))) KM := by
  unfold evUpd anyK
  dsimp only
  generalize anyAt m k = o
  cases o <;> rfl
theorem v_mpe {kt : KT} {k : Nat} {key : Value} {z : SV} : evEnt kt z (.mp k) (.v key) m KM = anyK (anyAt m k) fun kt' es => (kt' = kt ∧ isK kt key = true) ∧ fndK (findM key 0 es) (fun j s => stK (.tup [s, .v (.int .i64 j)]) (m.set k (mapO kt es)) KM) (stK (.tup [z, .v (.int .i64 es.length)]) (m.set k (mapO kt (es ++ [(key, z)]))) KM) := by
  unfold evEnt anyK
  dsimp only
  generalize anyAt m k = o
  cases o with
  | none => rfl
  | some p =>
    dsimp only
    unfold fndK
    generalize findM key 0 p.2 = o
    cases o <;> rfl
theorem v_ents {k : Nat} {q : IntKind} {j : Int} {v : SV} : evEntSt (.mp k) (.v (.int q j)) v m KM = anyK (anyAt m k) fun kt es => (0 ≤ j ∧ j < (es.length : Int)) ∧ stK (.tup []) (m.set k (mapO kt (setM v j.toNat es))) KM := by
  unfold evEntSt anyK
  dsimp only
  generalize anyAt m k = o
  cases o <;> rfl
def mobK (o : Option SObj) (kt : KT) : Option (List (Value × SV)) := match o with | some ob => mapOb kt ob | none => none
def lobK (o : Option SObj) : Option Nat := match o with | some ob => lenOb ob | none => none
def aobK (o : Option SObj) : Option (KT × List (Value × SV)) := match o with | some ob => bif ob.own then anyOb ob else none | none => none
theorem mo_mp {kt : KT} {k : Nat} : mapOf m kt (.mp k) = mobK m[k]? kt := Eq.trans rfl rfl
theorem mo_0 {kt : KT} : mapOf m kt (.v (.map none)) = some [] := Eq.trans rfl rfl
theorem mo_k {kt : KT} {es : List (Value × SV)} : mobK (some (mapO kt es)) kt = some es := mapOb_m
theorem lo_mp {k : Nat} : lenOf m (.mp k) = lobK m[k]? := Eq.trans rfl rfl
theorem lo_0 : lenOf m (.v (.map none)) = some 0 := Eq.trans rfl rfl
theorem lo_k {kt : KT} {es : List (Value × SV)} : lobK (some (mapO kt es)) = some es.length := Eq.trans rfl rfl
theorem aa_k {k : Nat} : anyAt m k = aobK m[k]? := Eq.trans rfl rfl
theorem aa_m {kt : KT} {es : List (Value × SV)} : aobK (some (mapO kt es)) = some (kt, es) := Eq.trans rfl rfl
theorem ik_i {k : IntKind} {n : Int} : isK (.int k) (.int k n) = true := by simp [isK]
theorem ik_s {b : ByteArray} : isK .str (.string b) = true := Eq.trans rfl rfl
theorem ik_b {b : Bool} : isK .bool (.bool b) = true := Eq.trans rfl rfl
theorem lr_t {z : SV} {o : Option SV} : lookR true z o = .tup [o.getD z, .v (.bool o.isSome)] := Eq.trans rfl rfl
theorem lr_f {z : SV} {o : Option SV} : lookR false z o = o.getD z := Eq.trans rfl rfl
theorem v_lene : lenK .emp K = K (.v (.int .i64 0)) := Eq.trans rfl rfl
theorem v_len0 {a : Option Addr} {n c : Nat} : lenK (.v (.slice a n c)) K = K (.v (.int .i64 n)) := Eq.trans rfl rfl
theorem v_lens {s : ByteArray} : lensK (.v (.string s)) K = K (.v (.int .i64 s.size)) := Eq.trans rfl rfl
theorem v_nilc {a b : Nat} : nilcK (.ptr a b) K = K (.ptr a b) := Eq.trans rfl rfl
theorem v_nilcb {f : FuncId} {c : List SV} : nilcK (.bnd f c) K = K (.bnd f c) := Eq.trans rfl rfl
theorem v_nilcf {f : FuncId} {c : List SV} : nilcK (.fn f c) K = K (.fn f c) := Eq.trans rfl rfl
theorem v_eqs {n : Bool} {ks : List CK} {xs ys : List SV} : eqsK n ks (.agg xs) (.agg ys) K = evCs ks xs ys fun b => mwK (.v (.bool (bif n then !b else b))) K := Eq.trans rfl rfl
theorem v_cs0 {K : Bool → Prop} : evCs [] [] [] K = K true := Eq.trans rfl rfl
theorem v_csi {ks : List CK} {xs ys : List SV} {K : Bool → Prop} : evCs (.int :: ks) (.v (.int k p) :: xs) (.v (.int k q) :: ys) K = evCs ks xs ys fun r => K ((p == q) && r) := by simp only [evCs, true_and]
theorem v_csb {ks : List CK} {xs ys : List SV} {a b : Bool} {K : Bool → Prop} : evCs (.bool :: ks) (.v (.bool a) :: xs) (.v (.bool b) :: ys) K = evCs ks xs ys fun r => K ((a == b) && r) := Eq.trans rfl rfl
theorem v_css {ks : List CK} {xs ys : List SV} {a b : ByteArray} {K : Bool → Prop} : evCs (.str :: ks) (.v (.string a) :: xs) (.v (.string b) :: ys) K = evCs ks xs ys fun r => K ((a.toList == b.toList) && r) := Eq.trans rfl rfl
theorem v_mx {n : Bool} {l : List SV} : mxK n (.v (.int k p)) l K = evMx n (.v (.int k p)) l K := Eq.trans rfl rfl
theorem v_mx0 {n : Bool} {s : SV} : evMx n s [] K = mwK s K := Eq.trans rfl rfl
theorem v_mxt {l : List SV} : evMx true (.v (.int k p)) (.v (.int k' q) :: l) K = evMx true (.v (.int k (if q > p then q else p))) l K := Eq.trans rfl rfl
theorem v_mxf {l : List SV} : evMx false (.v (.int k p)) (.v (.int k' q) :: l) K = evMx false (.v (.int k (if q < p then q else p))) l K := Eq.trans rfl rfl
theorem v_slc {z a b n : Nat} {lo hi : Option SV} : slcK z (.row a b n z) lo hi K = evCut a b n z lo hi K := by simp only [slcK, true_and]
theorem v_slca {n z a b : Nat} {lo hi : Option SV} : slcaK n z (.ptr a b) m lo hi K = (objK m[a]? (fun ob => b + n * z ≤ ob.cells.length) ∧ evCut a b n z lo hi K) := Eq.trans rfl rfl
theorem v_slcs {s : ByteArray} {lo hi : Option SV} : slcsK (.v (.string s)) lo hi K = evBd s.size hi fun h => evBd 0 lo fun l => (l ≤ h ∧ h ≤ s.size) ∧ mwK (.v (.string (s.extract l h))) K := Eq.trans rfl rfl
theorem v_cut {a b n z : Nat} {lo hi : Option SV} : evCut a b n z lo hi K = evBd n hi fun h => evBd 0 lo fun l => (l ≤ h ∧ h ≤ n) ∧ (if l = 0 ∨ l < n then mwK (.row a (b + l * z) (h - l) z) K else K .emp) := Eq.trans rfl rfl
theorem v_bd0 {d : Nat} {K : Nat → Prop} : evBd d none K = K d := Eq.trans rfl rfl
theorem v_bd {d : Nat} {K : Nat → Prop} : evBd d (some (.v (.int k p))) K = (0 ≤ p ∧ K p.toNat) := Eq.trans rfl rfl
theorem v_store {sz a b : Nat} {cs : List SV} : storeK sz (.ptr a b) (some cs) m KM = objK m[a]? fun ob => (ob.own = true ∧ cs.length = sz ∧ b + sz ≤ ob.cells.length ∧ cs.all SV.one = true ∧ ob.isM = false) ∧ stK (.tup []) (m.set a ⟨true, over ob.cells b cs⟩) KM := Eq.trans rfl rfl
theorem v_app {sz n a b : Nat} {s : SV} {xs ys : List SV} : appK sz n s (some (a, xs)) (some (b, ys)) m KM = if b = 0 then capOk s ∧ KM s m else (grows m sz s ∧ xs.length = a * sz ∧ ys.length = b * sz ∧ 0 < b ∧ ys.all SV.one = true ∧ a + b ≤ maxLen ∧ (a + b) * n ≤ 140737488355328) ∧ stK (.row m.length 0 (a + b) sz) (kill m s ++ [⟨true, xs ++ ys⟩]) KM := Eq.trans rfl rfl
theorem v_apps {n a : Nat} {s : SV} {xs : List SV} {b : ByteArray} : appsK n s (some (a, xs)) (.v (.string b)) m KM = if b.size = 0 then capOk s ∧ KM s m else (grows m 1 s ∧ xs.length = a ∧ a + b.size ≤ maxLen ∧ (a + b.size) * n ≤ 140737488355328) ∧ stK (.row m.length 0 (a + b.size) 1) (kill m s ++ [⟨true, xs ++ bytesC b⟩]) KM := Eq.trans rfl rfl
theorem v_cpy {z a b n k : Nat} {ys : List SV} : cpyK z (.row a b n z) (some (k, ys)) m KM = objK m[a]? fun ob => (ob.own = true ∧ b + n * z ≤ ob.cells.length ∧ ys.length = k * z ∧ ys.all SV.one = true ∧ ob.isM = false) ∧ stK (.v (.int .i64 (min k n : Nat))) (m.set a ⟨true, over ob.cells b (ys.take (min k n * z))⟩) KM := by simp only [cpyK, true_and, stK]
theorem v_mkSl {z b : Nat} {zs : List SV} : mkSlK z b zs (.v (.int k p)) (.v (.int k' q)) m KM = ((0 ≤ p ∧ p ≤ q ∧ (b : Int) * q ≤ 281474976710656 ∧ q ≤ 9223372036854775807) ∧ stK (.row m.length 0 p.toNat z) (m ++ [⟨true, (List.replicate p.toNat zs).flatten⟩]) KM) := Eq.trans rfl rfl
theorem v_s2b {b : ByteArray} : s2bK (.v (.string b)) m KM = stK (.row m.length 0 b.size 1) (m ++ [⟨false, bytesC b⟩]) KM := Eq.trans rfl rfl
theorem co_v {a : Option Addr} {n c : Nat} : capOk (.v (.slice a n c)) = (n ≤ c) := Eq.trans rfl rfl
theorem co_row {a b c d : Nat} : capOk (.row a b c d) = True := Eq.trans rfl rfl
theorem co_emp : capOk .emp = True := Eq.trans rfl rfl
theorem co_z : capOk .zro = True := Eq.trans rfl rfl
theorem v_callb {f : FuncId} {fst l : List SV} : callK G (.bnd f fst) l m KM = entK (look f G) (fst ++ l) m KM := Eq.trans rfl rfl
theorem v_call {f : FuncId} {cap l : List SV} : callK G (.fn f cap) l m KM = entK (look f G) (l ++ cap) m KM := Eq.trans rfl rfl
theorem v_ent {f : FuncId} {q : Bool} {tr : Trans} {l : List SV} : entK (some ⟨f, q, tr⟩) l m KM = tr l m KM := Eq.trans rfl rfl
theorem v_look {f g : FuncId} {q : Bool} {tr : Trans} : look f (⟨g, q, tr⟩ :: G) = if g = f then some ⟨g, q, tr⟩ else look f G := Eq.trans rfl rfl
theorem v_binI {op : BinOp} : evBin op (.v (.int k p)) (.v (.int k' q)) K = evInt op k k' p q K := Eq.trans rfl rfl
theorem v_binS {op : BinOp} {a b : ByteArray} : evBin op (.v (.string a)) (.v (.string b)) K = evStr op a b K := Eq.trans rfl rfl
theorem i_add : evInt .add k k p q K = mwK (.v (.int k (k.wrap (p + q)))) K := by simp only [evInt, true_and, mwK]
theorem i_sub : evInt .sub k k p q K = mwK (.v (.int k (k.wrap (p - q)))) K := by simp only [evInt, true_and, mwK]
theorem i_mul : evInt .mul k k p q K = mwK (.v (.int k (k.wrap (p * q)))) K := by simp only [evInt, true_and, mwK]
theorem i_quo : evInt .quo k k p q K = (q ≠ 0 ∧ mwK (.v (.int k (k.wrap (p.tdiv q)))) K) := by simp only [evInt, true_and, mwK]
theorem i_rem : evInt .rem k k p q K = (q ≠ 0 ∧ mwK (.v (.int k (p.tmod q))) K) := by simp only [evInt, true_and, mwK]
theorem i_eql : evInt .eql k k p q K = K (.v (.bool (p == q))) := by simp only [evInt, true_and]
theorem i_neq : evInt .neq k k p q K = K (.v (.bool (p != q))) := by simp only [evInt, true_and]
theorem i_lss : evInt .lss k k p q K = K (.v (.bool (decide (p < q)))) := by simp only [evInt, true_and]
theorem i_leq : evInt .leq k k p q K = K (.v (.bool (decide (p ≤ q)))) := by simp only [evInt, true_and]
theorem i_gtr : evInt .gtr k k p q K = K (.v (.bool (decide (q < p)))) := by simp only [evInt, true_and, gt_iff_lt]
theorem i_geq : evInt .geq k k p q K = K (.v (.bool (decide (q ≤ p)))) := by simp only [evInt, true_and, ge_iff_le]
theorem i_and : evInt .and k k p q K = mwK (.v (.int k (k.wrap (BitVec.ofInt k.bits p &&& BitVec.ofInt k.bits q).toNat))) K := by simp only [evInt, true_and, mwK]
theorem i_or : evInt .or k k p q K = mwK (.v (.int k (k.wrap (BitVec.ofInt k.bits p ||| BitVec.ofInt k.bits q).toNat))) K := by simp only [evInt, true_and, mwK]
theorem i_xor : evInt .xor k k p q K = mwK (.v (.int k (k.wrap (BitVec.ofInt k.bits p ^^^ BitVec.ofInt k.bits q).toNat))) K := by simp only [evInt, true_and, mwK]
theorem i_shl : evInt .shl k k' p q K = (0 ≤ q ∧ K (.v (.int k (k.wrap (p * 2 ^ (min q.toNat k.bits)))))) := Eq.trans rfl rfl
theorem i_shr : evInt .shr k k' p q K = (0 ≤ q ∧ K (.v (.int k (p.fdiv (2 ^ (min q.toNat k.bits)))))) := Eq.trans rfl rfl
theorem t_add {a b : ByteArray} : evStr .add a b K = ((((a.size + b.size : Nat) : Int) ≤ 9223372036854775807) ∧ K (.v (.string (a ++ b)))) := Eq.trans rfl rfl
theorem t_eql {a b : ByteArray} : evStr .eql a b K = K (.v (.bool (a.toList == b.toList))) := Eq.trans rfl rfl
theorem t_neq {a b : ByteArray} : evStr .neq a b K = K (.v (.bool (!(a.toList == b.toList)))) := Eq.trans rfl rfl
theorem t_lss {a b : ByteArray} : evStr .lss a b K = K (.v (.bool (Op.bytesLess a.toList b.toList))) := Eq.trans rfl rfl
theorem v_eqb {a b : Bool} : evEqb false (.v (.bool a)) (.v (.bool b)) K = K (.v (.bool (a == b))) := Eq.trans rfl rfl
theorem v_neb {a b : Bool} : evEqb true (.v (.bool a)) (.v (.bool b)) K = K (.v (.bool (!(a == b)))) := Eq.trans rfl rfl
theorem v_not {a : Bool} : evUn .not (.v (.bool a)) K = K (.v (.bool !a)) := Eq.trans rfl rfl
theorem v_compl : evUn .xor (.v (.int k p)) K = mwK (.v (.int k (k.wrap (BitVec.ofInt k.bits (if k.signed then -1 else k.max) ^^^ BitVec.ofInt k.bits p).toNat))) K := Eq.trans rfl rfl
theorem v_neg : evUn .neg (.v (.int k p)) K = mwK (.v (.int k (k.wrap (0 - p)))) K := Eq.trans rfl rfl
theorem n_pn {n : Bool} {a b : Nat} : evEqn n 1 (.ptr a b) (.v (.pointer none)) K = K (.v (.bool n)) := by simp [evEqn, isNil, sort]
theorem n_nn {n : Bool} : evEqn n 1 (.v (.pointer none)) (.v (.pointer none)) K = K (.v (.bool !n)) := by cases n <;> simp [evEqn, isNil, sort]
theorem n_sn {n : Bool} {a b c d x y : Nat} : evEqn n 2 (.row a b c d) (.v (.slice none x y)) K = K (.v (.bool n)) := by simp [evEqn, isNil, sort]
theorem n_en {n : Bool} {x y : Nat} : evEqn n 2 .emp (.v (.slice none x y)) K = K (.v (.bool n)) := by simp [evEqn, isNil, sort]
theorem n_0n {n : Bool} {a b x y : Nat} : evEqn n 2 (.v (.slice none a b)) (.v (.slice none x y)) K = K (.v (.bool !n)) := by cases n <;> simp [evEqn, isNil, sort]
theorem n_vn {n : Bool} {a : Option Addr} {c d x y : Nat} : evEqn n 2 (.v (.slice a c d)) (.v (.slice none x y)) K = K (.v (.bool (bif n then !a.isNone else a.isNone))) := by cases a <;> cases n <;> simp [evEqn, isNil, sort]
theorem n_qn {n : Bool} {a : Option Addr} : evEqn n 1 (.v (.pointer a)) (.v (.pointer none)) K = K (.v (.bool (bif n then !a.isNone else a.isNone))) := by cases a <;> cases n <;> simp [evEqn, isNil, sort]
theorem n_fn {n : Bool} {f : FuncId} {c : List SV} : evEqn n 3 (.fn f c) (.v .nilFunc) K = K (.v (.bool n)) := by simp [evEqn, isNil, sort]
theorem c_v {x : Value} (h : x.oneCell' = true) : (SV.v x).cells = some [.v x] := by
  cases x <;> first | rfl | (simp [Value.oneCell'] at h)
theorem c_int : (SV.v (.int k p)).cells = some [.v (.int k p)] := Eq.trans rfl rfl
theorem c_bool {b : Bool} : (SV.v (.bool b)).cells = some [.v (.bool b)] := Eq.trans rfl rfl
theorem c_str {b : ByteArray} : (SV.v (.string b)).cells = some [.v (.string b)] := Eq.trans rfl rfl
theorem c_sl0 {x : Option Addr} {a b : Nat} : (SV.v (.slice x a b)).cells = some [.v (.slice x a b)] := Eq.trans rfl rfl
theorem c_p0 : (SV.v (.pointer none)).cells = some [.v (.pointer none)] := Eq.trans rfl rfl
theorem c_p {x : Option Addr} : (SV.v (.pointer x)).cells = some [.v (.pointer x)] := Eq.trans rfl rfl
theorem c_ptr {a b : Nat} : (SV.ptr a b).cells = some [.ptr a b] := Eq.trans rfl rfl
theorem c_row {a b c d : Nat} : (SV.row a b c d).cells = some [.row a b c d] := Eq.trans rfl rfl
theorem c_emp : SV.emp.cells = some [.emp] := Eq.trans rfl rfl
theorem c_z : SV.zro.cells = some [.zro] := Eq.trans rfl rfl
theorem c_mp {k : Nat} : (SV.mp k).cells = some [.mp k] := Eq.trans rfl rfl
theorem c_bnd {f : FuncId} {c : List SV} : (SV.bnd f c).cells = some [.bnd f c] := Eq.trans rfl rfl
theorem c_fn {f : FuncId} {c : List SV} : (SV.fn f c).cells = some [.fn f c] := Eq.trans rfl rfl
theorem c_agg {cs : List SV} : (SV.agg cs).cells = some cs := Eq.trans rfl rfl
def fillStep (l : List SV) (o z : Nat) (cs : Option (List SV)) (rest : List (Nat × Nat × SV)) : Option (List SV) :=
  match cs with
  | some cs => if cs.length = z ∧ o + z ≤ l.length then fillS (over l o cs) rest else none
  | none => none
theorem f_0 {l : List SV} : fillS l [] = some l := Eq.trans rfl rfl
theorem f_s {l : List SV} {o z : Nat} {s : SV} {rest : List (Nat × Nat × SV)} : fillS l ((o, z, s) :: rest) = fillStep l o z s.cells rest := by
  simp only [fillS, fillStep]
  rfl
theorem f_c {l cs : List SV} {o z : Nat} {rest : List (Nat × Nat × SV)} : fillStep l o z (some cs) rest = if cs.length = z ∧ o + z ≤ l.length then fillS (over l o cs) rest else none := Eq.trans rfl rfl
theorem o_over {a : SV} {l cs : List SV} {o : Nat} : over (a :: l) o cs = (a :: l).take o ++ cs ++ (a :: l).drop (o + cs.length) := Eq.trans rfl rfl
theorem o_over0 {cs : List SV} {o : Nat} : over [] o cs = cs := by simp [over]
def slK (o : Option SObj) (b n z : Nat) : Option (Nat × List SV) := match o with | some ob => if b + n * z ≤ ob.cells.length then some (n, (ob.cells.drop b).take (n * z)) else none | none => none
theorem sl_row [Inp] {a b n z : Nat} : slOf m z (.row a b n z) = slK m[a]? b n z := by unfold slOf slK; simp only [if_true]; rfl
theorem sl_k {o : SObj} {b n z : Nat} : slK (some o) b n z = if b + n * z ≤ o.cells.length then some (n, (o.cells.drop b).take (n * z)) else none := Eq.trans rfl rfl
theorem sl_0 [Inp] {c z : Nat} : slOf m z (.v (.slice none 0 c)) = some (0, []) := by simp [slOf, inpL]
theorem sl_z [Inp] {z : Nat} : slOf m z .zro = some (0, []) := Eq.trans rfl rfl
theorem k_z : kill m .zro = m := Eq.trans rfl rfl
theorem g_z {z : Nat} : grows m z .zro = True := Eq.trans rfl rfl
theorem sl_e [Inp] {z : Nat} : slOf m z .emp = some (0, []) := Eq.trans rfl rfl
theorem sl_v [Inp] {a : Option Addr} {n c z : Nat} : slOf m z (.v (.slice a n c)) = (inpL a (n * z)).map fun us => (n, us.map .v) := Eq.trans rfl rfl
theorem k_row {a b n z : Nat} : kill m (.row a b n z) = m.set a ⟨false, []⟩ := Eq.trans rfl rfl
theorem k_v {x : Value} : kill m (.v x) = m := Eq.trans rfl rfl
theorem g_0 {z n c : Nat} {a : Option Addr} : grows m z (.v (.slice a n c)) = (n = c) := Eq.trans rfl rfl
theorem g_row {z a b n : Nat} : grows m z (.row a b n z) = objK m[a]? fun ob => (ob.own = true ∧ b + n * z ≤ ob.cells.length) ∧ ob.isM = false := by
  simp only [grows, objK, true_and]
  rfl
theorem one_v {x : Value} : (SV.v x).one = x.oneCell' := Eq.trans rfl rfl
theorem one_ptr {a b : Nat} : (SV.ptr a b).one = true := Eq.trans rfl rfl
theorem one_row {a b c d : Nat} : (SV.row a b c d).one = true := Eq.trans rfl rfl
theorem one_emp : SV.emp.one = true := Eq.trans rfl rfl
theorem one_z : SV.zro.one = true := Eq.trans rfl rfl
theorem one_mp {k : Nat} : (SV.mp k).one = true := Eq.trans rfl rfl
theorem im_no {o : Bool} {cs : List SV} : (⟨o, cs⟩ : SObj).isM = false := Eq.trans rfl rfl
theorem one_bnd {f : FuncId} {c : List SV} : (SV.bnd f c).one = true := Eq.trans rfl rfl
theorem one_fn {f : FuncId} {c : List SV} : (SV.fn f c).one = true := Eq.trans rfl rfl
theorem oc_int : (Value.int k p).oneCell' = true := Eq.trans rfl rfl
theorem oc_bool {b : Bool} : (Value.bool b).oneCell' = true := Eq.trans rfl rfl
theorem oc_str {b : ByteArray} : (Value.string b).oneCell' = true := Eq.trans rfl rfl
theorem oc_sl {a : Option Addr} {b c : Nat} : (Value.slice a b c).oneCell' = true := Eq.trans rfl rfl
theorem oc_p {a : Option Addr} : (Value.pointer a).oneCell' = true := Eq.trans rfl rfl
theorem bv_c {l : List UInt8} : bytesV (l.map fun x => .v (.int .u8 x.toNat)) = some l := by
  induction l with
  | nil => rfl
  | cons x l ih => simp only [List.map_cons, bytesV, ih, Option.map_some]; simp
theorem r_n : EndsX .normal = True := Eq.trans rfl rfl
theorem r_r : EndsX .ret = True := Eq.trans rfl rfl
theorem r_e {i : Nat} : EndsX (.exit i) = False := Eq.trans rfl rfl
theorem r_0 {l : List XR} : evR l e m K = evRs l e m fun ss => K (pack ss) := Eq.trans rfl rfl
theorem r_1 {K : List SV → Prop} : evRs [] e m K = K [] := Eq.trans rfl rfl
theorem r_2 {x : XR} {l : List XR} {K : List SV → Prop} : evRs (x :: l) e m K = evR1 x e m fun s => evRs l e m fun ss => K (s :: ss) := Eq.trans rfl rfl
theorem r_t {t : Nat} : evR1 (.tmp t) e m K = mwK (e t) K := Eq.trans rfl rfl
theorem r_c {t : Nat} {z : Option Nat} : evR1 (.cell t z) e m K = resK (e t) z m K := by unfold evR1 resK objK; rfl
theorem r_ck {z : Option Nat} {a b : Nat} : resK (.ptr a b) z m K = objK m[a]? fun ob => evPart ob.cells b z K := Eq.trans rfl rfl
theorem r_p1 {s : SV} : pack [s] = s := Eq.trans rfl rfl
theorem r_p0 : pack [] = .tup [] := Eq.trans rfl rfl
theorem r_p2 {s t : SV} {l : List SV} : pack (s :: t :: l) = .tup (s :: t :: l) := Eq.trans rfl rfl
theorem p_v {x : Value} : (SV.v x).plain = true := Eq.trans rfl rfl
theorem p_agg {cs : List SV} : (SV.agg cs).plain = plainL cs := by simp only [SV.plain]
theorem p_tup {cs : List SV} : (SV.tup cs).plain = plainL cs := by simp only [SV.plain]
theorem p_any : SV.any.plain = true := by simp only [SV.plain]
theorem p_z : SV.zro.plain = true := by simp only [SV.plain]
theorem p_0 : plainL [] = true := by simp only [plainL]
theorem p_c {c : SV} {cs : List SV} : plainL (c :: cs) = (c.plain && plainL cs) := by simp only [plainL]
theorem q_ofA {x : XA} : quiet G e (.ofA x) = true := Eq.trans rfl rfl
theorem q_box {x : XO} : quiet G e (.box x) = true := Eq.trans rfl rfl
theorem q_alloc {z : List SV} : quiet G e (.alloc z) = true := Eq.trans rfl rfl
theorem q_build {z : List SV} {ps : List (Nat × Nat × XO)} : quiet G e (.build z ps) = true := Eq.trans rfl rfl
theorem q_mkMap {kt : KT} : quiet G e (.mkMap kt) = true := Eq.trans rfl rfl
theorem q_mapUpd {kt : KT} {x y v : XO} : quiet G e (.mapUpd kt x y v) = false := Eq.trans rfl rfl
theorem q_mapEnt {kt : KT} {z : SV} {x y : XO} : quiet G e (.mapEnt kt z x y) = false := Eq.trans rfl rfl
theorem q_entSt {x y v : XO} : quiet G e (.entSt x y v) = false := Eq.trans rfl rfl
theorem q_apps {n : Nat} {x y : XO} : quiet G e (.apps n x y) = false := Eq.trans rfl rfl
theorem q_cpy {n : Nat} {x y : XO} : quiet G e (.cpy n x y) = false := Eq.trans rfl rfl
theorem q_mkSl {n b : Nat} {z : List SV} {x y : XO} : quiet G e (.mkSl n b z x y) = true := Eq.trans rfl rfl
theorem q_s2b {x : XO} : quiet G e (.s2b x) = true := Eq.trans rfl rfl
theorem q_buildSl {sz n : Nat} {z : List SV} {ps : List (Nat × Nat × XO)} : quiet G e (.buildSl sz n z ps) = true := Eq.trans rfl rfl
def quietK (G : List CEntry) (f : SV) : Bool := match f with | .fn f _ | .bnd f _ => (match look f G with | some c => c.q | none => false) | _ => false
def quietE (c : Option CEntry) : Bool := match c with | some c => c.q | none => false
theorem q_call {f : XO} {l : List XO} : quiet G e (.call f l) = quietK G (f.get e) := by unfold quiet quietK; rfl
theorem q_bnd {f : FuncId} {c : List SV} : quietK G (.bnd f c) = quietE (look f G) := by unfold quietK quietE; rfl
theorem q_fn {f : FuncId} {c : List SV} : quietK G (.fn f c) = quietE (look f G) := by unfold quietK quietE; rfl
theorem q_e {f : FuncId} {q : Bool} {tr : Trans} : quietE (some ⟨f, q, tr⟩) = q := Eq.trans rfl rfl
end
theorem z_0 : ((0 : Nat) : Int) = 0 := Eq.trans rfl rfl
theorem z_1 : ((1 : Nat) : Int) = 1 := Eq.trans rfl rfl
theorem z_2 : ((2 : Nat) : Int) = 2 := Eq.trans rfl rfl
theorem z_3 : ((3 : Nat) : Int) = 3 := Eq.trans rfl rfl
theorem z_4 : ((4 : Nat) : Int) = 4 := Eq.trans rfl rfl
theorem z_5 : ((5 : Nat) : Int) = 5 := Eq.trans rfl rfl
theorem z_6 : ((6 : Nat) : Int) = 6 := Eq.trans rfl rfl
theorem z_7 : ((7 : Nat) : Int) = 7 := Eq.trans rfl rfl
theorem z_8 : ((8 : Nat) : Int) = 8 := Eq.trans rfl rfl
theorem z_9 : ((9 : Nat) : Int) = 9 := Eq.trans rfl rfl
theorem z_10 : ((10 : Nat) : Int) = 10 := Eq.trans rfl rfl
theorem z_11 : ((11 : Nat) : Int) = 11 := Eq.trans rfl rfl
theorem z_12 : ((12 : Nat) : Int) = 12 := Eq.trans rfl rfl
theorem w_64 {x : Int} (h1 : -9223372036854775808 ≤ x) (h2 : x ≤ 9223372036854775807) : IntKind.i64.wrap x = x := IntWalk.i64_in x ⟨h1, h2⟩
end Go.Proofs.Ytcejgadbpahbmaa.Sz
end
section
namespace Go.Proofs.Ytcejgadbpahbmaa.Sz
open Go.RowKit
set_option maxRecDepth 20000
theorem PRE : (type_of% @e_get) ∧ (type_of% @e_put) ∧ (type_of% @b_z) ∧ (type_of% @q_z) ∧ (type_of% @xb0) ∧ (type_of% @xq0) ∧ (type_of% @xb1) ∧ (type_of% @xq1) ∧ (type_of% @xb2) ∧ (type_of% @xq2) ∧ (type_of% @xb3) ∧ (type_of% @xq3) ∧ (type_of% @xb4) ∧ (type_of% @xq4) ∧ (type_of% @xb5) ∧ (type_of% @xq5) ∧ (type_of% @xb6) ∧ (type_of% @xq6) ∧ (type_of% @xb7) ∧ (type_of% @xq7) ∧ (type_of% @xb8) ∧ (type_of% @xq8) ∧ (type_of% @xb9) ∧ (type_of% @xq9) ∧ (type_of% @xba) ∧ (type_of% @xqa) ∧ (type_of% @xbb) ∧ (type_of% @xqb) ∧ (type_of% @xbc) ∧ (type_of% @xqc) ∧ (type_of% @xbd) ∧ (type_of% @xqd) ∧ (type_of% @xbe) ∧ (type_of% @xqe) ∧ (type_of% @xbf) ∧ (type_of% @xqf) ∧ (type_of% @s_skip) ∧ (type_of% @s_tree) ∧ (type_of% @s_seq) ∧ (type_of% @s_cond) ∧ (type_of% @s_block) ∧ (type_of% @s_loop) ∧ (type_of% @s_exit) ∧ (type_of% @s_ret) ∧ (type_of% @s_then_n) ∧ (type_of% @s_then_e) ∧ (type_of% @s_then_r) ∧ (type_of% @s_bl_n) ∧ (type_of% @s_bl_r) ∧ (type_of% @s_bl_e) ∧ (type_of% @s_unr) ∧ (type_of% @s_done) ∧ (type_of% @s_tseq) ∧ (type_of% @s_take) ∧ (type_of% @s_act) ∧ (type_of% @s_alt0) ∧ (type_of% @s_altt) ∧ (type_of% @s_altf) ∧ (type_of% @s_op) ∧ (type_of% @s_opg) ∧ (type_of% @v_mw) ∧ (type_of% @s_pa) ∧ (type_of% @s_pn) ∧ (type_of% @s_get_t) ∧ (type_of% @s_get_c) ∧ (type_of% @s_ofA) ∧ (type_of% @s_box) ∧ (type_of% @s_alloc) ∧ (type_of% @s_build) ∧ (type_of% @s_buildSl) ∧ (type_of% @s_store) ∧ (type_of% @s_app) ∧ (type_of% @s_call) ∧ (type_of% @s_mv) ∧ (type_of% @s_pick) ∧ (type_of% @s_bin) ∧ (type_of% @s_eqb) ∧ (type_of% @s_eqn) ∧ (type_of% @s_un) ∧ (type_of% @s_conv) ∧ (type_of% @s_field) ∧ (type_of% @s_faddr) ∧ (type_of% @s_iarr) ∧ (type_of% @s_isl) ∧ (type_of% @s_idx) ∧ (type_of% @s_ext) ∧ (type_of% @s_load) ∧ (type_of% @s_len) ∧ (type_of% @s_lens) ∧ (type_of% @s_nilc) ∧ (type_of% @s_mkfn) ∧ (type_of% @s_mkbnd) ∧ (type_of% @s_eqs) ∧ (type_of% @s_mx) ∧ (type_of% @s_slc) ∧ (type_of% @s_slca) ∧ (type_of% @s_slcs) ∧ (type_of% @v_part1) ∧ (type_of% @v_partn) ∧ (type_of% @v_cs0) ∧ (type_of% @v_csi) ∧ (type_of% @v_csb) ∧ (type_of% @v_css) ∧ (type_of% @v_mx0) ∧ (type_of% @v_mxt) ∧ (type_of% @v_mxf) ∧ (type_of% @v_cut) ∧ (type_of% @v_bd0) ∧ (type_of% @v_bd) ∧ (type_of% @i_add) ∧ (type_of% @i_sub) ∧ (type_of% @i_mul) ∧ (type_of% @i_quo) ∧ (type_of% @i_rem) ∧ (type_of% @i_eql) ∧ (type_of% @i_neq) ∧ (type_of% @i_lss) ∧ (type_of% @i_leq) ∧ (type_of% @i_gtr) ∧ (type_of% @i_geq) ∧ (type_of% @i_and) ∧ (type_of% @i_or) ∧ (type_of% @i_xor) ∧ (type_of% @i_shl) ∧ (type_of% @i_shr) ∧ (type_of% @t_add) ∧ (type_of% @t_eql) ∧ (type_of% @t_neq) ∧ (type_of% @t_lss) ∧ (type_of% @r_0) ∧ (type_of% @r_1) ∧ (type_of% @r_2) ∧ (type_of% @r_t) ∧ (type_of% @r_c) ∧ (type_of% @s_apps) ∧ (type_of% @s_cpy) ∧ (type_of% @s_mkSl) ∧ (type_of% @s_s2b) ∧ (type_of% @s_slc3) ∧ (type_of% @s_sidx) ∧ (type_of% @s_b2s) ∧ (type_of% @s_strc) ∧ (type_of% @s_capc) ∧ (type_of% @s_lenm) ∧ (type_of% @s_look) ∧ (type_of% @s_mkMap) ∧ (type_of% @s_mapUpd) ∧ (type_of% @s_mapEnt) ∧ (type_of% @s_entSt) :=
  ⟨@e_get, @e_put, @b_z, @q_z, @xb0, @xq0, @xb1, @xq1, @xb2, @xq2, @xb3, @xq3, @xb4, @xq4, @xb5, @xq5, @xb6, @xq6, @xb7, @xq7, @xb8, @xq8, @xb9, @xq9, @xba, @xqa, @xbb, @xqb, @xbc, @xqc, @xbd, @xqd, @xbe, @xqe, @xbf, @xqf, @s_skip, @s_tree, @s_seq, @s_cond, @s_block, @s_loop, @s_exit, @s_ret, @s_then_n, @s_then_e, @s_then_r, @s_bl_n, @s_bl_r, @s_bl_e, @s_unr, @s_done, @s_tseq, @s_take, @s_act, @s_alt0, @s_altt, @s_altf, @s_op, @s_opg, @v_mw, @s_pa, @s_pn, @s_get_t, @s_get_c, @s_ofA, @s_box, @s_alloc, @s_build, @s_buildSl, @s_store, @s_app, @s_call, @s_mv, @s_pick, @s_bin, @s_eqb, @s_eqn, @s_un, @s_conv, @s_field, @s_faddr, @s_iarr, @s_isl, @s_idx, @s_ext, @s_load, @s_len, @s_lens, @s_nilc, @s_mkfn, @s_mkbnd, @s_eqs, @s_mx, @s_slc, @s_slca, @s_slcs, @v_part1, @v_partn, @v_cs0, @v_csi, @v_csb, @v_css, @v_mx0, @v_mxt, @v_mxf, @v_cut, @v_bd0, @v_bd, @i_add, @i_sub, @i_mul, @i_quo, @i_rem, @i_eql, @i_neq, @i_lss, @i_leq, @i_gtr, @i_geq, @i_and, @i_or, @i_xor, @i_shl, @i_shr, @t_add, @t_eql, @t_neq, @t_lss, @r_0, @r_1, @r_2, @r_t, @r_c, @s_apps, @s_cpy, @s_mkSl, @s_s2b, @s_slc3, @s_sidx, @s_b2s, @s_strc, @s_capc, @s_lenm, @s_look, @s_mkMap, @s_mapUpd, @s_mapEnt, @s_entSt⟩
theorem POST : (type_of% @e_put) ∧ (type_of% @e_nil) ∧ (type_of% @e_cons) ∧ (type_of% @a_z) ∧ (type_of% @v_en) ∧ (type_of% @xa0) ∧ (type_of% @xp0) ∧ (type_of% @xa1) ∧ (type_of% @xp1) ∧ (type_of% @xa2) ∧ (type_of% @xp2) ∧ (type_of% @xa3) ∧ (type_of% @xp3) ∧ (type_of% @xa4) ∧ (type_of% @xp4) ∧ (type_of% @xa5) ∧ (type_of% @xp5) ∧ (type_of% @xa6) ∧ (type_of% @xp6) ∧ (type_of% @xa7) ∧ (type_of% @xp7) ∧ (type_of% @xa8) ∧ (type_of% @xp8) ∧ (type_of% @xa9) ∧ (type_of% @xp9) ∧ (type_of% @xaa) ∧ (type_of% @xpa) ∧ (type_of% @xab) ∧ (type_of% @xpb) ∧ (type_of% @xac) ∧ (type_of% @xpc) ∧ (type_of% @xad) ∧ (type_of% @xpd) ∧ (type_of% @xae) ∧ (type_of% @xpe) ∧ (type_of% @xaf) ∧ (type_of% @xpf) ∧ (type_of% @s_upd_t) ∧ (type_of% @s_upd_c) ∧ (type_of% @v_mv) ∧ (type_of% @n_w) ∧ (type_of% @v_st) ∧ (type_of% @s_put_s) ∧ (type_of% @s_put_n) ∧ (type_of% @s_put) ∧ (type_of% @s_sl0) ∧ (type_of% @s_sl) ∧ (type_of% @s_as0) ∧ (type_of% @s_as) ∧ (type_of% @v_cond) ∧ (type_of% @v_guard) ∧ (type_of% @v_guard0) ∧ (type_of% @v_pick) ∧ (type_of% @v_conv) ∧ (type_of% @v_field) ∧ (type_of% @v_some) ∧ (type_of% @v_obj) ∧ (type_of% @v_cells) ∧ (type_of% @v_faddr) ∧ (type_of% @v_iarr) ∧ (type_of% @v_isl) ∧ (type_of% @v_idx1) ∧ (type_of% @v_idxn) ∧ (type_of% @v_ext) ∧ (type_of% @v_load) ∧ (type_of% @v_len) ∧ (type_of% @v_lene) ∧ (type_of% @v_len0) ∧ (type_of% @v_lens) ∧ (type_of% @v_nilc) ∧ (type_of% @v_nilcf) ∧ (type_of% @v_nilcb) ∧ (type_of% @v_eqs) ∧ (type_of% @v_mx) ∧ (type_of% @v_slc) ∧ (type_of% @v_slca) ∧ (type_of% @v_slcs) ∧ (type_of% @v_store) ∧ (type_of% @v_app) ∧ (type_of% @v_call) ∧ (type_of% @v_callb) ∧ (type_of% @v_ent) ∧ (type_of% @v_look) ∧ (type_of% @v_binI) ∧ (type_of% @v_binS) ∧ (type_of% @v_eqb) ∧ (type_of% @v_neb) ∧ (type_of% @v_not) ∧ (type_of% @v_neg) ∧ (type_of% @v_compl) ∧ (type_of% @n_pn) ∧ (type_of% @n_nn) ∧ (type_of% @n_sn) ∧ (type_of% @n_en) ∧ (type_of% @n_0n) ∧ (type_of% @n_fn) ∧ (type_of% @c_v) ∧ (type_of% @c_int) ∧ (type_of% @c_bool) ∧ (type_of% @c_str) ∧ (type_of% @c_sl0) ∧ (type_of% @c_p0) ∧ (type_of% @c_ptr) ∧ (type_of% @c_row) ∧ (type_of% @c_emp) ∧ (type_of% @c_fn) ∧ (type_of% @c_bnd) ∧ (type_of% @c_agg) ∧ (type_of% @f_0) ∧ (type_of% @f_s) ∧ (type_of% @f_c) ∧ (type_of% @o_over) ∧ (type_of% @sl_row) ∧ (type_of% @sl_k) ∧ (type_of% @sl_0) ∧ (type_of% @sl_e) ∧ (type_of% @k_row) ∧ (type_of% @k_v) ∧ (type_of% @g_0) ∧ (type_of% @g_row) ∧ (type_of% @one_v) ∧ (type_of% @one_ptr) ∧ (type_of% @one_row) ∧ (type_of% @one_emp) ∧ (type_of% @one_fn) ∧ (type_of% @one_bnd) ∧ (type_of% @oc_int) ∧ (type_of% @oc_bool) ∧ (type_of% @oc_str) ∧ (type_of% @oc_sl) ∧ (type_of% @oc_p) ∧ (type_of% @r_n) ∧ (type_of% @r_r) ∧ (type_of% @r_e) ∧ (type_of% @r_ck) ∧ (type_of% @r_p1) ∧ (type_of% @r_p0) ∧ (type_of% @r_p2) ∧ (type_of% @p_v) ∧ (type_of% @p_agg) ∧ (type_of% @p_tup) ∧ (type_of% @p_any) ∧ (type_of% @p_0) ∧ (type_of% @p_c) ∧ (type_of% @q_ofA) ∧ (type_of% @q_box) ∧ (type_of% @q_alloc) ∧ (type_of% @q_build) ∧ (type_of% @q_buildSl) ∧ (type_of% @q_call) ∧ (type_of% @q_fn) ∧ (type_of% @q_bnd) ∧ (type_of% @q_e) ∧ (type_of% @z_0) ∧ (type_of% @z_1) ∧ (type_of% @z_2) ∧ (type_of% @z_3) ∧ (type_of% @z_4) ∧ (type_of% @z_5) ∧ (type_of% @z_6) ∧ (type_of% @z_7) ∧ (type_of% @z_8) ∧ (type_of% @z_9) ∧ (type_of% @z_10) ∧ (type_of% @z_11) ∧ (type_of% @z_12) ∧ (type_of% @v_faddrp) ∧ (type_of% @v_iarrp) ∧ (type_of% @v_islp) ∧ (type_of% @v_loadp1) ∧ (type_of% @v_loadpn) ∧ (type_of% @v_inp1) ∧ (type_of% @v_inpn) ∧ (type_of% @v_nilcp) ∧ (type_of% @i_plus) ∧ (type_of% @v_slcp) ∧ (type_of% @v_slc3) ∧ (type_of% @v_slc3p) ∧ (type_of% @v_sidx) ∧ (type_of% @v_strc) ∧ (type_of% @v_capc) ∧ (type_of% @v_b2s) ∧ (type_of% @v_str) ∧ (type_of% @v_apps) ∧ (type_of% @v_cpy) ∧ (type_of% @v_mkSl) ∧ (type_of% @v_s2b) ∧ (type_of% @co_v) ∧ (type_of% @co_row) ∧ (type_of% @co_emp) ∧ (type_of% @c_p) ∧ (type_of% @sl_v) ∧ (type_of% @q_apps) ∧ (type_of% @q_cpy) ∧ (type_of% @q_mkSl) ∧ (type_of% @q_s2b) ∧ (type_of% @o_over0) ∧ (type_of% @bv_c) ∧ (type_of% @n_vn) ∧ (type_of% @n_qn) ∧ (type_of% @v_lenz) ∧ (type_of% @v_slcz) ∧ (type_of% @v_slc3z) ∧ (type_of% @v_ln) ∧ (type_of% @v_lkm) ∧ (type_of% @v_any) ∧ (type_of% @v_fnd) ∧ (type_of% @v_fnd0) ∧ (type_of% @v_upd) ∧ (type_of% @v_mpe) ∧ (type_of% @v_ents) ∧ (type_of% @mo_mp) ∧ (type_of% @mo_0) ∧ (type_of% @mo_k) ∧ (type_of% @lo_mp) ∧ (type_of% @lo_0) ∧ (type_of% @lo_k) ∧ (type_of% @aa_k) ∧ (type_of% @aa_m) ∧ (type_of% @ik_i) ∧ (type_of% @ik_s) ∧ (type_of% @ik_b) ∧ (type_of% @lr_t) ∧ (type_of% @lr_f) ∧ (type_of% @co_z) ∧ (type_of% @c_z) ∧ (type_of% @c_mp) ∧ (type_of% @sl_z) ∧ (type_of% @k_z) ∧ (type_of% @g_z) ∧ (type_of% @one_z) ∧ (type_of% @one_mp) ∧ (type_of% @im_no) ∧ (type_of% @p_z) ∧ (type_of% @q_mkMap) ∧ (type_of% @q_mapUpd) ∧ (type_of% @q_mapEnt) ∧ (type_of% @q_entSt) :=
  ⟨@e_put, @e_nil, @e_cons, @a_z, @v_en, @xa0, @xp0, @xa1, @xp1, @xa2, @xp2, @xa3, @xp3, @xa4, @xp4, @xa5, @xp5, @xa6, @xp6, @xa7, @xp7, @xa8, @xp8, @xa9, @xp9, @xaa, @xpa, @xab, @xpb, @xac, @xpc, @xad, @xpd, @xae, @xpe, @xaf, @xpf, @s_upd_t, @s_upd_c, @v_mv, @n_w, @v_st, @s_put_s, @s_put_n, @s_put, @s_sl0, @s_sl, @s_as0, @s_as, @v_cond, @v_guard, @v_guard0, @v_pick, @v_conv, @v_field, @v_some, @v_obj, @v_cells, @v_faddr, @v_iarr, @v_isl, @v_idx1, @v_idxn, @v_ext, @v_load, @v_len, @v_lene, @v_len0, @v_lens, @v_nilc, @v_nilcf, @v_nilcb, @v_eqs, @v_mx, @v_slc, @v_slca, @v_slcs, @v_store, @v_app, @v_call, @v_callb, @v_ent, @v_look, @v_binI, @v_binS, @v_eqb, @v_neb, @v_not, @v_neg, @v_compl, @n_pn, @n_nn, @n_sn, @n_en, @n_0n, @n_fn, @c_v, @c_int, @c_bool, @c_str, @c_sl0, @c_p0, @c_ptr, @c_row, @c_emp, @c_fn, @c_bnd, @c_agg, @f_0, @f_s, @f_c, @o_over, @sl_row, @sl_k, @sl_0, @sl_e, @k_row, @k_v, @g_0, @g_row, @one_v, @one_ptr, @one_row, @one_emp, @one_fn, @one_bnd, @oc_int, @oc_bool, @oc_str, @oc_sl, @oc_p, @r_n, @r_r, @r_e, @r_ck, @r_p1, @r_p0, @r_p2, @p_v, @p_agg, @p_tup, @p_any, @p_0, @p_c, @q_ofA, @q_box, @q_alloc, @q_build, @q_buildSl, @q_call, @q_fn, @q_bnd, @q_e, @z_0, @z_1, @z_2, @z_3, @z_4, @z_5, @z_6, @z_7, @z_8, @z_9, @z_10, @z_11, @z_12, @v_faddrp, @v_iarrp, @v_islp, @v_loadp1, @v_loadpn, @v_inp1, @v_inpn, @v_nilcp, @i_plus, @v_slcp, @v_slc3, @v_slc3p, @v_sidx, @v_strc, @v_capc, @v_b2s, @v_str, @v_apps, @v_cpy, @v_mkSl, @v_s2b, @co_v, @co_row, @co_emp, @c_p, @sl_v, @q_apps, @q_cpy, @q_mkSl, @q_s2b, @o_over0, @bv_c, @n_vn, @n_qn, @v_lenz, @v_slcz, @v_slc3z, @v_ln, @v_lkm, @v_any, @v_fnd, @v_fnd0, @v_upd, @v_mpe, @v_ents, @mo_mp, @mo_0, @mo_k, @lo_mp, @lo_0, @lo_k, @aa_k, @aa_m, @ik_i, @ik_s, @ik_b, @lr_t, @lr_f, @co_z, @c_z, @c_mp, @sl_z, @k_z, @g_z, @one_z, @one_mp, @im_no, @p_z, @q_mkMap, @q_mapUpd, @q_mapEnt, @q_entSt⟩
end Go.Proofs.Ytcejgadbpahbmaa.Sz
end
section
namespace Go.Proofs.Ytcejgadbpahbmaa.Sz
open Go.RowKit
abbrev inpOf (W : World) : Inp := ⟨W.cell?, 0⟩
theorem St.inpOf (W : World) : @St (inpOf W) (fun k => W.heap.size ≤ k) W [] [] W :=
  @St.mk (Sz.inpOf W) _ _ _ _ _ (Low.refl _ _) (fun _ h => h) (fun a u h => ⟨by have := cell_lt (w0 := W) (a := a) (u := u) h; omega, h⟩) rfl (fun k l o h => by simp at h) (fun k k' l l' o o' h => by simp at h) ⟨fun _ => [], fun k l o h => by simp at h, by simp, by simp, by simp⟩
theorem mapM_some {α β : Type} {f : α → Option β} : ∀ {l : List α} {us : List β}, us.length = l.length → (∀ (i : Nat) (x : α) (u : β), l[i]? = some x → us[i]? = some u → f x = some u) → l.mapM f = some us
  | [], us, h, _ => by
    obtain rfl := List.length_eq_zero_iff.1 (by simpa using h)
    rfl
  | x :: l, [], h, _ => by simp at h
  | x :: l, u :: us, h, hf => by
    rw [List.mapM_cons]
    have h1 := hf 0 x u rfl rfl
    have h2 := mapM_some (l := l) (us := us) (by simpa using h) (fun i y v hy hv => hf (i + 1) y v (by simpa using hy) (by simpa using hv))
    simp [h1, h2]
theorem inpL_of [I : Inp] {p : Option Addr} {us : List Value} {k : Nat} (hl : us.length = k) (h : us ≠ [] → ∃ a, p = some a ∧ a.spot = none ∧ ∀ (j : Nat) (u : Value), us[j]? = some u → Inp.at_ (a.add j) = some u) : inpL p k = some us := by
  unfold inpL
  split
  · rename_i hk
    rw [hk] at hl
    rw [List.length_eq_zero_iff.1 hl]
  · rename_i hk
    obtain ⟨a, rfl, hs, hc⟩ := h (by intro e; rw [e] at hl; exact hk hl.symm)
    simp only [hs, if_true]
    refine mapM_some (by simp [hl]) fun i x u hx hu => ?_
    have hi : i < us.length := (List.getElem?_eq_some_iff.1 hu).1
    rw [List.getElem?_range (by omega)] at hx
    injection hx with hx; subst hx
    exact hc i u hu
theorem slOf_len [Inp] {m : Mem} {z k : Nat} {s : SV} {xs : List SV} (h : slOf m z s = some (k, xs)) : xs.length = k * z := by
  unfold slOf at h
  split at h
  · split at h
    · rename_i hz
      split at h
      · split at h
        · rename_i hfit
          injection h with h; injection h with h1 h2
          subst h1; subst h2; subst hz
          simp; omega
        · cases h
      · cases h
    · cases h
  · obtain ⟨us, hus, h⟩ := Option.map_eq_some_iff.1 h
    injection h with h1 h2
    subst h1; subst h2
    simp [(inpL_some hus).1]
  · injection h with h; injection h with h1 h2
    subst h1; subst h2; simp
  · injection h with h; injection h with h1 h2
    subst h1; subst h2; simp
  · cases h
theorem isL_v_inv {r : List Loc} : ∀ {ys us : List Value}, SV.IsL r (ys.map SV.v) us → us = ys
  | [], us, h => by simpa only [List.map_nil, SV.IsL] using h
  | y :: ys, us, h => by
    simp only [List.map_cons, SV.IsL, SV.Is] at h
    obtain ⟨u, t, rfl, rfl, h⟩ := h
    rw [isL_v_inv h]
def Knows (I I' : Inp) (m : Mem) (s : SV) (u : Value) : Prop :=
  (∀ x, s = .v x → u = x) ∧ (∀ ys : List Value, s = .agg (ys.map .v) → u = .agg ys.toArray) ∧ ∀ (z n : Nat) (ys : List Value), @slOf I m z s = some (n, ys.map .v) → ∃ p c, u = .slice p n c ∧ @inpL I' p (n * z) = some ys
def KnowsL (I I' : Inp) (m : Mem) : List SV → List Value → Prop
  | [], us => us = []
  | s :: ss, us => ∃ u t, us = u :: t ∧ Knows I I' m s u ∧ KnowsL I I' m ss t
theorem knows_of {I : Inp} {base : Nat → Prop} {w0 W : World} {r : List Loc} {m : Mem} (hst : St base w0 r m W) {s : SV} {u : Value} (hs : s.Is r u) : Knows I (inpOf W) m s u := by
  refine ⟨fun x hx => by subst hx; simpa only [SV.Is] using hs, fun ys hx => ?_, fun z n ys hsl => ?_⟩
  · subst hx
    simp only [SV.Is] at hs
    obtain ⟨us, rfl, hus⟩ := hs
    rw [isL_v_inv hus]
  · obtain ⟨p, c, us, rfl, hus, hlen, hcell⟩ := sl_cells hst hsl hs
    have hxl := slOf_len hsl
    obtain rfl := isL_v_inv hus
    refine ⟨p, c, rfl, inpL_of (I := inpOf W) (by simpa using hxl) fun hne => ?_⟩
    rcases hcell with ⟨a, rfl, hc⟩ | ⟨_, h0⟩
    · have hc := hc W (Same.refl _ _)
      refine ⟨a, rfl, ?_, hc⟩
      obtain ⟨x, hx⟩ : ∃ x, us[0]? = some x := by
        cases us with
        | nil => exact (hne rfl).elim
        | cons x _ => exact ⟨x, rfl⟩
      have := hc 0 x hx
      rw [add_zero_addr] at this
      exact World.cell?_spot this
    · exact (hne h0).elim
theorem knowsL_of {I : Inp} {base : Nat → Prop} {w0 W : World} {r : List Loc} {m : Mem} (hst : St base w0 r m W) : ∀ {ss : List SV} {us : List Value}, SV.IsL r ss us → KnowsL I (inpOf W) m ss us
  | [], us, h => by simpa only [SV.IsL, KnowsL] using h
  | s :: ss, us, h => by
    simp only [SV.IsL] at h
    obtain ⟨u, t, rfl, h1, h2⟩ := h
    exact ⟨u, t, rfl, knows_of hst h1, knowsL_of hst h2⟩
theorem isL_of {r : List Loc} : ∀ us : List Value, SV.IsL r (us.map SV.of) us
  | [] => by simp [SV.IsL]
  | u :: us => by simp only [List.map_cons, SV.IsL]; exact ⟨u, us, rfl, SV.of_is r u, isL_of us⟩
theorem of_int {k : IntKind} {n : Int} : SV.of (.int k n) = .v (.int k n) := rfl
theorem of_bool {b : Bool} : SV.of (.bool b) = .v (.bool b) := rfl
theorem of_str {b : ByteArray} : SV.of (.string b) = .v (.string b) := rfl
theorem of_sl {a : Option Addr} {n c : Nat} : SV.of (.slice a n c) = .v (.slice a n c) := rfl
theorem of_p {a : Option Addr} : SV.of (.pointer a) = .v (.pointer a) := rfl
theorem of_agg {cs : List Value} : SV.of (.agg cs.toArray) = .agg (cs.map .v) := by simp [SV.of]
section
variable {P : Program} {f : FuncId} {eff : List FuncId} {N : Nat} {x : XC} {rs : List XR}
theorem Contract.read [I : Inp] (hF : FnX P f eff N x rs) {G : Inp → List CEntry} (hG : ∀ J, @GOk J P (G J)) (tr : Trans)
    (body : ∀ args m k, tr args m k → args.length ≤ N ∧ ∀ (J : Inp), J.keep = 0 → ∀ (us : List Value), KnowsL I J m args us → @evX J P N eff (G J) x (slots (argSlots 0 (us.map SV.of))) [] (fun ex e m' => EndsX ex ∧ evR rs e m' fun s => s.plain = true ∧ k s m)) : Contract P f true tr := by
  refine ⟨hF.enter, fun args m k base w0 W r vs ht hst ha => ?_⟩
  obtain ⟨hlen, hev⟩ := body args m k ht
  have hk := knowsL_of hst ha
  have hvl := IsL_len ha
  refine (@FnX.calls P f eff N x rs (G (inpOf W)) (inpOf W) hF (hG (inpOf W)) _ _ _ _ _ _ _ (St.inpOf W) (isL_of vs) (by simp; omega) (fun s _ => s.plain = true ∧ k s m) (hev (inpOf W) rfl vs hk)).mono ?_
  rintro e W1 ⟨s, m', r', u, ⟨hp, hk⟩, rfl, hst1, hs, _⟩
  have hb : Below W.heap.size W W1 := (@St.low (inpOf W) _ _ _ _ _ hst1).below
  exact ⟨s, m, [], u, hk, rfl, by simpa using hst.below hb, plain_is hp hs, fun _ => Same.below hst hb⟩
theorem law_read {tr : Inp → Trans} {args : List Value} {W : World} (hc : ∀ I, @Contract I P f true (tr I)) (ht : tr (inpOf W) (args.map SV.of) [] (fun s _ => s = .v (.bool true))) :
    Calls P f args.toArray W fun e W' => e = .returned (.bool true) ∧ Below W.heap.size W W' := by
  refine (@Contract.calls (inpOf W) _ _ _ _ (hc (inpOf W)) (args.map SV.of) [] _ (fun k => W.heap.size ≤ k) W W [] args ht (St.inpOf W) (isL_of args)).mono ?_
  rintro e W1 ⟨s, m', t, u, rfl, rfl, hst, hu, _⟩
  simp only [SV.Is] at hu
  subst hu
  exact ⟨rfl, (@St.low (inpOf W) _ _ _ _ _ hst).below⟩
end
theorem GOk.cons [Inp] {P : Program} {f : FuncId} {q : Bool} {tr : Trans} {G : List CEntry} (h : Contract P f q tr) (hG : GOk P G) : GOk P (⟨f, q, tr⟩ :: G) := fun c hc => by
  rcases List.mem_cons.1 hc with rfl | hc
  · exact .inl h
  · exact hG c hc
theorem GOk.ext [Inp] {P : Program} {f : FuncId} {q : Bool} {tr : Trans} {G : List CEntry} (h : ExtC P f q tr) (hG : GOk P G) : GOk P (⟨f, q, tr⟩ :: G) := fun c hc => by
  rcases List.mem_cons.1 hc with rfl | hc
  · exact .inr h
  · exact hG c hc
theorem g0 [Inp] (P : Program) : GOk P [] := fun c h => by cases h
theorem inpL_part [Inp] {p : Option Addr} {k o j : Nat} {us : List Value} (h : inpL p k = some us) (hj : o + j ≤ k) : inpL (plusA p o) j = some ((us.drop o).take j) := by
  obtain ⟨h1, h2⟩ := inpL_some h
  refine inpL_of (by simp; omega) fun hne => ?_
  have hk : k ≠ 0 := by
    intro h0
    subst h0
    have : us = [] := List.length_eq_zero_iff.1 h1
    subst this
    exact hne (by simp)
  obtain ⟨a, rfl, hs, hc⟩ := h2 hk
  refine ⟨a.add o, rfl, by obtain ⟨b, oo, sp⟩ := a; simp only at hs; subst hs; rw [Addr.add_lit], fun i u hi => ?_⟩
  rw [add_add_addr hs]
  rw [List.getElem?_take] at hi
  split at hi
  · rw [List.getElem?_drop] at hi
    exact hc _ _ hi
  · cases hi
theorem inpL_isSome [Inp] {p : Option Addr} {k : Nat} {us : List Value} (h : inpL p k = some us) (hk : k ≠ 0) : p.isSome = true := by
  obtain ⟨a, rfl, _⟩ := (inpL_some h).2 hk
  rfl
def rowV {α : Type} (cs : α → List Value) (l : List α) : List Value := l.flatMap cs
theorem rowV_len {α : Type} {cs : α → List Value} {z : Nat} (hz : ∀ x, (cs x).length = z) (l : List α) : (rowV cs l).length = l.length * z := by
  induction l with
  | nil => simp [rowV]
  | cons x l ih =>
    have : rowV cs (x :: l) = cs x ++ rowV cs l := rfl
    rw [this, List.length_append, ih, hz, List.length_cons, Nat.add_mul]; omega
theorem rowV_at {α : Type} {cs : α → List Value} {z : Nat} (hz : ∀ x, (cs x).length = z) : ∀ {l : List α} {i : Nat} {x : α}, l[i]? = some x → ((rowV cs l).drop (i * z)).take z = cs x
  | [], i, x, h => by simp at h
  | y :: l, 0, x, h => by
    simp at h; subst h
    have : rowV cs (y :: l) = cs y ++ rowV cs l := rfl
    rw [this, Nat.zero_mul, List.drop_zero, List.take_append_of_le_length (by rw [hz]; omega), List.take_of_length_le (by rw [hz]; omega)]
  | y :: l, i + 1, x, h => by
    have e : rowV cs (y :: l) = cs y ++ rowV cs l := rfl
    have h' : l[i]? = some x := by simpa using h
    rw [e, show (i + 1) * z = (cs y).length + i * z by rw [hz, Nat.add_mul]; omega, List.drop_append, List.drop_of_length_le (by omega), List.nil_append, Nat.add_sub_cancel_left]
    exact rowV_at hz h'
theorem inp_item [Inp] {α : Type} {cs : α → List Value} {z : Nat} (hz : ∀ x, (cs x).length = z) {p : Option Addr} {l : List α} {n : Nat} (h : inpL p (n * z) = some (rowV cs l)) (hn : l.length = n) {i : Nat} {x : α} (hi : l[i]? = some x) : inpL (plusA p (i * z)) z = some (cs x) := by
  have hlt : i < l.length := (List.getElem?_eq_some_iff.1 hi).1
  have hle : (i + 1) * z ≤ n * z := Nat.mul_le_mul_right _ (by omega)
  rw [Nat.add_mul] at hle
  rw [inpL_part h (by omega), rowV_at hz hi]
def iL (xs : List Int) : List SV := xs.map fun x => .v (.int .i64 x)
theorem iL_eq (xs : List Int) : iL xs = (xs.map (Value.int .i64)).map SV.v := by simp [iL, List.map_map, Function.comp_def]
theorem iL_fold {xs : List Int} : (xs.map (Value.int .i64)).map SV.v = iL xs := (iL_eq xs).symm
theorem iL_len {xs : List Int} : (iL xs).length = xs.length := by simp [iL]
theorem iL_nil : iL [] = [] := rfl
theorem iL_cons {x : Int} {xs : List Int} : iL (x :: xs) = .v (.int .i64 x) :: iL xs := rfl
theorem iL_get {xs : List Int} {n : Nat} (h : n < xs.length) : (iL xs)[n]? = some (.v (.int .i64 (xs.getD n 0))) := by
  simp [iL, List.getD, h]
theorem iL_take {xs : List Int} {n : Nat} : (iL xs).take n = iL (xs.take n) := by simp [iL]
theorem iL_drop {xs : List Int} {n : Nat} : (iL xs).drop n = iL (xs.drop n) := by simp [iL]
theorem iL_snoc {xs : List Int} {y : Int} : iL xs ++ [.v (.int .i64 y)] = iL (xs ++ [y]) := by simp [iL]
theorem iL_over {xs : List Int} {i : Nat} {y : Int} (h : i < xs.length) : over (iL xs) i [.v (.int .i64 y)] = iL (xs.set i y) := by
  unfold over iL
  rw [List.set_eq_take_append_cons_drop, if_pos h]
  simp
theorem iL_all {xs ys : List Int} (h : ys.length = xs.length) : over (iL xs) 0 (iL ys) = iL ys := by
  unfold over
  simp [iL, h]
theorem iL_one {xs : List Int} : (iL xs).all SV.one = true := by
  simp [iL, SV.one, Value.oneCell']
theorem iL_plain {xs : List Int} : plainL (iL xs) = true := by
  rw [iL_eq]; exact plainL_v _
theorem iL_le {g : List Nat} {xs : List Int} : LeL g (iL xs) (iL xs) = True := by
  rw [iL_eq]; simp only [eq_iff_iff, iff_true]; exact LeL_v g _
def decI : List SV → Option (List Int)
  | [] => some []
  | .v (.int .i64 x) :: l => (decI l).map (x :: ·)
  | _ :: _ => none
theorem decI_inv : ∀ {l : List SV} {xs : List Int}, decI l = some xs → l = iL xs
  | [], xs, h => by simp only [decI] at h; injection h with h; subst h; rfl
  | a :: l, xs, h => by
    unfold decI at h
    split at h
    · rename_i heq; cases heq
    · rename_i heq
      cases heq
      obtain ⟨ys, h1, rfl⟩ := Option.map_eq_some_iff.1 h
      rw [decI_inv h1]; rfl
    · cases h
theorem decI_iL {xs : List Int} : decI (iL xs) = some xs := by
  induction xs with
  | nil => rfl
  | cons x xs ih => rw [iL_cons]; simp only [decI, ih, Option.map_some]
theorem inpL_cut [Inp] {p : Option Addr} {n z c l h : Nat} {us : List Value} (hi : inpL p (n * z) = some us) (hl : l ≤ h) (hn : h ≤ n) (hc : n ≤ c) : inpL (cutA p l c z) ((h - l) * z) = some ((us.drop (l * z)).take ((h - l) * z)) := by
  have e : (h - l) * z = h * z - l * z := Nat.sub_mul _ _ _
  have e1 : l * z ≤ h * z := Nat.mul_le_mul_right _ hl
  have e2 : h * z ≤ n * z := Nat.mul_le_mul_right _ hn
  unfold cutA
  split
  · rename_i hcl
    have : h - l = 0 := by omega
    rw [this, Nat.zero_mul, List.take_zero]
    simp [inpL]
  · exact inpL_part hi (by omega)
def optK {α : Type} (o : Option α) (F : α → Prop) : Prop := match o with | some x => F x | none => False
@[congr] theorem optK_c {α : Type} {o o' : Option α} {F : α → Prop} (h : o = o') : optK o F = optK o' F := by rw [h]
section
variable {α β : Type} {l : List α} {x : Nat} {d : α}
theorem take_snoc (h : l[x]? = some d) : l.take (x + 1) = l.take x ++ [d] := by rw [List.take_add_one, h]; rfl
end
class PBox where
  q : Post
def TXi [Inp] (P : Program) (N : Nat) (eff : List FuncId) (x : XC) (e : Env) (m : Mem) [b : PBox] : Prop := TX P N eff x e m b.q
section
variable {P : Program} {N : Nat} {eff : List FuncId} {G : List CEntry} {e : Env} {m : Mem} {Q : Post}
theorem s_loopi [Inp] {a : XC} : evX P N eff G (.loop a) e m Q = @TXi _ P N eff (.loop a) e m ⟨Q⟩ := Eq.trans rfl rfl
theorem v_pq {ex : Exit} : @PBox.q ⟨Q⟩ ex e m = Q ex e m := Eq.trans rfl rfl
theorem TXi_of [Inp] {x : XC} (h : TX P N eff x e m Q) : @TXi _ P N eff x e m ⟨Q⟩ := h
theorem TX_loopT [Inp] {X : Type} (L : X → List (Nat × SV)) (M : X → Mem) (u : X → Nat) (x0 : X) {body : XC} {e : Env} {m : Mem} {Q : Post} (h0 : Fit e m (L x0) (M x0))
    (round : ∀ x, TX P N eff body (slots (L x)) (M x) (thenQ (fun e' m' => ∃ x', u x' < u x ∧ Fit e' m' (L x') (M x')) Q)) : TX P N eff (.loop body) e m Q := by
  intro c hc base w0 W r a hst he
  unfold compC at hc
  split at hc
  case h_7 c1 =>
    obtain ⟨x1, hx1, hc⟩ := Option.map_eq_some_iff.1 hc
    injection hc with hc; subst hc
    refine wp_loop_ghost (fun n a' W' => ∃ x r', n = u x ∧ St base w0 r' (M x) W' ∧ EnvIs N r' (slots (L x)) a'.tmps ∧ a'.defers = a.defers ∧ Kp r r') (u x0) ?_ ?_
    · obtain ⟨g, hn, hm, hE, hkg⟩ := h0
      obtain ⟨r', h1, h2, h3⟩ := fit_sound (N := N) (e := e) (l := L x0) (ts := a.tmps) hn hm hst
      exact ⟨x0, r', rfl, h1, h3 hE he, rfl, fun k l hk hl => h2 k k (hkg k hk) l hl⟩
    · rintro n a1 W1 ⟨x, r1, rfl, hst1, he1, hd1, hkp1⟩
      refine wp_mono (round x c1 hx1 base w0 W1 r1 a1 hst1 he1) ?_
      rintro ex a2 W2 ⟨hgo, e2, m2, r2, hq, hst2, he2, hd2, hkp2⟩
      cases ex <;> simp only [Exit.then]
      case normal =>
        simp only [thenQ] at hq
        obtain ⟨x', hlt, g, hn, hm, hE, hkg⟩ := hq
        obtain ⟨r', h1, h2, h3⟩ := fit_sound (N := N) (e := e2) (l := L x') (ts := a2.tmps) hn hm hst2
        exact ⟨u x', hlt, x', r', rfl, h1, h3 hE he2, hd2.trans hd1, (hkp1.trans hkp2).trans fun k l hk hl => h2 k k (hkg k hk) l hl⟩
      case exit i => exact ⟨trivial, e2, m2, r2, hq, hst2, he2, hd2.trans hd1, hkp1.trans hkp2⟩
      case ret => exact ⟨trivial, e2, m2, r2, hq, hst2, he2, hd2.trans hd1, hkp1.trans hkp2⟩
      all_goals exact hgo.elim
  all_goals first | (cases hc; done) | (obtain ⟨x1, hx1, hc⟩ := Option.bind_eq_some_iff.1 hc; obtain ⟨x2, hx2, hc⟩ := Option.map_eq_some_iff.1 hc; cases hc; done) | (obtain ⟨x1, hx1, hc⟩ := Option.map_eq_some_iff.1 hc; cases hc; done) | (split at hc <;> first | (cases hc; done) | (obtain ⟨x1, hx1, hc⟩ := Option.map_eq_some_iff.1 hc; cases hc; done))
theorem TX_count [Inp] (hG : GOk P G) (n : Nat) (L : Nat → List (Nat × SV)) (M : Nat → Mem) (I : Nat → Prop) {body : XC} (i0 : I 0) (h0 : Fit e m (L 0) (M 0))
    (round : ∀ x, x < n → I x → evX P N eff G body (slots (L x)) (M x) (thenQ (fun e' m' => I (x + 1) ∧ Fit e' m' (L (x + 1)) (M (x + 1))) Q))
    (last : I n → evX P N eff G body (slots (L n)) (M n) (thenQ (fun _ _ => False) Q)) : TX P N eff (.loop body) e m Q := by
  refine TX_loopT (X := { x : Nat // x ≤ n ∧ I x }) (fun x => L x.1) (fun x => M x.1) (fun x => n - x.1) ⟨0, by omega, i0⟩ h0 ?_
  rintro ⟨x, hx, hi⟩
  by_cases hlt : x < n
  · refine (evX_sound hG _ (round x hlt hi)).mono fun ex e' m' h => ?_
    cases ex <;> first | exact h | exact ⟨⟨x + 1, by omega, h.1⟩, by simp only; omega, h.2⟩
  · obtain rfl : x = n := by omega
    refine (evX_sound hG _ (last hi)).mono fun ex e' m' h => ?_
    cases ex <;> first | exact h | exact h.elim
end
end Go.Proofs.Ytcejgadbpahbmaa.Sz
end
section
namespace Go.Proofs.Ytcejgadbpahbmaa.Sz
open Go.RowKit
def oO (cs : List SV) : SObj := ⟨!cs.isEmpty, cs⟩
section
variable {m : Mem} {k n z : Nat} {cs : List SV} {K : SV → Prop}
@[simp] theorem oO_x : (oO cs).x = noExt := rfl
theorem oO_cells : (oO cs).cells = cs := rfl
theorem oO_own : (oO cs).own = !cs.isEmpty := rfl
end
section
variable {P : Program} {f : FuncId} {eff : List FuncId} {N : Nat} {x : XC} {rs : List XR}
end
def rdI [Inp] (m : Mem) (s : SV) : Option (List Int) := (slOf m 1 s).bind fun p => decI p.2
theorem rdI_knows {I J : Inp} {m : Mem} {s : SV} {u : Value} {xs : List Int} (h : @rdI I m s = some xs) (hk : Knows I J m s u) :
    ∃ p c, u = .slice p xs.length c ∧ @inpL J p xs.length = some (xs.map (Value.int .i64)) := by
  unfold rdI at h
  obtain ⟨⟨n, ys⟩, h1, h2⟩ := Option.bind_eq_some_iff.1 h
  have h3 := decI_inv h2
  simp only at h3
  subst h3
  have hl := @slOf_len I _ _ _ _ _ h1
  have hn : n = xs.length := by simpa [iL] using hl.symm
  subst hn
  rw [iL_eq] at h1
  obtain ⟨p, c, rfl, h5⟩ := hk.2.2 1 _ _ h1
  rw [Nat.mul_one] at h5
  exact ⟨p, c, rfl, h5⟩
theorem rdI_v [Inp] {m : Mem} {p : Option Addr} {n c : Nat} {xs : List Int} (h : inpL p n = some (xs.map (Value.int .i64))) : rdI m (.v (.slice p n c)) = some xs := by
  unfold rdI
  simp only [slOf, Nat.mul_one, h, Option.map_some, Option.bind_some]
  rw [← iL_eq, decI_iL]
end Go.Proofs.Ytcejgadbpahbmaa.Sz
end
section
namespace Go.Proofs.Ytcejgadbpahbmaa.Sz
open Go.RowKit
set_option maxHeartbeats 2000000
theorem ObjAt.mono {base base' : Nat → Prop} {r : List Loc} {w : World} {l : Loc} {o : SObj} (h : ObjAt base r w l o) (hb : base l.blk → base' l.blk) : ObjAt base' r w l o :=
  ⟨h.there, h.fits, fun ho => hb (h.own ho), h.lt, h.ext⟩
def hidM (n : Nat) (h : List SV) (H : Mem) : Mem := ⟨true, h⟩ :: (List.replicate n ⟨false, []⟩ ++ H)
theorem hidM_0 {n : Nat} {h : List SV} {H : Mem} : (hidM n h H)[0]? = some ⟨true, h⟩ := rfl
theorem hidM_ref {n : Nat} {h : List SV} {H : Mem} {i : Nat} (hi : i < n) : (hidM n h H)[i + 1]? = some ⟨false, []⟩ := by
  unfold hidM
  rw [List.getElem?_cons_succ, List.getElem?_append_left (by simpa using hi), List.getElem?_replicate, if_pos hi]
theorem hidM_hid {n : Nat} {h : List SV} {H : Mem} {i : Nat} : (hidM n h H)[n + 1 + i]? = H[i]? := by
  unfold hidM
  rw [show n + 1 + i = (n + i) + 1 by omega, List.getElem?_cons_succ, List.getElem?_append_right (by simp)]
  simp
theorem hidM_cases {n : Nat} {h : List SV} {H : Mem} {k : Nat} {o : SObj} (hk : (hidM n h H)[k]? = some o) : (k = 0 ∧ o = ⟨true, h⟩) ∨ (∃ i, i < n ∧ k = i + 1 ∧ o = ⟨false, []⟩) ∨ ∃ i, k = n + 1 + i ∧ H[i]? = some o := by
  match k with
  | 0 => rw [hidM_0] at hk; injection hk with hk; exact .inl ⟨rfl, hk.symm⟩
  | i + 1 =>
    by_cases hi : i < n
    · rw [hidM_ref hi] at hk; injection hk with hk; exact .inr (.inl ⟨i, hi, rfl, hk.symm⟩)
    · refine .inr (.inr ⟨i - n, by omega, ?_⟩)
      rw [← hk, ← hidM_hid (n := n) (h := h)]
      congr 1
      omega
structure HideIs (n : Nat) (P : List SV → Mem → Prop) (ls : List Loc) (l : Loc) (fp : List Nat) (w : World) (h : List SV) (H : Mem) (rH : List Loc) (F : Nat → List Nat) : Prop where
  is : P h H
  lsl : ls.length = n
  len : rH.length = H.length
  own : ∀ o ∈ H, o.own = true ∨ o.cells = []
  obj : ∀ (k : Nat) (lk : Loc) (o : SObj), (l :: (ls ++ rH))[k]? = some lk → (hidM n h H)[k]? = some o → (k = 0 ∨ n < k) → ObjAt (fun b => b = l.blk ∨ b ∈ fp) (l :: (ls ++ rH)) w lk o
  blk : ∀ (k : Nat) (lk : Loc) (o : SObj), (l :: (ls ++ rH))[k]? = some lk → (hidM n h H)[k]? = some o → n < k → o.own = true → lk.blk ∈ fp
  sep : ∀ (k k' : Nat) (l1 l2 : Loc) (o o' : SObj), (l :: (ls ++ rH))[k]? = some l1 → (l :: (ls ++ rH))[k']? = some l2 → (hidM n h H)[k]? = some o → (hidM n h H)[k']? = some o' → k ≠ k' → o.own = true → o'.own = true → l1.blk ≠ l2.blk
  hid : ∀ (k : Nat) (lk : Loc) (o : SObj), (l :: (ls ++ rH))[k]? = some lk → (hidM n h H)[k]? = some o → HidIs (l :: (ls ++ rH)) w lk (F k) o
  sub : ∀ k, ∀ b ∈ F k, n < k ∧ b ∈ fp
  far : ∀ k, ∀ b ∈ F k, ∀ (k' : Nat) (l1 : Loc) (o : SObj), (l :: (ls ++ rH))[k']? = some l1 → (hidM n h H)[k']? = some o → o.own = true → l1.blk ≠ b
  apart : ∀ k k', ∀ b ∈ F k, b ∈ F k' → k = k'
def hide (n : Nat) (P : List SV → Mem → Prop) : Abs where
  holds := fun ls l fp w => ∃ h H rH F, HideIs n P ls l fp w h H rH F
  stable := fun ls l fp W W' ⟨h, H, rH, F, a⟩ hsz hs => by
    have hin : ∀ (k : Nat) (lk : Loc) (o : SObj), (l :: (ls ++ rH))[k]? = some lk → (hidM n h H)[k]? = some o → (k = 0 ∨ n < k) → o.own = true → lk.blk ∈ l.blk :: fp := by
      intro k lk o h1 h2 hk ho
      rcases hk with rfl | hk
      · simp at h1; subst h1; simp
      · exact List.mem_cons_of_mem _ (a.blk k lk o h1 h2 hk ho)
    refine ⟨h, H, rH, F, a.is, a.lsl, a.len, a.own, fun k lk o h1 h2 hk => ?_, a.blk, a.sep, fun k lk o h1 h2 => ?_, a.sub, a.far, a.apart⟩
    · have hO := a.obj k lk o h1 h2 hk
      cases ho : o.own with
      | true => exact hO.same (hs _ (hin k lk o h1 h2 hk ho))
      | false =>
        have hc : o.cells = [] := by
          rcases hidM_cases h2 with ⟨_, rfl⟩ | ⟨i, _, rfl, rfl⟩ | ⟨i, rfl, hi⟩
          · simp at ho
          · rfl
          · rcases a.own o (List.mem_of_getElem? hi) with h | h
            · rw [ho] at h; cases h
            · exact h
        rw [hO.isDead ho hc]
        exact .dead (Nat.lt_of_lt_of_le hO.lt hsz)
    · cases ha : o.isA with
      | false => exact HidIs.not ha
      | true =>
        have hk : k = 0 ∨ n < k := by
          rcases hidM_cases h2 with ⟨rfl, _⟩ | ⟨i, _, rfl, rfl⟩ | ⟨i, rfl, hi⟩
          · exact .inl rfl
          · simp at ha
          · exact .inr (by omega)
        have ho := (a.obj k lk o h1 h2 hk).isA_own ha
        refine (a.hid k lk o h1 h2).same hsz fun b hb => hs b ?_
        rcases List.mem_cons.1 hb with rfl | hb
        · exact hin k lk o h1 h2 hk ho
        · exact List.mem_cons_of_mem _ (a.sub k b hb).2
def absO (A : Abs) (refs : List Nat) : SObj := @SObj.mk true [] ⟨.abs A refs⟩
theorem absO_hid {r : List Loc} {w : World} {l : Loc} {fp : List Nat} {A : Abs} {refs : List Nat} : HidIs r w l fp (absO A refs) = ∃ ls, refs.mapM (r[·]?) = some ls ∧ A.holds ls l fp w := rfl
inductive RO where
  | ab (A : Abs) (refs : List Nat)
  | pl (cs : List SV)
def RO.loc : RO → SObj
  | .ab A refs => absO A refs
  | .pl cs => ⟨true, cs⟩
def ren (g : List Nat) (k : Nat) : Nat := g.getD k 0
def RO.out (g : List Nat) : RO → SObj
  | .ab A refs => absO A (refs.map (ren g))
  | .pl cs => ⟨true, cs⟩
def RO.ok (n : Nat) : RO → Prop
  | .ab _ refs => ∀ x ∈ refs, x < n
  | .pl cs => plainL cs = true
theorem RO.loc_own {o : RO} : o.loc.own = true := by cases o <;> rfl
theorem RO.out_own {g : List Nat} {o : RO} : (o.out g).own = true := by cases o <;> rfl
theorem RO.obj {base base' : Nat → Prop} {r r' : List Loc} {w : World} {l : Loc} {o : RO} {g : List Nat} {n : Nat} (hok : o.ok n) (h : ObjAt base r w l (o.out g)) (hb : base' l.blk) : ObjAt base' r' w l o.loc := by
  cases o with
  | ab A refs =>
    refine ⟨fun _ _ => ?_, Nat.zero_le _, fun _ => hb, h.lt, rfl⟩
    obtain ⟨c, T, fr, h1, h2, _, h4⟩ := h.there rfl (.inl rfl)
    exact ⟨c, T, fr, h1, h2, by simp [RO.loc, absO, SV.IsL], fun _ => h4 rfl⟩
  | pl cs =>
    refine ⟨fun _ _ => ?_, h.fits, fun _ => hb, h.lt, trivial⟩
    obtain ⟨c, T, fr, h1, h2, h3, h4⟩ := h.there rfl (.inl rfl)
    exact ⟨c, T, fr, h1, h2, plainL_is hok h3, fun _ => h4 rfl⟩
theorem RO.obj' {base base' : Nat → Prop} {r r' : List Loc} {w : World} {l : Loc} {o : RO} {g : List Nat} {n : Nat} (hok : o.ok n) (h : ObjAt base r w l o.loc) (hb : base' l.blk) : ObjAt base' r' w l (o.out g) := by
  cases o with
  | ab A refs =>
    refine ⟨fun _ _ => ?_, Nat.zero_le _, fun _ => hb, h.lt, rfl⟩
    obtain ⟨c, T, fr, h1, h2, _, h4⟩ := h.there rfl (.inl rfl)
    exact ⟨c, T, fr, h1, h2, by simp [RO.out, absO, SV.IsL], fun _ => h4 rfl⟩
  | pl cs =>
    refine ⟨fun _ _ => ?_, h.fits, fun _ => hb, h.lt, trivial⟩
    obtain ⟨c, T, fr, h1, h2, h3, h4⟩ := h.there rfl (.inl rfl)
    exact ⟨c, T, fr, h1, h2, plainL_is hok h3, fun _ => h4 rfl⟩
theorem mapM_map {r r' : List Loc} {g : List Nat} : ∀ {refs : List Nat}, (∀ x ∈ refs, r[x]? = r'[ren g x]?) → refs.mapM (r[·]?) = (refs.map (ren g)).mapM (r'[·]?)
  | [], _ => rfl
  | x :: l, h => by
    rw [List.map_cons, List.mapM_cons, List.mapM_cons, h x (by simp), mapM_map fun y hy => h y (by simp [hy])]
theorem RO.hid {r r' : List Loc} {w : World} {l : Loc} {fp : List Nat} {o : RO} {g : List Nat} {n : Nat} (hok : o.ok n) (hg : ∀ x, x < n → r'[x]? = r[ren g x]?) : HidIs r w l fp (o.out g) = HidIs r' w l fp o.loc := by
  cases o with
  | ab A refs =>
    show (∃ ls, (refs.map (ren g)).mapM (r[·]?) = some ls ∧ A.holds ls l fp w) = (∃ ls, refs.mapM (r'[·]?) = some ls ∧ A.holds ls l fp w)
    rw [mapM_map fun x hx => hg x (hok x hx)]
  | pl cs => rfl
theorem dead_of {o : SObj} (h : ¬ (o.own = true ∨ o.cells ≠ [])) : o.own = false ∧ o.cells = [] := by
  refine ⟨?_, ?_⟩
  · cases hy : o.own with
    | false => rfl
    | true => exact (h (.inl hy)).elim
  · cases hy : o.cells with
    | nil => rfl
    | cons a l => exact (h (.inr (by rw [hy]; simp))).elim
def opM (h : List SV) (os : List RO) (H : Mem) : Mem := ⟨true, h⟩ :: (os.map RO.loc ++ H)
theorem opM_cases {h : List SV} {os : List RO} {H : Mem} {k : Nat} {o : SObj} (hk : (opM h os H)[k]? = some o) : (k = 0 ∧ o = ⟨true, h⟩) ∨ (∃ i q, os[i]? = some q ∧ k = i + 1 ∧ o = q.loc) ∨ ∃ i, k = os.length + 1 + i ∧ H[i]? = some o := by
  unfold opM at hk
  match k with
  | 0 => simp at hk; exact .inl ⟨rfl, hk.symm⟩
  | i + 1 =>
    rw [List.getElem?_cons_succ] at hk
    by_cases hi : i < os.length
    · rw [List.getElem?_append_left (by simpa using hi), List.getElem?_map] at hk
      obtain ⟨q, hq, hk⟩ := Option.map_eq_some_iff.1 hk
      exact .inr (.inl ⟨i, q, hq, rfl, hk.symm⟩)
    · rw [List.getElem?_append_right (by simp; omega)] at hk
      exact .inr (.inr ⟨i - os.length, by omega, by simpa using hk⟩)
theorem opM_ref {h : List SV} {os : List RO} {H : Mem} {i : Nat} {q : RO} (hq : os[i]? = some q) : (opM h os H)[i + 1]? = some q.loc := by
  unfold opM
  have := (List.getElem?_eq_some_iff.1 hq).1
  rw [List.getElem?_cons_succ, List.getElem?_append_left (by simpa using this), List.getElem?_map, hq]; rfl
theorem opM_hid {h : List SV} {os : List RO} {H : Mem} {i : Nat} : (opM h os H)[os.length + 1 + i]? = H[i]? := by
  unfold opM
  rw [show os.length + 1 + i = (os.length + i) + 1 by omega, List.getElem?_cons_succ, List.getElem?_append_right (by simp)]
  simp
theorem hidM_op {n : Nat} {h : List SV} {os : List RO} {H : Mem} (hn : os.length = n) {k : Nat} (hk : k = 0 ∨ n < k) : (hidM n h H)[k]? = (opM h os H)[k]? := by
  rcases hk with rfl | hk
  · rfl
  · obtain ⟨i, rfl⟩ : ∃ i, k = n + 1 + i := ⟨k - n - 1, by omega⟩
    rw [hidM_hid, ← hn, opM_hid]
section
variable {base : Nat → Prop} {w0 W W1 : World} {r : List Loc} {m : Mem}
def opB (W : World) (r : List Loc) (F : Nat → List Nat) (g : List Nat) (b : Nat) : Prop := W.heap.size ≤ b ∨ ∃ x ∈ g, (∃ lx, r[x]? = some lx ∧ b = lx.blk) ∨ b ∈ F x
open Classical in
@[reducible] noncomputable def opI (W : World) (B : Nat → Prop) (n : Nat) : Inp := ⟨fun a => if B a.block then none else W.cell? a, n⟩
theorem opB_base [Inp] (hst : St base w0 r m W) {F : Nat → List Nat} (hF : Hid base r m W F) {g : List Nat} (hown : ∀ x ∈ g, ∃ o, m[x]? = some o ∧ o.own = true) {b : Nat} (h : opB W r F g b) : base b := by
  rcases h with h | ⟨x, hx, h⟩
  · exact hst.from_ b (Nat.le_trans hst.low.size h)
  · rcases h with ⟨lx, h1, rfl⟩ | h
    · obtain ⟨o, ho, how⟩ := hown x hx
      exact (hst.obj x lx o h1 ho).own how
    · exact (hF.base x b h).1
theorem ren_0 {j : Nat} {refs : List Nat} : ren (j :: refs) 0 = j := rfl
theorem ren_s {j i q : Nat} {refs : List Nat} (h : refs[i]? = some q) : ren (j :: refs) (i + 1) = q := by simp [ren, h]
theorem mapM_get {r : List Loc} : ∀ {refs : List Nat} {ls : List Loc}, refs.mapM (r[·]?) = some ls → ls.length = refs.length ∧ ∀ (i q : Nat), refs[i]? = some q → r[q]? = ls[i]? ∧ ls[i]? ≠ none
  | [], ls, h => by simp at h; subst h; simp
  | x :: l, ls, h => by
    rw [List.mapM_cons] at h
    obtain ⟨a, ha, h⟩ := Option.bind_eq_some_iff.1 h
    obtain ⟨b, hb, h⟩ := Option.bind_eq_some_iff.1 h
    simp at h
    subst h
    obtain ⟨h1, h2⟩ := mapM_get hb
    refine ⟨by simp [h1], fun i q hi => ?_⟩
    cases i with
    | zero => simp at hi; subst hi; simpa using ha
    | succ i => simpa using h2 i q (by simpa using hi)
theorem refs_get {n : Nat} {l : Loc} {ls rH : List Loc} {i : Nat} (hn : ls.length = n) (hi : i < n) : (l :: (ls ++ rH))[i + 1]? = ls[i]? := by
  rw [List.getElem?_cons_succ, List.getElem?_append_left (by omega)]
theorem nodup_ren {j : Nat} {refs : List Nat} (hnd : (j :: refs).Nodup) : ∀ (i i' q : Nat), refs[i]? = some q → refs[i']? = some q → i = i' := by
  intro i i' q h1 h2
  rw [List.nodup_cons] at hnd
  exact (List.getElem?_inj (List.getElem?_eq_some_iff.1 h1).1 hnd.2).1 (h1.trans h2.symm)
theorem St.shut [I : Inp] (hst : St base w0 r m W) {F : Nat → List Nat} (hF : Hid base r m W F) {j n : Nat} {l : Loc} {A : Abs} {P' : List SV → Mem → Prop} {refs : List Nat} {os os' : List RO} (hl : r[j]? = some l) (hm : m[j]? = some (absO A refs))
    (hnd : (j :: refs).Nodup) (hrn : refs.length = n) (hon : os.length = n) (hos : ∀ (i q : Nat) (o : RO), refs[i]? = some q → os[i]? = some o → m[q]? = some (o.out (j :: refs)) ∧ o.ok (n + 1))
    {ls rH : List Loc} (hls : refs.mapM (r[·]?) = some ls) {J : Inp} {h' : List SV} {H' : Mem} (hst' : @St J (opB W r F (j :: refs)) W (l :: (ls ++ rH)) (opM h' os' H') W1) (hon' : os'.length = n) (hok' : ∀ o ∈ os', o.ok (n + 1)) (hP : P' h' H') (hown' : ∀ o ∈ H', o.own = true ∨ o.cells = [])
    {mF : Mem} (e0 : mF.length = m.length) (e1 : mF[j]? = some (absO (hide n P') refs)) (e2 : ∀ (i q : Nat) (o : RO), refs[i]? = some q → os'[i]? = some o → mF[q]? = some (o.out (j :: refs))) (e3 : ∀ k, k ∉ j :: refs → mF[k]? = m[k]?)
    {F2 : Nat → List Nat} (hF2 : Hid (opB W r F (j :: refs)) (l :: (ls ++ rH)) (opM h' os' H') W1 F2) :
    @St I base w0 r mF W1 ∧ ∃ F3, Hid base r mF W1 F3 ∧ (∀ k, k ∉ j :: refs → F3 k = F k) ∧ (∀ k, k ∉ j :: refs → ∀ b ∈ F k, ¬ opB W r F (j :: refs) b) ∧ (∀ (k : Nat) (lk : Loc) (o : SObj), k ∉ j :: refs → r[k]? = some lk → mF[k]? = some o → (o.own = true ∨ o.cells ≠ []) → ¬ opB W r F (j :: refs) lk.blk) ∧
      (∀ k, k ∈ j :: refs → ∀ b ∈ F3 k, (∃ (y : Nat) (ly : Loc) (oy : SObj), (l :: (ls ++ rH))[y]? = some ly ∧ (opM h' os' H')[y]? = some oy ∧ oy.own = true ∧ b = ly.blk) ∨ ∃ y, b ∈ F2 y) ∧
      (∀ k, k ∈ j :: refs → ∀ lk, r[k]? = some lk → ∃ (y : Nat) (oy : SObj), (l :: (ls ++ rH))[y]? = some lk ∧ (opM h' os' H')[y]? = some oy ∧ oy.own = true) ∧ (∀ b, opB W r F (j :: refs) b → base b) := by
  have inj := nodup_ren hnd
  obtain ⟨hlsn', hlsg⟩ := mapM_get hls
  have hlsn : ls.length = n := by omega
  have rj : ∀ i : Nat, i < n → ∃ (q : Nat) (o o' : RO) (lq : Loc), refs[i]? = some q ∧ os[i]? = some o ∧ os'[i]? = some o' ∧ ls[i]? = some lq ∧ r[q]? = some lq ∧ m[q]? = some (o.out (j :: refs)) ∧ mF[q]? = some (o'.out (j :: refs)) ∧ o'.ok (n + 1) ∧ q ≠ j := by
    intro i hi
    obtain ⟨q, hq⟩ : ∃ q, refs[i]? = some q := ⟨_, List.getElem?_eq_getElem (by omega)⟩
    obtain ⟨o, ho⟩ : ∃ o, os[i]? = some o := ⟨_, List.getElem?_eq_getElem (by omega)⟩
    obtain ⟨o', ho'⟩ : ∃ o, os'[i]? = some o := ⟨_, List.getElem?_eq_getElem (by omega)⟩
    obtain ⟨lq, hlq⟩ : ∃ lq, ls[i]? = some lq := ⟨_, List.getElem?_eq_getElem (by omega)⟩
    refine ⟨q, o, o', lq, hq, ho, ho', hlq, by rw [(hlsg i q hq).1, hlq], (hos i q o hq ho).1, e2 i q o' hq ho', hok' _ (List.mem_of_getElem? ho'), fun e => ?_⟩
    rw [List.nodup_cons] at hnd
    exact hnd.1 (e ▸ List.mem_of_getElem? hq)
  have hgo : ∀ x ∈ j :: refs, ∃ o, m[x]? = some o ∧ o.own = true := by
    intro x hx
    rcases List.mem_cons.1 hx with rfl | hx
    · exact ⟨_, hm, rfl⟩
    · obtain ⟨i, hi⟩ := List.getElem?_of_mem hx
      obtain ⟨q, o, o', lq, a1, _, _, _, _, a2, _⟩ := rj i (by have := (List.getElem?_eq_some_iff.1 hi).1; omega)
      rw [hi] at a1; injection a1 with a1; subst a1
      exact ⟨_, a2, RO.out_own⟩
  have hB : ∀ b, opB W r F (j :: refs) b → base b := fun b hb => @opB_base _ _ _ _ _ I hst _ hF _ hgo _ hb
  have hlow' := @St.low J _ _ _ _ _ hst'
  have hlow : Low base W W1 := ⟨hlow'.os, hlow'.tape, hlow'.output, hlow'.size, fun k hk hb => hlow'.block k hk fun h => hb (hB k h), hlow'.shape⟩
  have kin : ∀ k : Nat, k ∈ j :: refs → k = j ∨ ∃ i, i < n ∧ refs[i]? = some k := by
    intro k hk
    rcases List.mem_cons.1 hk with rfl | hk
    · exact .inl rfl
    · obtain ⟨i, hi⟩ := List.getElem?_of_mem hk
      exact .inr ⟨i, by have := (List.getElem?_eq_some_iff.1 hi).1; omega, hi⟩
  -- what lies elsewhere is as1 it was
  have far1 : ∀ (k : Nat) (lk : Loc) (o : SObj), k ∉ j :: refs → r[k]? = some lk → m[k]? = some o → (o.own = true ∨ o.cells ≠ []) → ¬ opB W r F (j :: refs) lk.blk := by
    intro k lk o hk h1 h2 hal hb
    rcases hb with hb | ⟨x, hx, hb⟩
    · have := @St.locs _ _ _ _ _ I hst lk (List.mem_of_getElem? h1); omega
    · obtain ⟨ox, hox, howx⟩ := hgo x hx
      rcases hb with ⟨lx, h3, h4⟩ | hb
      · exact @St.sep I _ _ _ _ _ hst x k lx lk ox o h3 h1 hox h2 (fun e => hk (e ▸ hx)) howx hal h4.symm
      · exact hF.far x _ hb k lk o h1 h2 hal rfl
  have far2 : ∀ (k b : Nat), k ∉ j :: refs → b ∈ F k → ¬ opB W r F (j :: refs) b := by
    intro k b hk hb hbb
    rcases hbb with hbb | ⟨x, hx, hbb⟩
    · have := (hF.base k b hb).2; omega
    · obtain ⟨ox, hox, howx⟩ := hgo x hx
      rcases hbb with ⟨lx, h3, h4⟩ | hbb
      · exact hF.far k b hb x lx ox h3 hox (.inl howx) h4.symm
      · exact hk (hF.apart k x b hb hbb ▸ hx)
  have keep : ∀ b, b < W.heap.size → ¬ opB W r F (j :: refs) b → W1.heap[b]? = W.heap[b]? := fun b h1 h2 => hlow'.block b h1 h2
  have R0 : (l :: (ls ++ rH))[0]? = some l := rfl
  have Rr : ∀ i, i < n → (l :: (ls ++ rH))[i + 1]? = ls[i]? := fun i hi => refs_get hlsn hi
  have hR : ∀ x, x < n + 1 → (l :: (ls ++ rH))[x]? = r[ren (j :: refs) x]? := by
    intro x hx
    cases x with
    | zero => rw [ren_0]; simp [hl]
    | succ x =>
      obtain ⟨q, o, o', lq, a1, a2, a3, a4, a5, _⟩ := rj x (by omega)
      rw [ren_s a1, Rr x (by omega), a4, a5]
  have obj' := @St.obj J _ _ _ _ _ hst'
  have sep' := @St.sep J _ _ _ _ _ hst'
  have len' : (l :: (ls ++ rH)).length = (opM h' os' H').length := @St.len J _ _ _ _ _ hst'
  have hrH : rH.length = H'.length := by simp [opM] at len'; omega
  -- hidden now
  have hidc : ∀ (k : Nat) (o : SObj), n < k → (opM h' os' H')[k]? = some o → o ∈ H' := by
    intro k o hk ho
    rcases opM_cases ho with ⟨rfl, _⟩ | ⟨i, q, hq, rfl, _⟩ | ⟨i, rfl, hi⟩
    · omega
    · have := (List.getElem?_eq_some_iff.1 hq).1; omega
    · exact List.mem_of_getElem? hi
  let fpN : List Nat := (List.range (l :: (ls ++ rH)).length).flatMap fun k => if n < k then (match (l :: (ls ++ rH))[k]?, (opM h' os' H')[k]? with | some lk, some o => if o.own = true then [lk.blk] else [] | _, _ => []) ++ F2 k else []
  have fpm : ∀ b, b ∈ fpN ↔ ∃ k, k < (l :: (ls ++ rH)).length ∧ n < k ∧ ((∃ lk o, (l :: (ls ++ rH))[k]? = some lk ∧ (opM h' os' H')[k]? = some o ∧ o.own = true ∧ b = lk.blk) ∨ b ∈ F2 k) := by
    intro b
    simp only [fpN, List.mem_flatMap, List.mem_range]
    constructor
    · rintro ⟨k, hk, hb⟩
      split at hb
      · rename_i hn
        refine ⟨k, hk, hn, ?_⟩
        rcases List.mem_append.1 hb with hb | hb
        · split at hb
          · rename_i lk o h1 h2
            split at hb
            · rename_i ho
              simp at hb
              exact .inl ⟨lk, o, h1, h2, ho, hb⟩
            · simp at hb
          · simp at hb
        · exact .inr hb
      · simp at hb
    · rintro ⟨k, hk, hn, hb⟩
      refine ⟨k, hk, ?_⟩
      rw [if_pos hn]
      rcases hb with ⟨lk, o, h1, h2, ho, rfl⟩ | hb
      · simp [h1, h2, ho]
      · simp [hb]
  have fpB : ∀ b, b ∈ fpN → opB W r F (j :: refs) b ∧ b < W1.heap.size := by
    intro b hb
    obtain ⟨k, _, _, hb⟩ := (fpm b).1 hb
    rcases hb with ⟨lk, o, h1, h2, ho, rfl⟩ | hb
    · exact ⟨(obj' k lk o h1 h2).own ho, (obj' k lk o h1 h2).lt⟩
    · exact hF2.base k b hb
  have op0 : (opM h' os' H')[0]? = some ⟨true, h'⟩ := rfl
  have hide' : HideIs n P' ls l fpN W1 h' H' rH (fun k => if n < k ∧ k < (l :: (ls ++ rH)).length then F2 k else []) := by
    have mm : ∀ k, (k = 0 ∨ n < k) → (hidM n h' H')[k]? = (opM h' os' H')[k]? := fun k hk => hidM_op hon' hk
    have own0 : ∀ (k : Nat) (o : SObj), (hidM n h' H')[k]? = some o → o.own = true → k = 0 ∨ n < k := by
      intro k o hk ho
      rcases hidM_cases hk with ⟨rfl, _⟩ | ⟨i, _, rfl, rfl⟩ | ⟨i, rfl, _⟩
      · exact .inl rfl
      · simp at ho
      · exact .inr (by omega)
    refine ⟨hP, hlsn, hrH, hown', fun k lk o h1 h2 hk => ?_, fun k lk o h1 h2 hk ho => ?_, fun k k' l1 l2 o o' h1 h1' h2 h2' hne ho ho' => ?_, fun k lk o h1 h2 => ?_, fun k b hb => ?_, fun k b hb k' l1 o h1 h2 ho => ?_, fun k k' b hb hb' => ?_⟩
    · rw [mm k hk] at h2
      have hO := obj' k lk o h1 h2
      refine ⟨hO.there, hO.fits, fun ho => ?_, hO.lt, hO.ext⟩
      rcases hk with rfl | hk
      · rw [R0] at h1; injection h1 with h1; exact .inl (by rw [h1])
      · exact .inr ((fpm _).2 ⟨k, (List.getElem?_eq_some_iff.1 h1).1, hk, .inl ⟨lk, o, h1, h2, ho, rfl⟩⟩)
    · rw [mm k (.inr hk)] at h2
      exact (fpm _).2 ⟨k, (List.getElem?_eq_some_iff.1 h1).1, hk, .inl ⟨lk, o, h1, h2, ho, rfl⟩⟩
    · have hk := own0 k o h2 ho
      have hk' := own0 k' o' h2' ho'
      rw [mm k hk] at h2
      rw [mm k' hk'] at h2'
      exact sep' k k' l1 l2 o o' h1 h1' h2 h2' hne ho (.inl ho')
    · cases ha : o.isA with
      | false => exact HidIs.not ha
      | true =>
        have hk : n < k := by
          rcases hidM_cases h2 with ⟨rfl, rfl⟩ | ⟨i, _, rfl, rfl⟩ | ⟨i, rfl, _⟩
          · simp at ha
          · simp at ha
          · omega
        rw [mm k (.inr hk)] at h2
        simp only [if_pos (show n < k ∧ k < (l :: (ls ++ rH)).length from ⟨hk, (List.getElem?_eq_some_iff.1 h1).1⟩)]
        exact hF2.is k lk o h1 h2
    · split at hb
      · rename_i hk
        exact ⟨hk.1, (fpm _).2 ⟨k, hk.2, hk.1, .inr hb⟩⟩
      · simp at hb
    · have hk := own0 k' o h2 ho
      rw [mm k' hk] at h2
      split at hb
      · exact hF2.far k b hb k' l1 o h1 h2 (.inl ho)
      · simp at hb
    · split at hb
      · split at hb'
        · exact hF2.apart k k' b hb hb'
        · simp at hb'
      · simp at hb
  -- the objects of the caller's memory now
  have obF : ∀ (k : Nat) (o : SObj), mF[k]? = some o → (k = j ∧ o = absO (hide n P') refs) ∨ (∃ (i : Nat) (o' : RO) (lq : Loc), i < n ∧ refs[i]? = some k ∧ os'[i]? = some o' ∧ ls[i]? = some lq ∧ r[k]? = some lq ∧ o'.ok (n + 1) ∧ k ≠ j ∧ o = o'.out (j :: refs)) ∨ (k ∉ j :: refs ∧ m[k]? = some o) := by
    intro k o hk
    by_cases hg : k ∈ j :: refs
    · rcases kin k hg with rfl | ⟨i, hi, hq⟩
      · rw [e1] at hk; injection hk with hk; exact .inl ⟨rfl, hk.symm⟩
      · obtain ⟨q, o1, o2, lq, a1, a2, a3, a4, a5, a6, a7, a8, a9⟩ := rj i hi
        rw [hq] at a1; injection a1 with a1; subst a1
        rw [a7] at hk; injection hk with hk
        exact .inr (.inl ⟨i, o2, lq, hi, hq, a3, a4, a5, a8, a9, hk.symm⟩)
    · rw [e3 k hg] at hk; exact .inr (.inr ⟨hg, hk⟩)
  have oldO : ∀ (k : Nat) (o : SObj), mF[k]? = some o → ∃ o0, m[k]? = some o0 ∧ (o.own = true → o0.own = true) ∧ ((o.own = true ∨ o.cells ≠ []) → (o0.own = true ∨ o0.cells ≠ [])) := by
    intro k o hk
    by_cases hg : k ∈ j :: refs
    · obtain ⟨o0, h1, h2⟩ := hgo k hg
      exact ⟨o0, h1, fun _ => h2, fun _ => .inl h2⟩
    · rw [e3 k hg] at hk
      exact ⟨o, hk, id, id⟩
  classical
  let F3 : Nat → List Nat := fun k => if k = j then fpN else if k ∈ refs then F2 (refs.idxOf k + 1) else F k
  have F3j : F3 j = fpN := by simp only [F3, if_true]
  have F3r : ∀ (i q : Nat), refs[i]? = some q → F3 q = F2 (i + 1) := by
    intro i q hq
    have hqj : q ≠ j := fun e => by rw [List.nodup_cons] at hnd; exact hnd.1 (e ▸ List.mem_of_getElem? hq)
    have hmem := List.mem_of_getElem? hq
    have hidx : refs[refs.idxOf q]? = some q := by
      rw [List.getElem?_eq_getElem (List.idxOf_lt_length_of_mem hmem), List.getElem_idxOf]
    simp only [F3, if_neg hqj, if_pos hmem]
    rw [inj _ _ q hidx hq]
  have F3o : ∀ k, k ∉ j :: refs → F3 k = F k := by
    intro k hk
    simp only [List.mem_cons, not_or] at hk
    simp only [F3, if_neg hk.1, if_neg hk.2]
  have F3B : ∀ k, k ∈ j :: refs → ∀ b ∈ F3 k, opB W r F (j :: refs) b ∧ b < W1.heap.size := by
    intro k hk b hb
    rcases kin k hk with rfl | ⟨i, hi, hq⟩
    · rw [F3j] at hb; exact fpB b hb
    · rw [F3r i k hq] at hb; exact hF2.base _ b hb
  have hH3 : Hid base r mF W1 F3 := by
    refine ⟨fun k lk o h1 h2 => ?_, fun k b hb => ?_, fun k b hb k' lk o h1 h2 hal => ?_, fun k k' b hb hb' => ?_⟩
    · rcases obF k o h2 with ⟨rfl, rfl⟩ | ⟨i, o', lq, hi, hq, a1, a2, a3, a4, a5, rfl⟩ | ⟨hg, h3⟩
      · rw [hl] at h1; injection h1 with h1; subst h1
        rw [F3j, absO_hid]
        exact ⟨ls, hls, h', H', rH, _, hide'⟩
      · rw [a3] at h1; injection h1 with h1; subst h1
        rw [F3r i k hq, RO.hid (g := j :: refs) a4 hR]
        exact hF2.is (i + 1) lq _ (by rw [Rr i hi, a2]) (opM_ref a1)
      · rw [F3o k hg]
        cases ha : o.isA with
        | false => exact HidIs.not ha
        | true =>
          have hO := @St.obj I _ _ _ _ _ hst k lk o h1 h3
          have hoo := hO.isA_own ha
          refine (hF.is k lk o h1 h3).same hlow.size fun b hb => ?_
          rcases List.mem_cons.1 hb with rfl | hb
          · exact keep _ hO.lt (far1 k lk o hg h1 h3 (.inl hoo))
          · exact keep _ (hF.base k b hb).2 (far2 k b hg hb)
    · by_cases hg : k ∈ j :: refs
      · have := F3B k hg b hb
        exact ⟨hB b this.1, this.2⟩
      · rw [F3o k hg] at hb
        exact ⟨(hF.base k b hb).1, Nat.lt_of_lt_of_le (hF.base k b hb).2 hlow.size⟩
    · by_cases hg : k ∈ j :: refs
      · by_cases hg' : k' ∈ j :: refs
        · -- both are the hider's, or what it leads to
          have loc' : ∃ x o', (l :: (ls ++ rH))[x]? = some lk ∧ (opM h' os' H')[x]? = some o' ∧ o'.own = true ∧ x ≤ n := by
            rcases kin k' hg' with rfl | ⟨i, hi, hq⟩
            · rw [hl] at h1; injection h1 with h1; subst h1
              exact ⟨0, _, R0, op0, rfl, by omega⟩
            · obtain ⟨q, o1, o2, lq', b1, b2, b3, b4, b5, b6, b7, b8, b9⟩ := rj i hi
              rw [hq] at b1; injection b1 with b1; subst b1
              rw [b5] at h1; injection h1 with h1; subst h1
              exact ⟨i + 1, _, by rw [Rr i hi, b4], opM_ref b3, RO.loc_own, by omega⟩
          obtain ⟨x, ox, x1, x2, x3, x4⟩ := loc'
          rcases kin k hg with rfl | ⟨i, hi, hq⟩
          · rw [F3j] at hb
            obtain ⟨y, _, hy, hb⟩ := (fpm b).1 hb
            rcases hb with ⟨ly, oy, y1, y2, y3, rfl⟩ | hb
            · exact sep' x y lk ly ox oy x1 y1 x2 y2 (by omega) x3 (.inl y3)
            · exact hF2.far y b hb x lk ox x1 x2 (.inl x3)
          · rw [F3r i k hq] at hb
            exact hF2.far _ b hb x lk ox x1 x2 (.inl x3)
        · rw [e3 k' hg'] at h2
          intro e
          exact far1 k' lk o hg' h1 h2 hal (e ▸ (F3B k hg b hb).1)
      · rw [F3o k hg] at hb
        obtain ⟨o0, q1, _, q3⟩ := oldO k' o h2
        exact hF.far k b hb k' lk o0 h1 q1 (q3 hal)
    · by_cases hg : k ∈ j :: refs
      · by_cases hg' : k' ∈ j :: refs
        · have tag : ∀ k, k ∈ j :: refs → ∀ b, b ∈ F3 k → (k = j ∧ ((∃ y ly oy, n < y ∧ (l :: (ls ++ rH))[y]? = some ly ∧ (opM h' os' H')[y]? = some oy ∧ oy.own = true ∧ b = ly.blk) ∨ ∃ y, n < y ∧ b ∈ F2 y)) ∨ ∃ i, i < n ∧ refs[i]? = some k ∧ b ∈ F2 (i + 1) := by
            intro k hk b hb
            rcases kin k hk with rfl | ⟨i, hi, hq⟩
            · rw [F3j] at hb
              obtain ⟨y, _, hy, hb⟩ := (fpm b).1 hb
              rcases hb with ⟨ly, oy, y1, y2, y3, e⟩ | hb
              · exact .inl ⟨rfl, .inl ⟨y, ly, oy, hy, y1, y2, y3, e⟩⟩
              · exact .inl ⟨rfl, .inr ⟨y, hy, hb⟩⟩
            · rw [F3r i k hq] at hb; exact .inr ⟨i, hi, hq, hb⟩
          rcases tag k hg b hb with ⟨rfl, t1⟩ | ⟨i, hi, hq, t1⟩ <;> rcases tag k' hg' b hb' with ⟨rfl, t2⟩ | ⟨i', hi', hq', t2⟩
          · rfl
          · rcases t1 with ⟨y, ly, oy, hy, y1, y2, y3, e⟩ | ⟨y, hy, t1⟩
            · exact (hF2.far _ b t2 y ly oy y1 y2 (.inl y3) e.symm).elim
            · have := hF2.apart _ _ b t1 t2; omega
          · rcases t2 with ⟨y, ly, oy, hy, y1, y2, y3, e⟩ | ⟨y, hy, t2⟩
            · exact (hF2.far _ b t1 y ly oy y1 y2 (.inl y3) e.symm).elim
            · have := hF2.apart _ _ b t1 t2; omega
          · have := hF2.apart _ _ b t1 t2
            have : i = i' := by omega
            subst this
            rw [hq] at hq'; injection hq'
        · rw [F3o k' hg'] at hb'
          exact (far2 k' b hg' hb' (F3B k hg b hb).1).elim
      · by_cases hg' : k' ∈ j :: refs
        · rw [F3o k hg] at hb
          exact (far2 k b hg hb (F3B k' hg' b hb').1).elim
        · rw [F3o k hg] at hb
          rw [F3o k' hg'] at hb'
          exact hF.apart k k' b hb hb'
  have locs' : ∀ k, k ∈ j :: refs → ∀ lk, r[k]? = some lk → ∃ (y : Nat) (oy : SObj), (l :: (ls ++ rH))[y]? = some lk ∧ (opM h' os' H')[y]? = some oy ∧ oy.own = true := by
    intro k hk lk h1
    rcases kin k hk with rfl | ⟨i, hi, hq⟩
    · rw [hl] at h1; injection h1 with h1; subst h1
      exact ⟨0, _, R0, op0, rfl⟩
    · obtain ⟨q, o1, o2, lq', b1, b2, b3, b4, b5, b6, b7, b8, b9⟩ := rj i hi
      rw [hq] at b1; injection b1 with b1; subst b1
      rw [b5] at h1; injection h1 with h1; subst h1
      exact ⟨i + 1, _, by rw [Rr i hi, b4], opM_ref b3, RO.loc_own⟩
  have from' : ∀ k, k ∈ j :: refs → ∀ b ∈ F3 k, (∃ (y : Nat) (ly : Loc) (oy : SObj), (l :: (ls ++ rH))[y]? = some ly ∧ (opM h' os' H')[y]? = some oy ∧ oy.own = true ∧ b = ly.blk) ∨ ∃ y, b ∈ F2 y := by
    intro k hk b hb
    rcases kin k hk with rfl | ⟨i, hi, hq⟩
    · rw [F3j] at hb
      obtain ⟨y, _, hy, hb⟩ := (fpm b).1 hb
      rcases hb with ⟨ly, oy, y1, y2, y3, e⟩ | hb
      · exact .inl ⟨y, ly, oy, y1, y2, y3, e⟩
      · exact .inr ⟨y, hb⟩
    · rw [F3r i k hq] at hb; exact .inr ⟨_, hb⟩
  refine ⟨@St.mk I _ _ _ _ _ ((@St.low I _ _ _ _ _ hst).trans hlow) (@St.from_ I _ _ _ _ _ hst) (@St.inp I _ _ _ _ _ hst) (by rw [e0]; exact @St.len I _ _ _ _ _ hst) (fun k lk o h1 h2 => ?_) (fun k k' l1 l2 o o' h1 h1' h2 h2' hne ho hal => ?_) ⟨F3, hH3⟩, F3, hH3, F3o, fun k hk b hb => far2 k b hk hb, fun k lk o hk h1 h2 hal => far1 k lk o hk h1 (by rw [e3 k hk] at h2; exact h2) hal, from', locs', hB⟩
  · rcases obF k o h2 with ⟨rfl, rfl⟩ | ⟨i, o', lq, hi, hq, a1, a2, a3, a4, a5, rfl⟩ | ⟨hg, h3⟩
    · rw [hl] at h1; injection h1 with h1; subst h1
      have hO := obj' 0 l _ R0 op0
      refine ⟨fun _ _ => ?_, Nat.zero_le _, fun _ => (@St.obj I _ _ _ _ _ hst k l _ hl hm).own rfl, hO.lt, rfl⟩
      obtain ⟨c, T, fr, g1, g2, g3, g4⟩ := hO.there rfl (.inl rfl)
      exact ⟨c, T, fr, g1, g2, by simp [absO, SV.IsL], fun _ => g4 rfl⟩
    · rw [a3] at h1; injection h1 with h1; subst h1
      obtain ⟨q, o1, o2, lq', b1, b2, b3, b4, b5, b6, b7, b8, b9⟩ := rj i hi
      rw [hq] at b1; injection b1 with b1; subst b1
      refine RO.obj' a4 (obj' (i + 1) lq _ (by rw [Rr i hi, a2]) (opM_ref a1)) ?_
      exact (@St.obj I _ _ _ _ _ hst k lq _ a3 b6).own RO.out_own
    · have hO := @St.obj I _ _ _ _ _ hst k lk o h1 h3
      by_cases hal : o.own = true ∨ o.cells ≠ []
      · exact hO.same (keep _ hO.lt (far1 k lk o hg h1 h3 hal))
      · rw [hO.isDead (dead_of hal).1 (dead_of hal).2]
        exact .dead (Nat.lt_of_lt_of_le hO.lt hlow.size)
  · obtain ⟨o0, q1, q2, _⟩ := oldO k o h2
    obtain ⟨o0', q1', _, q3'⟩ := oldO k' o' h2'
    exact @St.sep I _ _ _ _ _ hst k k' l1 l2 o0 o0' h1 h1' q1 q1' hne (q2 ho) (q3' hal)
mutual
theorem un_is {r t : List Loc} : ∀ {s : SV} {u : Value}, (s.up r.length).Is (r ++ t) u → s.Is t u
  | .v x, u, hs => by simpa only [SV.up, SV.Is] using hs
  | .any, u, hs => by simp only [SV.Is]
  | .emp, u, hs => by simpa only [SV.up, SV.Is] using hs
  | .zro, u, hs => by simpa only [SV.up, SV.Is] using hs
  | .mp k, u, hs => by
    simp only [SV.up, SV.Is] at hs ⊢
    obtain ⟨l, h1, h2⟩ := hs
    rw [List.getElem?_append_right (by omega), Nat.add_sub_cancel_left] at h1
    exact ⟨l, h1, h2⟩
  | .ptr k o, u, hs => by
    simp only [SV.up, SV.Is] at hs ⊢
    obtain ⟨l, h1, h2⟩ := hs
    rw [List.getElem?_append_right (by omega), Nat.add_sub_cancel_left] at h1
    exact ⟨l, h1, h2⟩
  | .row k o n sz, u, hs => by
    simp only [SV.up, SV.Is] at hs ⊢
    obtain ⟨l, c, h1, h2⟩ := hs
    rw [List.getElem?_append_right (by omega), Nat.add_sub_cancel_left] at h1
    exact ⟨l, c, h1, h2⟩
  | .agg cs, u, hs => by
    simp only [SV.up, SV.Is] at hs ⊢
    obtain ⟨us, h1, h2⟩ := hs
    exact ⟨us, h1, unL_is h2⟩
  | .tup cs, u, hs => by
    simp only [SV.up, SV.Is] at hs ⊢
    obtain ⟨us, h1, h2⟩ := hs
    exact ⟨us, h1, unL_is h2⟩
  | .fn f cs, u, hs => by
    simp only [SV.up, SV.Is] at hs ⊢
    obtain ⟨us, h1, h2⟩ := hs
    exact ⟨us, h1, unL_is h2⟩
  | .bnd f cs, u, hs => by
    simp only [SV.up, SV.Is] at hs ⊢
    obtain ⟨us, h1, h2⟩ := hs
    exact ⟨us, h1, unL_is h2⟩
theorem unL_is {r t : List Loc} : ∀ {s : List SV} {u : List Value}, SV.IsL (r ++ t) (upL r.length s) u → SV.IsL t s u
  | [], u, hs => by simpa only [upL, SV.IsL] using hs
  | c :: cs, u, hs => by
    simp only [upL, SV.IsL] at hs ⊢
    obtain ⟨x, y, h1, h2, h3⟩ := hs
    exact ⟨x, y, h1, un_is h2, unL_is h3⟩
end
theorem mapsUn_is {r t : List Loc} {d : TypeDesc} : ∀ {n : Nat} {ps : List (Value × SV)} {es : List MapEntry}, MapIs (r ++ t) d n (ps.map fun p => (p.1, p.2.up r.length)) es → MapIs t d n ps es
  | n, [], es, h => h
  | n, p :: ps, es, h => by
    obtain ⟨e, t', rfl, h1, h2, h3, h4, h5⟩ := h
    exact ⟨e, t', rfl, h1, un_is h2, h3, h4, mapsUn_is h5⟩
theorem mapM_un {r t : List Loc} : ∀ {refs : List Nat} {ls : List Loc}, (refs.map (r.length + ·)).mapM ((r ++ t)[·]?) = some ls → refs.mapM (t[·]?) = some ls
  | [], ls, h => h
  | k :: ks, ls, h => by
    rw [List.map_cons, List.mapM_cons] at h
    rw [List.mapM_cons]
    obtain ⟨a, ha, h⟩ := Option.bind_eq_some_iff.1 h
    obtain ⟨b, hb, h⟩ := Option.bind_eq_some_iff.1 h
    rw [List.getElem?_append_right (by omega), Nat.add_sub_cancel_left] at ha
    simp only [ha, mapM_un hb]
    exact h
theorem ExtIs.un {r t : List Loc} {w : World} {l : Loc} {o : SObj} (h : ExtIs (r ++ t) w l (o.up r.length)) : ExtIs t w l o := by
  obtain ⟨own, cells⟩ := o
  rename_i x
  obtain ⟨x⟩ := x
  cases x with
  | no => trivial
  | map kt ps =>
    obtain ⟨⟨h1, h2, h3⟩, es, h4, h5⟩ := (show (_ ∧ _ ∧ _) ∧ ∃ es, _ ∧ _ from h)
    rw [List.length_map] at h4
    have h1' : cells = [] := List.length_eq_zero_iff.1 (by rw [← upL_len r.length]; exact congrArg List.length (show upL r.length cells = [] from h1))
    exact (show (_ ∧ _ ∧ _) ∧ ∃ es, _ ∧ _ from ⟨⟨h1', h2, h3⟩, es, h4, mapsUn_is h5⟩)
  | abs A refs => exact h
theorem HidIs.un {r t : List Loc} {w : World} {l : Loc} {fp : List Nat} {o : SObj} (h : HidIs (r ++ t) w l fp (o.up r.length)) : HidIs t w l fp o := by
  obtain ⟨own, cells⟩ := o
  rename_i x
  obtain ⟨x⟩ := x
  cases x with
  | no => trivial
  | map kt ps => trivial
  | abs A refs =>
    obtain ⟨ls, h2, h3⟩ := (show ∃ ls, _ ∧ _ from h)
    exact (show ∃ ls, _ ∧ _ from ⟨ls, mapM_un h2, h3⟩)
theorem ObjAt.shift {base base' : Nat → Prop} {r r' t : List Loc} {w : World} {l : Loc} {o : SObj} (h : ObjAt base (r ++ t) w l (o.up r.length)) (hb : o.own = true → base' l.blk) : ObjAt base' (r' ++ t) w l (o.up r'.length) := by
  obtain ⟨g1, g5, g6, g7, g8⟩ := h
  have hc : ∀ d, (o.up d).cells.length = o.cells.length := fun d => by simp only [SObj.up, upL_len]
  refine ⟨fun hm hal => ?_, by rw [hc]; rw [hc] at g5; exact g5, hb, g7, g8.un.up⟩
  obtain ⟨c, T, fr, g1, g2, g3, g4⟩ := g1 (by rw [isM_up] at hm ⊢; exact hm) (by
    rcases hal with h | h
    · exact .inl h
    · refine .inr fun e => h ?_
      have e2 := congrArg List.length e
      rw [hc] at e2
      exact List.length_eq_zero_iff.1 (by rw [hc]; simpa using e2))
  refine ⟨c, T, fr, g1, g2, ?_, g4⟩
  rw [hc] at g3 ⊢
  exact upL_is (unL_is g3)
end
end Go.Proofs.Ytcejgadbpahbmaa.Sz
end
section
namespace Go.Proofs.Ytcejgadbpahbmaa.Sz
open Go.RowKit
set_option maxHeartbeats 2000000
section
variable {base : Nat → Prop} {w0 W W1 : World} {r : List Loc} {m : Mem}
end
structure Out where
  h : List SV
  os : List RO
  H : Mem
  X : Mem
  s : SV
def Out.mem (o : Out) : Mem := opM o.h o.os o.H ++ o.X.map (SObj.up (opM o.h o.os o.H).length)
section
variable {P : Program} {f : FuncId} {eff : List FuncId} {N : Nat} {x : XC} {rs : List XR}
theorem kept_ext' [Inp] {r r' : List Loc} {n : Nat} (h : Inp.keep = n) (hn : n = r.length) (hk : Kp r r') : ∃ t, r' = r ++ t := by
  refine ⟨r'.drop r.length, ?_⟩
  apply List.ext_getElem?
  intro k
  by_cases hlt : k < r.length
  · rw [List.getElem?_append_left hlt, List.getElem?_eq_getElem hlt]
    exact hk k _ (by omega) (List.getElem?_eq_getElem hlt)
  · rw [List.getElem?_append_right (by omega), List.getElem?_drop]
    congr 1
    omega
theorem Contract.full [I : Inp] (hF : FnX P f eff N x rs) {G : Inp → List CEntry} (hG : ∀ J, @GOk J P (G J)) (tr : Trans)
    (body : ∀ args m k, tr args m k → args.length ≤ N ∧ ∀ J : Inp, J.keep = m.length → J.at_ = I.at_ → @evX J P N eff (G J) x (slots (argSlots 0 args)) m (fun ex e m' => EndsX ex ∧ evR rs e m' fun s => k s m')) : Contract P f false tr := by
  refine ⟨hF.enter, fun args m k base w0 W r vs ht hst ha => ?_⟩
  obtain ⟨hlen, hev⟩ := body args m k ht
  have hl := @St.len I _ _ _ _ _ hst
  have hst2 : @St ⟨I.at_, m.length⟩ base w0 r m W := @St.mk ⟨I.at_, m.length⟩ _ _ _ _ _ (@St.low I _ _ _ _ _ hst) (@St.from_ I _ _ _ _ _ hst) (@St.inp I _ _ _ _ _ hst) hl (@St.obj I _ _ _ _ _ hst) (@St.sep I _ _ _ _ _ hst) (@St.hid I _ _ _ _ _ hst)
  refine (@FnX.calls P f eff N x rs (G ⟨I.at_, m.length⟩) ⟨I.at_, m.length⟩ hF (hG _) _ _ _ _ _ _ _ hst2 ha hlen (fun s m' => k s m') (hev ⟨I.at_, m.length⟩ rfl rfl)).mono ?_
  rintro e W1 ⟨s, m', r', u, hk, rfl, hst1, hs, hkp⟩
  obtain ⟨t, rfl⟩ := @kept_ext' ⟨I.at_, m.length⟩ _ _ _ rfl hl.symm hkp
  exact ⟨s, m', t, u, hk, rfl, @St.mk I _ _ _ _ _ (@St.low ⟨I.at_, m.length⟩ _ _ _ _ _ hst1) (@St.from_ ⟨I.at_, m.length⟩ _ _ _ _ _ hst1) (@St.inp ⟨I.at_, m.length⟩ _ _ _ _ _ hst1) (@St.len ⟨I.at_, m.length⟩ _ _ _ _ _ hst1) (@St.obj ⟨I.at_, m.length⟩ _ _ _ _ _ hst1) (@St.sep ⟨I.at_, m.length⟩ _ _ _ _ _ hst1) (@St.hid ⟨I.at_, m.length⟩ _ _ _ _ _ hst1), hs, fun h => by cases h⟩
end
section
variable {base : Nat → Prop} {w0 W : World} {r : List Loc} {m : Mem}
end
@[reducible] def inpBut (W : World) (b : Nat) : Inp := ⟨fun a => if a.block = b then none else W.cell? a, 1⟩
section
variable {base : Nat → Prop} {w0 W W1 : World} {r : List Loc} {m : Mem} {j : Nat} {l : Loc} {ob : SObj}
theorem St.one [Inp] (hst : St base w0 r m W) (hl : r[j]? = some l) (hob : m[j]? = some ob) (hown : ob.own = true) (hm : ob.isM = false) (hp : plainL ob.cells = true) : @St (inpBut W l.blk) (fun k => W.heap.size ≤ k ∨ k = l.blk) W [l] [⟨true, ob.cells⟩] W := by
  have hO := hst.obj j l ob hl hob
  refine @St.mk (inpBut W l.blk) _ _ _ _ _ (Low.refl _ _) (fun _ h => .inl h) (fun a u h => ?_) rfl (fun k l' o q1 q2 => ?_) (fun k k' l1 l2 o o' q1 q2 q3 q4 hne _ _ => ?_) ⟨fun _ => [], fun k l' o q1 q2 => ?_, by simp, by simp, by simp⟩
  · have h' : (if a.block = l.blk then none else W.cell? a) = some u := h
    split at h'
    · cases h'
    · rename_i hb
      have := cell_lt h'
      exact ⟨fun hh => by rcases hh with hh | hh <;> omega, h'⟩
  · match k, q1, q2 with
    | 0, q1, q2 =>
      simp at q1 q2
      subst q1; subst q2
      refine ⟨fun _ _ => ?_, hO.fits, fun _ => .inr rfl, hO.lt, trivial⟩
      obtain ⟨c, T, fr, g1, g2, g3, g4⟩ := hO.there hm (.inl hown)
      exact ⟨c, T, fr, g1, g2, plainL_is hp g3, fun _ => g4 hown⟩
    | k + 1, q1, q2 => simp at q1
  · have h1 := (List.getElem?_eq_some_iff.1 q1).1
    have h2 := (List.getElem?_eq_some_iff.1 q2).1
    simp at h1 h2
    omega
  · match k, q1, q2 with
    | 0, q1, q2 => simp at q2; subst q2; trivial
    | k + 1, q1, q2 => simp at q1
end
section
variable {P : Program} {f : FuncId} {eff : List FuncId} {N : Nat} {x : XC} {rs : List XR}
end
end Go.Proofs.Ytcejgadbpahbmaa.Sz
end
section
namespace Go.Proofs.Ytcejgadbpahbmaa.Sz
open Go.RowKit
def Turn [Inp] (d : Nat) (m : Mem) (s : SV) (m2 : Mem) (s2 : SV) : Prop :=
  ∀ (base : Nat → Prop) (w0 W : World) (r : List Loc) (u : Value), St base w0 r m W → s.Is r u → ∃ r2, St base w0 r2 m2 W ∧ s2.Is r2 u ∧ ∀ k, k < d → ∀ l, r[k]? = some l → r2[k]? = some l
theorem Turn.refl [Inp] {d : Nat} {m : Mem} {s : SV} : Turn d m s m s := fun base w0 W r u h1 h2 => ⟨r, h1, h2, fun _ _ _ h => h⟩
theorem Turn.trans [Inp] {d : Nat} {m m2 m3 : Mem} {s s2 s3 : SV} (h : Turn d m s m2 s2) (h2 : Turn d m2 s2 m3 s3) : Turn d m s m3 s3 := fun base w0 W r u q1 q2 => by
  obtain ⟨r2, a1, a2, a3⟩ := h base w0 W r u q1 q2
  obtain ⟨r3, b1, b2, b3⟩ := h2 base w0 W r2 u a1 a2
  exact ⟨r3, b1, b2, fun k hk l hl => b3 k hk l (a3 k hk l hl)⟩
section
variable {P : Program} {f : FuncId} {eff : List FuncId} {N : Nat} {x : XC} {rs : List XR}
end
end Go.Proofs.Ytcejgadbpahbmaa.Sz
end
section
namespace Go.Proofs.Ytcejgadbpahbmaa.Sz
open Go.RowKit
theorem CORE : (type_of% @Int.cast_ofNat_Int) ∧ (type_of% @Nat.mul_one) ∧ (type_of% @decide_true) ∧ (type_of% @decide_false) ∧ (type_of% @List.map_cons.{0, 0}) ∧ (type_of% @List.map_nil.{0, 0}) ∧ (type_of% @List.length_cons.{0}) ∧ (type_of% @List.length_nil.{0}) ∧ (type_of% @List.cons_append.{0}) ∧ (type_of% @List.nil_append.{0}) ∧ (type_of% @List.getElem?_cons_zero.{0}) ∧ (type_of% @List.getElem?_cons_succ.{0}) ∧ (type_of% @List.getElem?_nil.{0}) ∧ (type_of% @List.take_succ_cons.{0}) ∧ (type_of% @List.take_zero.{0}) ∧ (type_of% @List.drop_succ_cons.{0}) ∧ (type_of% @List.drop_zero.{0}) ∧ (type_of% @List.all_cons.{0}) ∧ (type_of% @List.all_nil.{0}) ∧ (type_of% @List.set_cons_zero.{0}) ∧ (type_of% @List.set_cons_succ.{0}) ∧ (type_of% @List.append_nil.{0}) ∧ (type_of% @Option.map_some.{0, 0}) ∧ (type_of% @Option.map_none.{0, 0}) ∧ (type_of% @cond_true.{1}) ∧ (type_of% @cond_false.{1}) ∧ (type_of% @Bool.true_eq_false) ∧ (type_of% @Bool.false_eq_true) ∧ (type_of% @Bool.not_true) ∧ (type_of% @Bool.not_false) ∧ (type_of% @true_and) ∧ (type_of% @and_true) ∧ (type_of% @Nat.zero_add) ∧ (type_of% @Nat.add_zero) ∧ (type_of% @Nat.zero_mul) ∧ (type_of% @Nat.le_refl) ∧ (type_of% @Int.toNat_natCast) ∧ (type_of% @Bool.and_self) ∧ (type_of% @Bool.true_and) ∧ (type_of% @Bool.and_true) ∧ (type_of% @and_self) ∧ (type_of% @of_int) ∧ (type_of% @of_bool) ∧ (type_of% @of_str) ∧ (type_of% @of_sl) ∧ (type_of% @of_p) ∧ (type_of% @of_agg) :=
  ⟨@Int.cast_ofNat_Int, @Nat.mul_one, @decide_true, @decide_false, @List.map_cons, @List.map_nil, @List.length_cons, @List.length_nil, @List.cons_append, @List.nil_append, @List.getElem?_cons_zero, @List.getElem?_cons_succ, @List.getElem?_nil, @List.take_succ_cons, @List.take_zero, @List.drop_succ_cons, @List.drop_zero, @List.all_cons, @List.all_nil, @List.set_cons_zero, @List.set_cons_succ, @List.append_nil, @Option.map_some, @Option.map_none, @cond_true, @cond_false, @Bool.true_eq_false, @Bool.false_eq_true, @Bool.not_true, @Bool.not_false, @true_and, @and_true, @Nat.zero_add, @Nat.add_zero, @Nat.zero_mul, @Nat.le_refl, @Int.toNat_natCast, @Bool.and_self, @Bool.true_and, @Bool.and_true, @and_self, @of_int, @of_bool, @of_str, @of_sl, @of_p, @of_agg⟩
end Go.Proofs.Ytcejgadbpahbmaa.Sz
end
section
namespace Go.Proofs.Ytcejgadbpahbmaa.Sz
open Go.RowKit
variable {P : Program} {f : FuncId} {eff : List FuncId} {N : Nat} {x : XC} {rs : List XR}
theorem St.join3 [Inp] {base : Nat → Prop} {w0 W W1 : World} {r r2 : List Loc} {m m2 : Mem} (hst : St base w0 r m W) (h2 : St (fun k => W.heap.size ≤ k) W r2 m2 W1) (hown : ∀ o ∈ m2, o.own = true ∨ (o.own = false ∧ o.cells = [])) : St base w0 (r ++ r2) (m ++ m2.map (SObj.up r.length)) W1 := by
  have hb : Below W.heap.size W W1 := h2.low.below
  have h1 := hst.below hb
  have split : ∀ (k : Nat) (l : Loc) (o : SObj), (r ++ r2)[k]? = some l → (m ++ m2.map (SObj.up r.length))[k]? = some o → (k < r.length ∧ r[k]? = some l ∧ m[k]? = some o) ∨ (r.length ≤ k ∧ r2[k - r.length]? = some l ∧ ∃ o2, m2[k - r.length]? = some o2 ∧ o = o2.up r.length) := by
    intro k l o hl ho
    rcases Nat.lt_or_ge k r.length with hk | hk
    · exact .inl ⟨hk, by rwa [List.getElem?_append_left hk] at hl, by rwa [List.getElem?_append_left (by rw [← hst.len]; exact hk)] at ho⟩
    · rw [List.getElem?_append_right hk] at hl
      rw [List.getElem?_append_right (by rw [← hst.len]; exact hk), ← hst.len, List.getElem?_map] at ho
      obtain ⟨o2, q1, q2⟩ := Option.map_eq_some_iff.1 ho
      exact .inr ⟨hk, hl, o2, q1, q2.symm⟩
  have new_ge : ∀ (k : Nat) (l : Loc) (o : SObj), r2[k]? = some l → m2[k]? = some o → ((o.up r.length).own = true ∨ (o.up r.length).cells ≠ []) → W.heap.size ≤ l.blk := fun k l o q1 q2 hal => (h2.obj k l o q1 q2).own (by
    rcases hown o (List.mem_of_getElem? q2) with h | ⟨h, hc⟩
    · exact h
    · rcases hal with hal | hal
      · simp only [SObj.up] at hal; rw [h] at hal; cases hal
      · exact (hal (by simp only [SObj.up, hc, upL])).elim)
  obtain ⟨F, hF⟩ := hst.hid
  obtain ⟨F2, hF2⟩ := h2.hid
  refine ⟨h1.low, h1.from_, h1.inp, by simp [hst.len, h2.len], fun k l o q1 q2 => ?_, fun k k' l l' o o' q1 q2 q3 q4 hne ho hal => ?_, fun k => if k < r.length then F k else F2 (k - r.length), fun k l o q1 q2 => ?_, fun k b hb' => ?_, fun k b hb' k' l o q1 q2 hal => ?_, fun k k' b hb1 hb2 => ?_⟩
  · rcases split k l o q1 q2 with ⟨_, p1, p2⟩ | ⟨_, p1, o2, p2, rfl⟩
    · exact (h1.obj k l o p1 p2).grow r2
    · obtain ⟨g1, g5, g6, g7, g8⟩ := h2.obj _ l o2 p1 p2
      refine ⟨fun hm hal => ?_, by simp only [SObj.up, upL_len]; exact g5, fun h => hst.from_ _ (Nat.le_trans hst.low.size (g6 h)), g7, g8.up⟩
      obtain ⟨c, T, fr, g1, g2, g3, g4⟩ := g1 (by rw [isM_up] at hm; exact hm) (by
        rcases hal with h | h
        · exact .inl h
        · exact .inr fun e => h (by simp only [SObj.up, e, upL]))
      refine ⟨c, T, fr, g1, g2, ?_, g4⟩
      simp only [SObj.up, upL_len]
      exact upL_is g3
  · rcases split k l o q1 q3 with ⟨a1, p1, p2⟩ | ⟨a1, p1, o2, p2, rfl⟩ <;> rcases split k' l' o' q2 q4 with ⟨b1, p3, p4⟩ | ⟨b1, p3, o3, p4, rfl⟩
    · exact h1.sep k k' l l' o o' p1 p3 p2 p4 hne ho hal
    · have := new_ge _ l' o3 p3 p4 hal
      have := hst.locs l (List.mem_of_getElem? p1)
      omega
    · have := new_ge _ l o2 p1 p2 (.inl ho)
      have := hst.locs l' (List.mem_of_getElem? p3)
      omega
    · refine h2.sep _ _ l l' o2 o3 p1 p3 p2 p4 (by omega) ho ?_
      rcases hal with h | h
      · exact .inl h
      · refine .inr fun e => h ?_
        simp only [SObj.up, e, upL]
  · rcases split k l o q1 q2 with ⟨a1, p1, p2⟩ | ⟨a1, p1, o2, p2, rfl⟩
    · simp only [if_pos a1]
      refine HidIs.grow ?_ r2
      cases ha : o.isA with
      | false => exact HidIs.not ha
      | true =>
        refine (hF.is k l o p1 p2).same hb.size fun b hb' => ?_
        rcases List.mem_cons.1 hb' with rfl | hb'
        · exact hb.block _ (hst.locs l (List.mem_of_getElem? p1))
        · exact hb.block _ (hF.base k b hb').2
    · simp only [if_neg (show ¬ k < r.length by omega)]
      exact (hF2.is _ l o2 p1 p2).up
  · split at hb'
    · exact ⟨(hF.base k b hb').1, Nat.lt_of_lt_of_le (hF.base k b hb').2 hb.size⟩
    · have := hF2.base _ b hb'
      exact ⟨hst.from_ _ (Nat.le_trans hst.low.size this.1), this.2⟩
  · rcases split k' l o q1 q2 with ⟨a1, p1, p2⟩ | ⟨a1, p1, o2, p2, rfl⟩
    · split at hb'
      · exact hF.far k b hb' k' l o p1 p2 hal
      · have := (hF2.base _ b hb').1
        have := hst.locs l (List.mem_of_getElem? p1)
        omega
    · split at hb'
      · have := (hF.base _ b hb').2
        have := new_ge _ l o2 p1 p2 hal
        omega
      · refine hF2.far _ b hb' _ l o2 p1 p2 ?_
        rcases hal with h | h
        · exact .inl h
        · refine .inr fun e => h ?_
          simp only [SObj.up, e, upL]
  · split at hb1
    · split at hb2
      · exact hF.apart k k' b hb1 hb2
      · have := (hF.base _ b hb1).2
        have := (hF2.base _ b hb2).1
        omega
    · split at hb2
      · have := (hF.base _ b hb2).2
        have := (hF2.base _ b hb1).1
        omega
      · have := hF2.apart _ _ b hb1 hb2
        omega
theorem St.join4 (I J : Inp) {base : Nat → Prop} {w0 W W1 : World} {r r2 : List Loc} {m m2 : Mem} (hst : @St I base w0 r m W) (h2 : @St J (fun k => W.heap.size ≤ k) W r2 m2 W1) (hown : ∀ o ∈ m2, o.own = true ∨ (o.own = false ∧ o.cells = [])) : @St I base w0 (r ++ r2) (m ++ m2.map (SObj.up r.length)) W1 :=
  @St.join3 I _ _ _ _ _ _ _ _ hst (@St.mk I _ _ _ _ _ (@St.low J _ _ _ _ _ h2) (fun _ h => h) (fun a u ha => ⟨by have := cell_lt (@St.inp_at _ _ _ _ _ I hst _ _ ha); omega, @St.inp_at _ _ _ _ _ I hst _ _ ha⟩) (@St.len J _ _ _ _ _ h2) (@St.obj J _ _ _ _ _ h2) (@St.sep J _ _ _ _ _ h2) (@St.hid J _ _ _ _ _ h2)) hown
theorem Contract.readF3 [I : Inp] (hF : FnX P f eff N x rs) {G : Inp → List CEntry} (hG : ∀ J, @GOk J P (G J)) (tr : Trans)
    (body : ∀ args m k, tr args m k → args.length ≤ N ∧ ∀ (J : Inp), J.keep = 0 → ∀ (us : List Value), KnowsL I J m args us → @evX J P N eff (G J) x (slots (argSlots 0 (us.map SV.of))) [] (fun ex e m' => EndsX ex ∧ evR rs e m' fun s => ∃ (g2 : List Nat) (s2 : SV) (m2 : Mem), NdL g2 m2 ∧ FitM g2 m' g2 m2 ∧ (∀ o ∈ m2, o.own = true ∨ (o.own = false ∧ o.cells = [])) ∧ Le g2 s2 s ∧ k (s2.up m.length) (m ++ m2.map (SObj.up m.length)))) : Contract P f true tr := by
  refine ⟨hF.enter, fun args m k base w0 W r vs ht hst ha => ?_⟩
  obtain ⟨hlen, hev⟩ := body args m k ht
  have hk := knowsL_of hst ha
  have hvl := IsL_len ha
  refine (@FnX.calls P f eff N x rs (G (inpOf W)) (inpOf W) hF (hG (inpOf W)) _ _ _ _ _ _ _ (St.inpOf W) (isL_of vs) (by simp; omega) (fun s m' => ∃ (g2 : List Nat) (s2 : SV) (m2 : Mem), NdL g2 m2 ∧ FitM g2 m' g2 m2 ∧ (∀ o ∈ m2, o.own = true ∨ (o.own = false ∧ o.cells = [])) ∧ Le g2 s2 s ∧ k (s2.up m.length) (m ++ m2.map (SObj.up m.length))) (hev (inpOf W) rfl vs hk)).mono ?_
  rintro e W1 ⟨s, m', r', u, ⟨g2, s2, m2, hn2, hm2, hown, hle2, hk⟩, rfl, hst1, hs, _⟩
  have hb : Below W.heap.size W W1 := (@St.low (inpOf W) _ _ _ _ _ hst1).below
  obtain ⟨r2, hst2, hr2, _⟩ := @fit_sound (inpOf W) 0 _ (fun _ => .any) _ _ [] _ _ _ _ #[] hn2 hm2 hst1
  have hj := St.join4 I (inpOf W) hst hst2 hown
  rw [← hst.len] at hk
  exact ⟨_, _, r2, u, hk, rfl, hj, up_is (Le.is hr2 hle2 hs), fun _ => Same.below hst hb⟩
end Go.Proofs.Ytcejgadbpahbmaa.Sz
end
section
namespace Go.Proofs.Ytcejgadbpahbmaa.Sz
open Go.RowKit
section
variable {P : Program} {f : FuncId} {eff : List FuncId} {N : Nat} {x : XC} {rs : List XR}
end
end Go.Proofs.Ytcejgadbpahbmaa.Sz
end
section
namespace Go.Proofs.Ytcejgadbpahbmaa.Sz
open Go.RowKit
section
variable {base : Nat → Prop} {w0 W : World} {r : List Loc} {m : Mem}
end
section
variable {P : Program} {f : FuncId} {eff : List FuncId} {N : Nat} {x : XC} {rs : List XR}
end
end Go.Proofs.Ytcejgadbpahbmaa.Sz
end
section
namespace Go.Proofs.Ytcejgadbpahbmaa.Sz
open Go.RowKit
section
variable {P : Program} {f : FuncId} {eff : List FuncId} {N : Nat} {x : XC} {rs : List XR}
end
end Go.Proofs.Ytcejgadbpahbmaa.Sz
end
section
namespace Go.Proofs.Ytcejgadbpahbmaa.Sz
open Go.RowKit
variable {P : Program} {f : FuncId} {eff : List FuncId} {N : Nat} {x : XC} {rs : List XR}
theorem Contract.plain0 [I : Inp] (hF : FnX P f eff N x rs) {G : Inp → List CEntry} (hG : ∀ J, @GOk J P (G J)) (tr : Trans)
    (body : ∀ args m k, tr args m k → ∃ (g : List Nat) (m0 : Mem) (args0 : List SV), g.Nodup ∧ FitM g m g m0 ∧ (∀ o ∈ m0, o.own = false) ∧ LeL g args0 args ∧ args0.length ≤ N ∧
      ∀ (J : Inp), J.keep = 0 → (∀ p k vs, @inpL I p k = some vs → @inpL J p k = some vs) → @evX J P N eff (G J) x (slots (argSlots 0 args0)) m0 (fun ex e m' => EndsX ex ∧ evR rs e m' fun s => s.plain = true ∧ k s m)) : Contract P f true tr := by
  refine ⟨hF.enter, fun args m k base w0 W r vs ht hst ha => ?_⟩
  obtain ⟨g, m0, args0, hn, hm, hro, hle, hlen, hev⟩ := body args m k ht
  obtain ⟨r0, hst0, hargs⟩ := view hn hm hro hst
  have hstJ : @St ⟨I.at_, 0⟩ (fun k => W.heap.size ≤ k) W r0 m0 W := @St.mk ⟨I.at_, 0⟩ _ _ _ _ _ (@St.low I _ _ _ _ _ hst0) (@St.from_ I _ _ _ _ _ hst0) (@St.inp I _ _ _ _ _ hst0) (@St.len I _ _ _ _ _ hst0) (@St.obj I _ _ _ _ _ hst0) (@St.sep I _ _ _ _ _ hst0) (@St.hid I _ _ _ _ _ hst0)
  refine (@FnX.calls P f eff N x rs (G ⟨I.at_, 0⟩) ⟨I.at_, 0⟩ hF (hG _) _ _ _ _ _ _ _ hstJ (hargs hle ha) hlen (fun s _ => s.plain = true ∧ k s m) (hev ⟨I.at_, 0⟩ rfl (fun p k vs h => h))).mono ?_
  rintro e W1 ⟨s, m', r', u, ⟨hp, hk⟩, rfl, hst1, hs, _⟩
  have hb : Below W.heap.size W W1 := (@St.low ⟨I.at_, 0⟩ _ _ _ _ _ hst1).below
  exact ⟨s, m, [], u, hk, rfl, by simpa using hst.below hb, plain_is hp hs, fun _ => Same.below hst hb⟩
end Go.Proofs.Ytcejgadbpahbmaa.Sz
end
section
namespace Go.Proofs.Ytcejgadbpahbmaa.Sz
open Go.RowKit
variable {P : Program} {f : FuncId} {eff : List FuncId} {N : Nat} {x : XC} {rs : List XR}
end Go.Proofs.Ytcejgadbpahbmaa.Sz
end
