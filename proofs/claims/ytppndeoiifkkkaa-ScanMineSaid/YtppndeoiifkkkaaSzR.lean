/- Symbolic walks, part R: calls whose arguments are known, reckoned by the kernel. No condition. -/
import Derived.Test.YtppndeoiifkkkaaSzM
namespace Go.Proofs.Ytppndeoiifkkkaa.Sz
open Go.RowKit
set_option linter.unusedVariables false
set_option linter.unusedSimpArgs false
/-! ### Slots -/
inductive BT where
  | tip
  | node (s : SV) (l r : BT)
def BT.get : BT → Nat → SV
  | .tip, _ => .any
  | .node s l r, i => bif Nat.beq i 0 then s else bif Nat.beq (i % 2) 1 then l.get (i / 2) else r.get (i / 2 - 1)
def BT.set : BT → Nat → SV → Option BT
  | .tip, _, _ => none
  | .node s l r, i, v => bif Nat.beq i 0 then some (.node v l r) else bif Nat.beq (i % 2) 1 then (match l.set (i / 2) v with | some l' => some (.node s l' r) | none => none) else (match r.set (i / 2 - 1) v with | some r' => some (.node s l r') | none => none)
def BT.full : Nat → BT
  | 0 => .tip
  | d + 1 => .node .any (BT.full d) (BT.full d)
theorem nbeq {a b : Nat} : Nat.beq a b = true ↔ a = b := ⟨Nat.eq_of_beq_eq_true, fun h => by rw [h]; exact Nat.beq_refl b⟩
theorem nbeqf {a b : Nat} : Nat.beq a b = false ↔ a ≠ b := by
  rw [← Bool.not_eq_true, nbeq]
theorem BT.get_set : ∀ {t t' : BT} {i : Nat} {v : SV}, t.set i v = some t' → ∀ j, t'.get j = if j = i then v else t.get j
  | .tip, t', i, v, h, j => by simp [BT.set] at h
  | .node s l r, t', i, v, h, j => by
    unfold BT.set at h
    cases h0 : Nat.beq i 0 with
    | true =>
      simp only [h0, cond_true] at h
      injection h with h; subst h
      rw [nbeq] at h0; subst h0
      unfold BT.get
      cases h1 : Nat.beq j 0 with
      | true => rw [nbeq] at h1; subst h1; simp
      | false => rw [nbeqf] at h1; simp [h1]
    | false =>
      simp only [h0, cond_false] at h
      rw [nbeqf] at h0
      cases h2 : Nat.beq (i % 2) 1 with
      | true =>
        simp only [h2, cond_true] at h
        split at h
        · rename_i l' hl
          injection h with h; subst h
          rw [nbeq] at h2
          unfold BT.get
          cases h1 : Nat.beq j 0 with
          | true => rw [nbeq] at h1; subst h1; simp only [cond_true]; rw [if_neg (by omega)]
          | false =>
            simp only [cond_false]
            rw [nbeqf] at h1
            cases h3 : Nat.beq (j % 2) 1 with
            | true =>
              rw [nbeq] at h3
              simp only [cond_true]
              rw [BT.get_set hl]
              by_cases e : j = i
              · subst e; simp
              · rw [if_neg e, if_neg (by omega)]
            | false =>
              rw [nbeqf] at h3
              simp only [cond_false]
              rw [if_neg (by omega)]
        · cases h
      | false =>
        simp only [h2, cond_false] at h
        split at h
        · rename_i r' hr
          injection h with h; subst h
          rw [nbeqf] at h2
          unfold BT.get
          cases h1 : Nat.beq j 0 with
          | true => rw [nbeq] at h1; subst h1; simp only [cond_true]; rw [if_neg (by omega)]
          | false =>
            simp only [cond_false]
            rw [nbeqf] at h1
            cases h3 : Nat.beq (j % 2) 1 with
            | true =>
              rw [nbeq] at h3
              simp only [cond_true]
              rw [if_neg (by omega)]
            | false =>
              rw [nbeqf] at h3
              simp only [cond_false]
              rw [BT.get_set hr]
              by_cases e : j = i
              · subst e; simp
              · rw [if_neg e, if_neg (by omega)]
        · cases h
theorem BT.put_of {t t' : BT} {i : Nat} {v : SV} (h : t.set i v = some t') : put t.get i v = t'.get := by
  funext j
  rw [BT.get_set h]
  rfl
theorem BT.full_get : ∀ d i, (BT.full d).get i = .any
  | 0, i => rfl
  | d + 1, i => by
    unfold BT.full BT.get
    cases Nat.beq i 0 <;> cases Nat.beq (i % 2) 1 <;> simp [BT.full_get d]
def BT.args (t : BT) : Nat → List SV → Option BT
  | _, [] => some t
  | k, s :: l => match BT.args t (k + 1) l with | some t' => t'.set k s | none => none
theorem BT.args_of {t : BT} (ht : ∀ i, t.get i = .any) : ∀ {k : Nat} {l : List SV} {t' : BT}, BT.args t k l = some t' → slots (argSlots k l) = t'.get
  | k, [], t', h => by
    simp only [BT.args] at h
    injection h with h; subst h
    funext i
    simp [argSlots, slots, ht]
  | k, s :: l, t', h => by
    simp only [BT.args] at h
    split at h
    · rename_i t1 h1
      rw [← BT.put_of h, ← BT.args_of ht h1]
      funext i
      simp [argSlots, slots, put]
    · cases h
/-! ### The same -/
def veq : Value → Value → Bool
  | .bool a, .bool b => a == b
  | .int k a, .int k' b => decide (k = k') && decide (a = b)
  | .string a, .string b => decide (a = b)
  | .pointer a, .pointer b => decide (a = b)
  | .slice a n c, .slice b m d => decide (a = b) && Nat.beq n m && Nat.beq c d
  | .nilFunc, .nilFunc => true
  | .nilIface, .nilIface => true
  | _, _ => false
theorem veq_ok {a b : Value} (h : veq a b = true) : a = b := by
  unfold veq at h
  split at h
  all_goals first | (cases h; done) | rfl | skip
  · simp at h; rw [h]
  · simp at h; rw [h.1, h.2]
  · simp at h; rw [h]
  · simp at h; rw [h]
  · simp only [Bool.and_eq_true, decide_eq_true_eq, nbeq] at h; rw [h.1.1, h.1.2, h.2]
mutual
def seq : SV → SV → Bool
  | .v a, .v b => veq a b
  | .ptr a b, .ptr c d => Nat.beq a c && Nat.beq b d
  | .row a b c d, .row a' b' c' d' => Nat.beq a a' && Nat.beq b b' && Nat.beq c c' && Nat.beq d d'
  | .agg a, .agg b => seqL a b
  | .tup a, .tup b => seqL a b
  | .fn f a, .fn g b => Nat.beq f g && seqL a b
  | .bnd f a, .bnd g b => Nat.beq f g && seqL a b
  | .emp, .emp => true
  | .any, .any => true
  | _, _ => false
def seqL : List SV → List SV → Bool
  | [], [] => true
  | a :: l, b :: m => seq a b && seqL l m
  | _, _ => false
end
mutual
theorem seq_ok : ∀ {a b : SV}, seq a b = true → a = b
  | .v a, b, h => by cases b <;> simp only [seq] at h <;> first | (cases h; done) | rw [veq_ok h]
  | .ptr a b, c, h => by
    cases c <;> simp only [seq] at h <;> first | (cases h; done) | skip
    simp only [Bool.and_eq_true, nbeq] at h; rw [h.1, h.2]
  | .row a b c d, s, h => by
    cases s <;> simp only [seq] at h <;> first | (cases h; done) | skip
    simp only [Bool.and_eq_true, nbeq] at h; rw [h.1.1.1, h.1.1.2, h.1.2, h.2]
  | .agg a, b, h => by
    cases b <;> simp only [seq] at h <;> first | (cases h; done) | skip
    rw [seqL_ok h]
  | .tup a, b, h => by
    cases b <;> simp only [seq] at h <;> first | (cases h; done) | skip
    rw [seqL_ok h]
  | .fn f a, b, h => by
    cases b <;> simp only [seq] at h <;> first | (cases h; done) | skip
    simp only [Bool.and_eq_true, nbeq] at h
    rw [h.1, seqL_ok h.2]
  | .bnd f a, b, h => by
    cases b <;> simp only [seq] at h <;> first | (cases h; done) | skip
    simp only [Bool.and_eq_true, nbeq] at h
    rw [h.1, seqL_ok h.2]
  | .emp, b, h => by cases b <;> simp only [seq] at h <;> first | (cases h; done) | rfl
  | .any, b, h => by cases b <;> simp only [seq] at h <;> first | (cases h; done) | rfl
theorem seqL_ok : ∀ {a b : List SV}, seqL a b = true → a = b
  | [], [], _ => rfl
  | [], _ :: _, h => by simp [seqL] at h
  | _ :: _, [], h => by simp [seqL] at h
  | a :: l, b :: m, h => by
    simp only [seqL, Bool.and_eq_true] at h
    rw [seq_ok h.1, seqL_ok h.2]
end
def btq : BT → BT → Bool
  | .tip, .tip => true
  | .node s l r, .node s' l' r' => seq s s' && btq l l' && btq r r'
  | _, _ => false
theorem btq_ok : ∀ {a b : BT}, btq a b = true → a = b
  | .tip, .tip, _ => rfl
  | .tip, .node .., h => by simp [btq] at h
  | .node .., .tip, h => by simp [btq] at h
  | .node s l r, .node s' l' r', h => by
    simp only [btq, Bool.and_eq_true] at h
    rw [seq_ok h.1.1, btq_ok h.1.2, btq_ok h.2]
def memq : Mem → Mem → Bool
  | [], [] => true
  | ⟨o, c⟩ :: m, ⟨o', c'⟩ :: m' => (o == o') && seqL c c' && memq m m'
  | _, _ => false
theorem memq_ok : ∀ {a b : Mem}, memq a b = true → a = b
  | [], [], _ => rfl
  | [], _ :: _, h => by simp [memq] at h
  | _ :: _, [], h => by simp [memq] at h
  | ⟨o, c⟩ :: m, ⟨o', c'⟩ :: m', h => by
    simp only [memq, Bool.and_eq_true, beq_iff_eq] at h
    rw [h.1.1, seqL_ok h.1.2, memq_ok h.2]
/-! ### Operations that only look -/
def rPart (cs : List SV) (off : Nat) : Option Nat → Option SV
  | none => cs[off]?
  | some n => bif Nat.ble (off + n) cs.length then some (.agg ((cs.drop off).take n)) else none
section
variable {K : SV → Prop} {s : SV}
theorem rPart_ok {cs : List SV} {off : Nat} {z : Option Nat} (h : rPart cs off z = some s) (hK : K s) : evPart cs off z K := by
  cases z with
  | none => simp only [rPart] at h; simp only [evPart, h]; exact hK
  | some n =>
    simp only [rPart] at h
    cases hb : Nat.ble (off + n) cs.length with
    | true =>
      simp only [hb, cond_true] at h
      injection h with h; subst h
      exact ⟨Nat.le_of_ble_eq_true hb, hK⟩
    | false => simp [hb] at h
def rInt (op : BinOp) (k k' : IntKind) (a b : Int) : Option SV :=
  match op with
  | .shl => if 0 ≤ b then some (.v (.int k (k.wrap (a * 2 ^ (min b.toNat k.bits))))) else none
  | .shr => if 0 ≤ b then some (.v (.int k (a.fdiv (2 ^ (min b.toNat k.bits))))) else none
  | .add => if k = k' then some (.v (.int k (k.wrap (a + b)))) else none
  | .sub => if k = k' then some (.v (.int k (k.wrap (a - b)))) else none
  | .mul => if k = k' then some (.v (.int k (k.wrap (a * b)))) else none
  | .quo => if k = k' ∧ b ≠ 0 then some (.v (.int k (k.wrap (a.tdiv b)))) else none
  | .rem => if k = k' ∧ b ≠ 0 then some (.v (.int k (a.tmod b))) else none
  | .and => if k = k' then some (.v (.int k (k.wrap (BitVec.ofInt k.bits a &&& BitVec.ofInt k.bits b).toNat))) else none
  | .or => if k = k' then some (.v (.int k (k.wrap (BitVec.ofInt k.bits a ||| BitVec.ofInt k.bits b).toNat))) else none
  | .xor => if k = k' then some (.v (.int k (k.wrap (BitVec.ofInt k.bits a ^^^ BitVec.ofInt k.bits b).toNat))) else none
  | .andNot => if k = k' then some (.v (.int k (k.wrap (BitVec.ofInt k.bits a &&& ~~~ BitVec.ofInt k.bits b).toNat))) else none
  | .eql => if k = k' then some (.v (.bool (decide (a = b)))) else none
  | .neq => if k = k' then some (.v (.bool (!decide (a = b)))) else none
  | .lss => if k = k' then some (.v (.bool (decide (a < b)))) else none
  | .leq => if k = k' then some (.v (.bool (decide (a ≤ b)))) else none
  | .gtr => if k = k' then some (.v (.bool (decide (b < a)))) else none
  | .geq => if k = k' then some (.v (.bool (decide (b ≤ a)))) else none
theorem rInt_ok {op : BinOp} {k k' : IntKind} {a b : Int} (h : rInt op k k' a b = some s) (hK : K s) : evInt op k k' a b K := by
  cases op <;> simp only [rInt] at h <;> (split at h <;> first | (cases h; done) | skip) <;> (injection h with h; subst h) <;> rename_i hc <;> simp only [evInt]
  case eql => exact ⟨hc, by rwa [show (a == b) = decide (a = b) from by rw [Bool.eq_iff_iff]; simp]⟩
  case neq => exact ⟨hc, by rwa [show (a != b) = !decide (a = b) from by rw [Bool.eq_iff_iff]; simp]⟩
  all_goals first | exact ⟨hc, hK⟩ | exact ⟨hc.1, hc.2, hK⟩
def rStr (op : BinOp) (a b : ByteArray) : Option SV :=
  match op with
  | .add => if ((a.size + b.size : Nat) : Int) ≤ 9223372036854775807 then some (.v (.string (a ++ b))) else none
  | .eql => some (.v (.bool (a.toList == b.toList)))
  | .neq => some (.v (.bool (!(a.toList == b.toList))))
  | .lss => some (.v (.bool (Op.bytesLess a.toList b.toList)))
  | _ => none
theorem rStr_ok {op : BinOp} {a b : ByteArray} (h : rStr op a b = some s) (hK : K s) : evStr op a b K := by
  cases op <;> simp only [rStr] at h <;> simp only [evStr]
  case add =>
    split at h
    · rename_i hc
      injection h with h; subst h; exact ⟨hc, hK⟩
    · cases h
  all_goals first | (cases h; done) | (injection h with h; subst h; exact hK)
def rBin (op : BinOp) (x y : SV) : Option SV :=
  match x, y with
  | .v (.int k a), .v (.int k' b) => rInt op k k' a b
  | .v (.string a), .v (.string b) => rStr op a b
  | _, _ => none
theorem rBin_ok {op : BinOp} {x y : SV} (h : rBin op x y = some s) (hK : K s) : evBin op x y K := by
  unfold rBin at h
  unfold evBin
  split at h
  · exact rInt_ok h hK
  · exact rStr_ok h hK
  · cases h
def rEqn (neg : Bool) (srt : Nat) (x y : SV) : Option SV :=
  match isNil x, isNil y with
  | some true, some b => bif Nat.beq (sort x) srt && Nat.beq (sort y) srt then some (.v (.bool (bif neg then !b else b))) else none
  | some false, some true => bif Nat.beq (sort x) srt && Nat.beq (sort y) srt then some (.v (.bool neg)) else none
  | _, _ => none
theorem rEqn_ok {neg : Bool} {srt : Nat} {x y : SV} (h : rEqn neg srt x y = some s) (hK : K s) : evEqn neg srt x y K := by
  unfold rEqn at h
  unfold evEqn
  split at h
  · rename_i h1 h2
    simp only [h1, h2]
    cases hb : Nat.beq (sort x) srt && Nat.beq (sort y) srt with
    | true =>
      simp only [hb, cond_true] at h
      injection h with h; subst h
      simp only [Bool.and_eq_true, nbeq] at hb
      exact ⟨hb, hK⟩
    | false => simp [hb] at h
  · rename_i h1 h2
    simp only [h1, h2]
    cases hb : Nat.beq (sort x) srt && Nat.beq (sort y) srt with
    | true =>
      simp only [hb, cond_true] at h
      injection h with h; subst h
      simp only [Bool.and_eq_true, nbeq] at hb
      exact ⟨hb, hK⟩
    | false => simp [hb] at h
  · cases h
def rCs : List CK → List SV → List SV → Option Bool
  | [], [], [] => some true
  | .int :: ks, .v (.int q a) :: xs, .v (.int q' b) :: ys => if q = q' then (match rCs ks xs ys with | some r => some ((a == b) && r) | none => none) else none
  | .bool :: ks, .v (.bool a) :: xs, .v (.bool b) :: ys => (match rCs ks xs ys with | some r => some ((a == b) && r) | none => none)
  | .str :: ks, .v (.string a) :: xs, .v (.string b) :: ys => (match rCs ks xs ys with | some r => some ((a.toList == b.toList) && r) | none => none)
  | _, _, _ => none
theorem rCs_ok : ∀ {ks : List CK} {xs ys : List SV} {b : Bool} {K : Bool → Prop}, rCs ks xs ys = some b → K b → evCs ks xs ys K := by
  intro ks
  induction ks with
  | nil =>
    intro xs ys b K h hK
    unfold rCs at h
    split at h
    · injection h with h; subst h; exact hK
    all_goals first | (rename_i heq; cases heq; done) | (rename_i heq _; cases heq; done) | (rename_i heq _ _; cases heq; done) | cases h
  | cons k ks ih =>
    intro xs ys b K h hK
    unfold rCs at h
    split at h
    · rename_i heq; cases heq
    · rename_i heq; cases heq
      split at h
      · rename_i hq
        split at h
        · rename_i r hr
          injection h with h; subst h
          exact ⟨hq, ih (K := fun r => K (_ && r)) hr hK⟩
        · cases h
      · cases h
    · rename_i heq; cases heq
      split at h
      · rename_i r hr
        injection h with h; subst h
        exact ih (K := fun r => K (_ && r)) hr hK
      · cases h
    · rename_i heq; cases heq
      split at h
      · rename_i r hr
        injection h with h; subst h
        exact ih (K := fun r => K (_ && r)) hr hK
      · cases h
    · cases h
def rMx (big : Bool) : SV → List SV → Option SV
  | s, [] => some s
  | .v (.int k a), .v (.int k' b) :: l => rMx big (.v (.int k (bif big then (if b > a then b else a) else (if b < a then b else a)))) l
  | _, _ => none
theorem rMx_ok {big : Bool} : ∀ {l : List SV} {x : SV}, rMx big x l = some s → K s → evMx big x l K := by
  intro l
  induction l with
  | nil =>
    intro x h hK
    simp only [rMx] at h
    injection h with h; subst h
    exact hK
  | cons y l ih =>
    intro x h hK
    unfold rMx at h
    split at h
    · rename_i heq; cases heq
    · rename_i heq; cases heq
      exact ih h hK
    · cases h
def rBd (d : Nat) (x : Option SV) : Option Nat :=
  match x with
  | none => some d
  | some (.v (.int _ j)) => if 0 ≤ j then some j.toNat else none
  | _ => none
theorem rBd_ok {d n : Nat} {x : Option SV} {K : Nat → Prop} (h : rBd d x = some n) (hK : K n) : evBd d x K := by
  unfold rBd at h
  unfold evBd
  split at h
  · injection h with h; subst h; exact hK
  · split at h
    · rename_i hj
      injection h with h; subst h; exact ⟨hj, hK⟩
    · cases h
  · cases h
def rCut (k o n sz : Nat) (lo hi : Option SV) : Option SV :=
  match rBd n hi, rBd 0 lo with
  | some h, some l => if l ≤ h ∧ h ≤ n then (if l = 0 ∨ l < n then some (.row k (o + l * sz) (h - l) sz) else some .emp) else none
  | _, _ => none
theorem rCut_ok {k o n sz : Nat} {lo hi : Option SV} (h : rCut k o n sz lo hi = some s) (hK : K s) : evCut k o n sz lo hi K := by
  unfold rCut at h
  unfold evCut
  split at h
  · rename_i hh ll h1 h2
    split at h
    · rename_i hc
      refine rBd_ok h1 (rBd_ok h2 ⟨hc, ?_⟩)
      split at h
      · rename_i hc2
        injection h with h; subst h
        rw [if_pos hc2]; exact hK
      · rename_i hc2
        injection h with h; subst h
        rw [if_neg hc2]; exact hK
    · cases h
  · cases h
def rSl (m : Mem) (z : Nat) : SV → Option (Nat × List SV)
  | .row k o n sz => bif Nat.beq sz z then (match m[k]? with | some ob => bif Nat.ble (o + n * sz) ob.cells.length then some (n, (ob.cells.drop o).take (n * sz)) else none | none => none) else none
  | .v (.slice none 0 _) => some (0, [])
  | .emp => some (0, [])
  | _ => none
theorem rSl_ok [Inp] {m : Mem} {z : Nat} {x : SV} {p : Nat × List SV} (h : rSl m z x = some p) : slOf m z x = some p := by
  unfold rSl at h
  split at h
  · rename_i k o n sz
    cases hz : Nat.beq sz z with
    | true =>
      simp only [hz, cond_true] at h
      rw [nbeq] at hz
      unfold slOf
      simp only [hz, if_true]
      split at h
      · rename_i ob hob
        simp only [hob]
        cases hb : Nat.ble (o + n * sz) ob.cells.length with
        | true =>
          simp only [hb, cond_true] at h
          subst hz
          rw [if_pos (Nat.le_of_ble_eq_true hb)]; exact h
        | false => simp [hb] at h
      · cases h
    | false => simp [hz] at h
  · rw [← h]; exact sl_0
  · rw [← h]; exact sl_e
  · cases h
def rA (x : XA) (e : Env) (m : Mem) : Option SV :=
  match x with
  | .mv x => some (x.get e)
  | .pick c a b => match c.get e with | .v (.bool t) => some (bif t then a.get e else b.get e) | _ => none
  | .bin op x y => rBin op (x.get e) (y.get e)
  | .eqb neg x y => match x.get e, y.get e with | .v (.bool a), .v (.bool b) => some (.v (.bool (bif neg then !(a == b) else a == b))) | _, _ => none
  | .eqn neg srt x y => rEqn neg srt (x.get e) (y.get e)
  | .un op x => match op, x.get e with | .not, .v (.bool b) => some (.v (.bool !b)) | .neg, .v (.int k n) => some (.v (.int k (k.wrap (0 - n)))) | .xor, .v (.int k n) => some (.v (.int k (k.wrap (BitVec.ofInt k.bits (if k.signed then -1 else k.max) ^^^ BitVec.ofInt k.bits n).toNat))) | _, _ => none
  | .conv k x => match x.get e with | .v (.int _ n) => some (.v (.int k (k.wrap n))) | _ => none
  | .field off sz x => match x.get e with | .agg cs => rPart cs off sz | _ => none
  | .faddr off x => match x.get e with | .ptr k o => some (.ptr k (o + off)) | _ => none
  | .iarr n sz x i => match x.get e, i.get e with | .ptr k o, .v (.int _ j) => if 0 ≤ j ∧ j < (n : Int) then some (.ptr k (o + j.toNat * sz)) else none | _, _ => none
  | .isl sz x i => match x.get e, i.get e with | .row k o n s, .v (.int _ j) => if 0 ≤ j ∧ j < (n : Int) then some (.ptr k (o + j.toNat * sz)) else none | _, _ => none
  | .idx n sz agg x i => match x.get e, i.get e with | .agg cs, .v (.int _ j) => if 0 ≤ j ∧ j < (n : Int) then rPart cs (j.toNat * sz) (bif agg then some sz else none) else none | _, _ => none
  | .extract i x => match x.get e with | .tup cs => cs[i]? | _ => none
  | .load sz x => match x.get e with | .ptr k o => (match m[k]? with | some ob => rPart ob.cells o sz | none => none) | _ => none
  | .len x => match x.get e with | .row _ _ n _ => some (.v (.int .i64 n)) | .emp => some (.v (.int .i64 0)) | .v (.slice _ n _) => some (.v (.int .i64 n)) | _ => none
  | .lens x => match x.get e with | .v (.string s) => some (.v (.int .i64 s.size)) | _ => none
  | .nilc x => match x.get e with | .ptr k o => some (.ptr k o) | .fn f c => some (.fn f c) | .bnd f c => some (.bnd f c) | _ => none
  | .mkfn f cap => some (.fn f (cap.map (XO.get e)))
  | .mkbnd f l => some (.bnd f (l.map (XO.get e)))
  | .eqs neg ks x y => match x.get e, y.get e with | .agg xs, .agg ys => (match rCs ks xs ys with | some b => some (.v (.bool (bif neg then !b else b))) | none => none) | _, _ => none
  | .mx big x l => match x.get e with | .v (.int k a) => rMx big (.v (.int k a)) (l.map (XO.get e)) | _ => none
  | .slc sz x lo hi => match x.get e with
    | .row k o n s => bif Nat.beq s sz then rCut k o n sz (lo.map (XO.get e)) (hi.map (XO.get e)) else none
    | .v (.slice none 0 0) => (match rBd 0 (hi.map (XO.get e)), rBd 0 (lo.map (XO.get e)) with | some 0, some 0 => some (.v (.slice none 0 0)) | _, _ => none)
    | _ => none
  | .slca n sz x lo hi => match x.get e with
    | .ptr k o => (match m[k]? with | some ob => bif Nat.ble (o + n * sz) ob.cells.length then rCut k o n sz (lo.map (XO.get e)) (hi.map (XO.get e)) else none | none => none)
    | _ => none
  | .slcs x lo hi => match x.get e with
    | .v (.string s) => (match rBd s.size (hi.map (XO.get e)), rBd 0 (lo.map (XO.get e)) with | some h, some l => if l ≤ h ∧ h ≤ s.size then some (.v (.string (s.extract l h))) else none | _, _ => none)
    | _ => none
  | .slc3 sz x lo hi mx => match x.get e with
    | .row k o n s => (match rBd n (some (mx.get e)), rBd n (some (hi.get e)), rBd 0 (lo.map (XO.get e)) with
      | some mm, some h, some l => if s = sz ∧ l ≤ h ∧ h ≤ mm ∧ mm ≤ n then (if l = 0 ∨ l < mm then some (.row k (o + l * sz) (h - l) sz) else some .emp) else none
      | _, _, _ => none)
    | _ => none
  | .sidx x i => match x.get e, i.get e with
    | .v (.string s), .v (.int _ j) => if 0 ≤ j ∧ j < (s.size : Int) then some (.v (.int .u8 ((s[j.toNat]?.getD 0).toNat))) else none
    | _, _ => none
  | .b2s x => match rSl m 1 (x.get e) with | some p => (match bytesV p.2 with | some bs => some (.v (.string (strOf bs))) | none => none) | none => none
  | .strc x => match x.get e with | .v (.string s) => some (.v (.string s)) | _ => none
  | .capc x => none
theorem rA_ok [Inp] {x : XA} {e : Env} {m : Mem} (h : rA x e m = some s) (hK : K s) : evA x e m K := by
  cases x <;> simp only [rA] at h <;> simp only [evA]
  case mv x => injection h with h; subst h; exact hK
  case pick c a b =>
    split at h
    · rename_i t ht
      simp only [ht]
      injection h with h; subst h
      cases t
      · exact hK
      · exact hK
    · cases h
  case bin op x y => exact rBin_ok h hK
  case eqb neg x y =>
    unfold evEqb
    split at h
    · rename_i h1 h2
      simp only [h1, h2]
      injection h with h; subst h; exact hK
    · cases h
  case eqn neg srt x y => exact rEqn_ok h hK
  case un op x =>
    unfold evUn
    split at h
    · rename_i h1; simp only [h1]; injection h with h; subst h; exact hK
    · rename_i h1; simp only [h1]; injection h with h; subst h; exact hK
    · rename_i h1; simp only [h1]; injection h with h; subst h; exact hK
    · cases h
  case conv k x =>
    split at h
    · rename_i h1; simp only [h1]; injection h with h; subst h; exact hK
    · cases h
  case field off sz x =>
    split at h
    · rename_i h1; simp only [h1]; exact rPart_ok h hK
    · cases h
  case faddr off x =>
    split at h
    · rename_i h1; simp only [h1]; injection h with h; subst h; exact hK
    · cases h
  case iarr n sz x i =>
    split at h
    · rename_i h1 h2
      simp only [h1, h2]
      split at h
      · rename_i hc; injection h with h; subst h; exact ⟨hc, hK⟩
      · cases h
    · cases h
  case isl sz x i =>
    split at h
    · rename_i h1 h2
      simp only [h1, h2]
      split at h
      · rename_i hc; injection h with h; subst h; exact ⟨hc, hK⟩
      · cases h
    · cases h
  case idx n sz agg x i =>
    split at h
    · rename_i h1 h2
      simp only [h1, h2]
      split at h
      · rename_i hc; exact ⟨hc, rPart_ok h hK⟩
      · cases h
    · cases h
  case extract i x =>
    split at h
    · rename_i h1; simp only [h1, h]; exact hK
    · cases h
  case load sz x =>
    split at h
    · rename_i k o h1
      simp only [h1]
      split at h
      · rename_i ob hob; simp only [hob]; exact rPart_ok h hK
      · cases h
    · cases h
  case len x =>
    split at h
    · rename_i h1; simp only [h1]; injection h with h; subst h; exact hK
    · rename_i h1; simp only [h1]; injection h with h; subst h; exact hK
    · rename_i h1; simp only [h1]; injection h with h; subst h; exact hK
    · cases h
  case lens x =>
    split at h
    · rename_i h1; simp only [h1]; injection h with h; subst h; exact hK
    · cases h
  case nilc x =>
    split at h
    · rename_i h1; simp only [h1]; injection h with h; subst h; exact hK
    · rename_i h1; simp only [h1]; injection h with h; subst h; exact hK
    · rename_i h1; simp only [h1]; injection h with h; subst h; exact hK
    · cases h
  case mkfn f cap => injection h with h; subst h; exact hK
  case mkbnd f l => injection h with h; subst h; exact hK
  case eqs neg ks x y =>
    split at h
    · rename_i h1 h2
      simp only [h1, h2]
      split at h
      · rename_i b hb
        injection h with h; subst h
        exact rCs_ok hb hK
      · cases h
    · cases h
  case mx big x l =>
    split at h
    · rename_i h1; simp only [h1]; exact rMx_ok h hK
    · cases h
  case slc sz x lo hi =>
    split at h
    · rename_i k o n s1 h1
      simp only [h1]
      cases hz : Nat.beq s1 sz with
      | true => simp only [hz, cond_true] at h; exact ⟨nbeq.1 hz, rCut_ok h hK⟩
      | false => simp [hz] at h
    · rename_i h1
      simp only [h1]
      split at h
      · rename_i h2 h3
        injection h with h; subst h
        exact rBd_ok h2 (rBd_ok h3 ⟨by omega, by simpa [cutA] using hK⟩)
      · cases h
    · cases h
  case slca n sz x lo hi =>
    split at h
    · rename_i k o h1
      simp only [h1]
      split at h
      · rename_i ob hob
        cases hb : Nat.ble (o + n * sz) ob.cells.length with
        | true =>
          simp only [hb, cond_true] at h
          simp only [hob]
          exact ⟨Nat.le_of_ble_eq_true hb, rCut_ok h hK⟩
        | false => simp [hb] at h
      · cases h
    · cases h
  case slcs x lo hi =>
    split at h
    · rename_i s1 h1
      simp only [h1]
      split at h
      · rename_i hh ll h2 h3
        split at h
        · rename_i hc
          injection h with h; subst h
          exact rBd_ok h2 (rBd_ok h3 ⟨hc, hK⟩)
        · cases h
      · cases h
    · cases h
  case slc3 sz x lo hi mx =>
    split at h
    · rename_i k o n s1 h1
      simp only [h1]
      split at h
      · rename_i mm hh ll h2 h3 h4
        split at h
        · rename_i hc
          refine ⟨hc.1, rBd_ok h2 (rBd_ok h3 (rBd_ok h4 ⟨hc.2, ?_⟩))⟩
          split at h
          · rename_i hc2; injection h with h; subst h; rw [if_pos hc2]; exact hK
          · rename_i hc2; injection h with h; subst h; rw [if_neg hc2]; exact hK
        · cases h
      · cases h
    · cases h
  case sidx x i =>
    split at h
    · rename_i h1 h2
      simp only [h1, h2]
      split at h
      · rename_i hc; injection h with h; subst h; exact ⟨hc, hK⟩
      · cases h
    · cases h
  case b2s x =>
    unfold evB2s
    split at h
    · rename_i p hp
      simp only [rSl_ok hp]
      split at h
      · rename_i bs hbs
        simp only [hbs]
        injection h with h; subst h; exact hK
      · cases h
    · cases h
  case strc x =>
    split at h
    · rename_i h1; simp only [h1]; injection h with h; subst h; exact hK
    · cases h
  case capc x => cases h
end
end Go.Proofs.Ytppndeoiifkkkaa.Sz
