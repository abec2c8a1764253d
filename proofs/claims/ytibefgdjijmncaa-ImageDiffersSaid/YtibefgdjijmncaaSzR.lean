/- Symbolic walks, part R: calls whose arguments are known, reckoned by the kernel: values, slots, memory. No condition. -/
import Derived.Test.YtibefgdjijmncaaSzW
namespace Go.Proofs.Ytibefgdjijmncaa.Sz
open Go.RowKit
set_option linter.unusedVariables false
set_option linter.unusedSimpArgs false
/-! ### Slots -/
inductive BT where
  | tip
  | node (s : SV) (l r : BT)
def BT.get : BT → Nat → SV
  | .tip, _ => .any
  | .node s l r, i => bif Nat.beq i 0 then s else bif Nat.beq (i % 2) 1 then l.get (i / 2) else r.get (i / 2 - 1)
def BT.set : BT → Nat → SV → Option BT
  | .tip, _, _ => none
  | .node s l r, i, v => bif Nat.beq i 0 then some (.node v l r) else bif Nat.beq (i % 2) 1 then (match l.set (i / 2) v with | some l' => some (.node s l' r) | none => none) else (match r.set (i / 2 - 1) v with | some r' => some (.node s l r') | none => none)
def BT.full : Nat → BT
  | 0 => .tip
  | d + 1 => .node .any (BT.full d) (BT.full d)
theorem nbeq {a b : Nat} : Nat.beq a b = true ↔ a = b := ⟨Nat.eq_of_beq_eq_true, fun h => by rw [h]; exact Nat.beq_refl b⟩
theorem nbeqf {a b : Nat} : Nat.beq a b = false ↔ a ≠ b := by
  rw [← Bool.not_eq_true, nbeq]
theorem BT.get_set : ∀ {t t' : BT} {i : Nat} {v : SV}, t.set i v = some t' → ∀ j, t'.get j = if j = i then v else t.get j
  | .tip, t', i, v, h, j => by simp [BT.set] at h
  | .node s l r, t', i, v, h, j => by
    unfold BT.set at h
    cases h0 : Nat.beq i 0 with
    | true =>
      simp only [h0, cond_true] at h
      injection h with h; subst h
      rw [nbeq] at h0; subst h0
      unfold BT.get
      cases h1 : Nat.beq j 0 with
      | true => rw [nbeq] at h1; subst h1; simp
      | false => rw [nbeqf] at h1; simp [h1]
    | false =>
      simp only [h0, cond_false] at h
      rw [nbeqf] at h0
      cases h2 : Nat.beq (i % 2) 1 with
      | true =>
        simp only [h2, cond_true] at h
        split at h
        · rename_i l' hl
          injection h with h; subst h
          rw [nbeq] at h2
          unfold BT.get
          cases h1 : Nat.beq j 0 with
          | true => rw [nbeq] at h1; subst h1; simp only [cond_true]; rw [if_neg (by omega)]
          | false =>
            simp only [cond_false]
            rw [nbeqf] at h1
            cases h3 : Nat.beq (j % 2) 1 with
            | true =>
              rw [nbeq] at h3
              simp only [cond_true]
              rw [BT.get_set hl]
              by_cases e : j = i
              · subst e; simp
              · rw [if_neg e, if_neg (by omega)]
            | false =>
              rw [nbeqf] at h3
              simp only [cond_false]
              rw [if_neg (by omega)]
        · cases h
      | false =>
        simp only [h2, cond_false] at h
        split at h
        · rename_i r' hr
          injection h with h; subst h
          rw [nbeqf] at h2
          unfold BT.get
          cases h1 : Nat.beq j 0 with
          | true => rw [nbeq] at h1; subst h1; simp only [cond_true]; rw [if_neg (by omega)]
          | false =>
            simp only [cond_false]
            rw [nbeqf] at h1
            cases h3 : Nat.beq (j % 2) 1 with
            | true =>
              rw [nbeq] at h3
              simp only [cond_true]
              rw [if_neg (by omega)]
            | false =>
              rw [nbeqf] at h3
              simp only [cond_false]
              rw [BT.get_set hr]
              by_cases e : j = i
              · subst e; simp
              · rw [if_neg e, if_neg (by omega)]
        · cases h
theorem BT.put_of {t t' : BT} {i : Nat} {v : SV} (h : t.set i v = some t') : put t.get i v = t'.get := by
  funext j
  rw [BT.get_set h]
  rfl
theorem BT.full_get : ∀ d i, (BT.full d).get i = .any
  | 0, i => rfl
  | d + 1, i => by
    unfold BT.full BT.get
    cases Nat.beq i 0 <;> cases Nat.beq (i % 2) 1 <;> simp [BT.full_get d]
def BT.args (t : BT) : Nat → List SV → Option BT
  | _, [] => some t
  | k, s :: l => match BT.args t (k + 1) l with | some t' => t'.set k s | none => none
theorem BT.args_of {t : BT} (ht : ∀ i, t.get i = .any) : ∀ {k : Nat} {l : List SV} {t' : BT}, BT.args t k l = some t' → slots (argSlots k l) = t'.get
  | k, [], t', h => by
    simp only [BT.args] at h
    injection h with h; subst h
    funext i
    simp [argSlots, slots, ht]
  | k, s :: l, t', h => by
    simp only [BT.args] at h
    split at h
    · rename_i t1 h1
      rw [← BT.put_of h, ← BT.args_of ht h1]
      funext i
      simp [argSlots, slots, put]
    · cases h
/-! ### The same -/
def veq : Value → Value → Bool
  | .bool a, .bool b => a == b
  | .int k a, .int k' b => decide (k = k') && decide (a = b)
  | .string a, .string b => decide (a = b)
  | .pointer a, .pointer b => decide (a = b)
  | .slice a n c, .slice b m d => decide (a = b) && Nat.beq n m && Nat.beq c d
  | .nilFunc, .nilFunc => true
  | .nilIface, .nilIface => true
  | _, _ => false
theorem veq_ok {a b : Value} (h : veq a b = true) : a = b := by
  unfold veq at h
  split at h
  all_goals first | (cases h; done) | rfl | skip
  · simp at h; rw [h]
  · simp at h; rw [h.1, h.2]
  · simp at h; rw [h]
  · simp at h; rw [h]
  · simp only [Bool.and_eq_true, decide_eq_true_eq, nbeq] at h; rw [h.1.1, h.1.2, h.2]
mutual
def seq : SV → SV → Bool
  | .v a, .v b => veq a b
  | .ptr a b, .ptr c d => Nat.beq a c && Nat.beq b d
  | .row a b c d, .row a' b' c' d' => Nat.beq a a' && Nat.beq b b' && Nat.beq c c' && Nat.beq d d'
  | .agg a, .agg b => seqL a b
  | .tup a, .tup b => seqL a b
  | .fn f a, .fn g b => Nat.beq f g && seqL a b
  | .bnd f a, .bnd g b => Nat.beq f g && seqL a b
  | .emp, .emp => true
  | .any, .any => true
  | .zro, .zro => true
  | .mp a, .mp b => Nat.beq a b
  | _, _ => false
def seqL : List SV → List SV → Bool
  | [], [] => true
  | a :: l, b :: m => seq a b && seqL l m
  | _, _ => false
end
mutual
theorem seq_ok : ∀ {a b : SV}, seq a b = true → a = b
  | .v a, b, h => by cases b <;> simp only [seq] at h <;> first | (cases h; done) | rw [veq_ok h]
  | .ptr a b, c, h => by
    cases c <;> simp only [seq] at h <;> first | (cases h; done) | skip
    simp only [Bool.and_eq_true, nbeq] at h; rw [h.1, h.2]
  | .row a b c d, s, h => by
    cases s <;> simp only [seq] at h <;> first | (cases h; done) | skip
    simp only [Bool.and_eq_true, nbeq] at h; rw [h.1.1.1, h.1.1.2, h.1.2, h.2]
  | .agg a, b, h => by
    cases b <;> simp only [seq] at h <;> first | (cases h; done) | skip
    rw [seqL_ok h]
  | .tup a, b, h => by
    cases b <;> simp only [seq] at h <;> first | (cases h; done) | skip
    rw [seqL_ok h]
  | .fn f a, b, h => by
    cases b <;> simp only [seq] at h <;> first | (cases h; done) | skip
    simp only [Bool.and_eq_true, nbeq] at h
    rw [h.1, seqL_ok h.2]
  | .bnd f a, b, h => by
    cases b <;> simp only [seq] at h <;> first | (cases h; done) | skip
    simp only [Bool.and_eq_true, nbeq] at h
    rw [h.1, seqL_ok h.2]
  | .emp, b, h => by cases b <;> simp only [seq] at h <;> first | (cases h; done) | rfl
  | .any, b, h => by cases b <;> simp only [seq] at h <;> first | (cases h; done) | rfl
  | .zro, b, h => by cases b <;> simp only [seq] at h <;> first | (cases h; done) | rfl
  | .mp a, b, h => by cases b <;> simp only [seq] at h <;> first | (cases h; done) | rw [nbeq.1 h]
theorem seqL_ok : ∀ {a b : List SV}, seqL a b = true → a = b
  | [], [], _ => rfl
  | [], _ :: _, h => by simp [seqL] at h
  | _ :: _, [], h => by simp [seqL] at h
  | a :: l, b :: m, h => by
    simp only [seqL, Bool.and_eq_true] at h
    rw [seq_ok h.1, seqL_ok h.2]
end
def btq : BT → BT → Bool
  | .tip, .tip => true
  | .node s l r, .node s' l' r' => seq s s' && btq l l' && btq r r'
  | _, _ => false
theorem btq_ok : ∀ {a b : BT}, btq a b = true → a = b
  | .tip, .tip, _ => rfl
  | .tip, .node .., h => by simp [btq] at h
  | .node .., .tip, h => by simp [btq] at h
  | .node s l r, .node s' l' r', h => by
    simp only [btq, Bool.and_eq_true] at h
    rw [seq_ok h.1.1, btq_ok h.1.2, btq_ok h.2]
/-! ### Numbers -/
def ilt : Int → Int → Bool
  | .ofNat x, .ofNat y => Nat.blt x y
  | .negSucc _, .ofNat _ => true
  | .ofNat _, .negSucc _ => false
  | .negSucc x, .negSucc y => Nat.blt y x
theorem nblt {a b : Nat} : Nat.blt a b = decide (a < b) := by
  rw [Bool.eq_iff_iff, decide_eq_true_eq]
  unfold Nat.blt
  constructor
  · exact fun h => Nat.le_of_ble_eq_true h
  · exact fun h => Nat.ble_eq_true_of_le h
theorem ilt_ok (a b : Int) : ilt a b = decide (a < b) := by
  cases a <;> cases b <;> simp only [ilt, nblt] <;> rw [Bool.eq_iff_iff] <;> simp <;> omega
def ieq : Int → Int → Bool
  | .ofNat x, .ofNat y => Nat.beq x y
  | .negSucc x, .negSucc y => Nat.beq x y
  | _, _ => false
theorem ieq_ok (a b : Int) : ieq a b = decide (a = b) := by
  cases a <;> cases b <;> simp only [ieq] <;> rw [Bool.eq_iff_iff] <;> simp [nbeq] <;> omega
def keqB : IntKind → IntKind → Bool
  | .i64, .i64 | .u8, .u8 | .u32, .u32 | .u64, .u64 | .i8, .i8 | .i16, .i16 | .i32, .i32 | .u16, .u16 => true
  | _, _ => false
theorem keqB_ok {a b : IntKind} (h : keqB a b = true) : a = b := by
  cases a <;> cases b <;> first | rfl | (simp [keqB] at h)
/-- From 0 on, below n. -/
def inB (j : Int) (n : Nat) : Bool := match j with
  | .ofNat x => Nat.blt x n
  | .negSucc _ => false
theorem inB_ok {j : Int} {n : Nat} (h : inB j n = true) : 0 ≤ j ∧ j < (n : Int) := by
  unfold inB at h
  split at h
  · rw [nblt, decide_eq_true_eq] at h
    simp; omega
  · cases h
def nonneg (j : Int) : Bool := match j with
  | .ofNat _ => true
  | .negSucc _ => false
theorem nonneg_ok {j : Int} (h : nonneg j = true) : 0 ≤ j := by
  unfold nonneg at h
  split at h
  · simp
  · cases h
def fitsK (k : IntKind) (n : Int) : Bool := match k with
  | .i64 => (match n with | .ofNat a => Nat.blt a 9223372036854775808 | .negSucc a => Nat.blt a 9223372036854775808)
  | .u8 => (match n with | .ofNat a => Nat.blt a 256 | .negSucc _ => false)
  | .u32 => (match n with | .ofNat a => Nat.blt a 4294967296 | .negSucc _ => false)
  | .u64 => (match n with | .ofNat a => Nat.blt a 18446744073709551616 | .negSucc _ => false)
  | _ => false
theorem fitsK_ok {k : IntKind} {n : Int} (h : fitsK k n = true) : k.wrap n = n := by
  cases k
  case i64 =>
    cases n with
    | ofNat a =>
      have h : Nat.blt a 9223372036854775808 = true := h
      rw [nblt, decide_eq_true_eq] at h
      exact IntWalk.i64_in _ ⟨by have : (0 : Int) ≤ Int.ofNat a := Int.natCast_nonneg a
                                 omega, by simp only [Int.ofNat_eq_natCast]; omega⟩
    | negSucc a =>
      have h : Nat.blt a 9223372036854775808 = true := h
      rw [nblt, decide_eq_true_eq] at h
      exact IntWalk.i64_in _ ⟨by rw [Int.negSucc_eq]; omega, by rw [Int.negSucc_eq]; omega⟩
  case u8 =>
    cases n with
    | ofNat a =>
      have h : Nat.blt a 256 = true := h
      rw [nblt, decide_eq_true_eq] at h
      rw [IntKind.wrap_u8]
      simp only [Int.ofNat_eq_natCast]; omega
    | negSucc a => exact Bool.noConfusion (show false = true from h)
  case u32 =>
    cases n with
    | ofNat a =>
      have h : Nat.blt a 4294967296 = true := h
      rw [nblt, decide_eq_true_eq] at h
      rw [IntKind.wrap_u32]
      simp only [Int.ofNat_eq_natCast]; omega
    | negSucc a => exact Bool.noConfusion (show false = true from h)
  case u64 =>
    cases n with
    | ofNat a =>
      have h : Nat.blt a 18446744073709551616 = true := h
      rw [nblt, decide_eq_true_eq] at h
      have e : ∀ n : Int, IntKind.u64.wrap n = n % 18446744073709551616 := fun n => by simp [IntKind.wrap, IntKind.bits, IntKind.signed]
      rw [e]
      simp only [Int.ofNat_eq_natCast]; omega
    | negSucc a => exact Bool.noConfusion (show false = true from h)
  all_goals exact Bool.noConfusion (show false = true from h)
def wrapS (k : IntKind) (n : Int) : Int := match k, n with
  | .u8, .ofNat a => .ofNat (Nat.mod a 256)
  | .u32, .ofNat a => .ofNat (Nat.mod a 4294967296)
  | _, _ => k.wrap n
theorem wrapS_ok (k : IntKind) (n : Int) : wrapS k n = k.wrap n := by
  unfold wrapS
  split
  · rename_i a
    rw [IntKind.wrap_u8]
    show ((a % 256 : Nat) : Int) = (a : Int) % 256
    omega
  · rename_i a
    rw [IntKind.wrap_u32]
    show ((a % 4294967296 : Nat) : Int) = (a : Int) % 4294967296
    omega
  · rfl
def wrapF (k : IntKind) (n : Int) : Int := bif fitsK k n then n else wrapS k n
theorem wrapF_ok (k : IntKind) (n : Int) : wrapF k n = k.wrap n := by
  unfold wrapF
  cases h : fitsK k n with
  | true => exact (fitsK_ok h).symm
  | false => exact (cond_false _ _).trans (wrapS_ok k n)
def ishl (a : Int) (n : Nat) : Int := match a with
  | .ofNat x => .ofNat (Nat.shiftLeft x n)
  | .negSucc x => (Int.negSucc x) * 2 ^ n
theorem ishl_ok (a : Int) (n : Nat) : ishl a n = a * 2 ^ n := by
  cases a with
  | ofNat x =>
    show Int.ofNat (x <<< n) = Int.ofNat x * 2 ^ n
    rw [Nat.shiftLeft_eq]
    simp
  | negSucc x => rfl
def ishr (a : Int) (n : Nat) : Int := match a with
  | .ofNat x => .ofNat (Nat.shiftRight x n)
  | .negSucc x => (Int.negSucc x).fdiv (2 ^ n)
theorem ishr_ok (a : Int) (n : Nat) : ishr a n = a.fdiv (2 ^ n) := by
  cases a with
  | ofNat x =>
    show Int.ofNat (x >>> n) = (Int.ofNat x).fdiv (2 ^ n)
    rw [Nat.shiftRight_eq_div_pow, Int.fdiv_eq_ediv_of_nonneg _ (by exact Int.le_of_lt (Int.pow_pos (by decide)))]
    simp
  | negSucc x => rfl
def fitE : IntKind → Nat
  | .i64 => 63
  | .u8 => 8
  | .u32 => 32
  | .u64 => 64
  | _ => 0
theorem fitsK_nat {k : IntKind} {x : Nat} : fitsK k (.ofNat x) = true → x < 2 ^ fitE k ∧ fitE k ≤ k.bits := by
  cases k <;> simp only [fitsK, fitE, nblt, decide_eq_true_eq] <;> first | (intro h; exact ⟨h, by decide⟩) | (intro h; cases h)
theorem fitsK_of {k : IntKind} {x y : Nat} (h : fitsK k (.ofNat x) = true) (hy : y < 2 ^ fitE k) : fitsK k (.ofNat y) = true := by
  revert h hy
  cases k <;> simp only [fitsK, fitE, nblt, decide_eq_true_eq] <;> first | (intro h hy; exact hy) | (intro h; cases h)
theorem ofInt_toNat {n x : Nat} (h : x < 2 ^ n) : (BitVec.ofInt n (Int.ofNat x)).toNat = x := by
  rw [Int.ofNat_eq_natCast, BitVec.ofInt_natCast, BitVec.toNat_ofNat, Nat.mod_eq_of_lt h]
theorem pow_le {a b : Nat} (h : a ≤ b) : 2 ^ a ≤ 2 ^ b := Nat.pow_le_pow_right (by decide) h
def bitsF (f : Nat → Nat → Nat) (slow : Int) (k : IntKind) (a b : Int) : Int := match a, b with
  | .ofNat x, .ofNat y => bif fitsK k (.ofNat x) && fitsK k (.ofNat y) then .ofNat (f x y) else slow
  | _, _ => slow
theorem bitsF_ok {f : Nat → Nat → Nat} {slow : Int} {k : IntKind} {a b : Int} (h : ∀ x y, a = .ofNat x → b = .ofNat y → fitsK k (.ofNat x) = true → fitsK k (.ofNat y) = true → Int.ofNat (f x y) = slow) : bitsF f slow k a b = slow := by
  unfold bitsF
  split
  · rename_i x y
    cases hc : fitsK k (.ofNat x) && fitsK k (.ofNat y) with
    | true => rw [cond_true]; rw [Bool.and_eq_true] at hc; exact h x y rfl rfl hc.1 hc.2
    | false => rfl
  · rfl
theorem and_ok (k : IntKind) (a b : Int) : bitsF Nat.land (k.wrap (BitVec.ofInt k.bits a &&& BitVec.ofInt k.bits b).toNat) k a b = k.wrap (BitVec.ofInt k.bits a &&& BitVec.ofInt k.bits b).toNat := by
  refine bitsF_ok fun x y ha hb h1 h2 => ?_
  subst ha hb
  obtain ⟨b1, e1⟩ := fitsK_nat h1
  obtain ⟨b2, _⟩ := fitsK_nat h2
  have l := pow_le e1
  rw [BitVec.toNat_and, ofInt_toNat (by omega), ofInt_toNat (by omega)]
  exact (fitsK_ok (fitsK_of h1 (Nat.and_lt_two_pow x b2))).symm
theorem or_ok (k : IntKind) (a b : Int) : bitsF Nat.lor (k.wrap (BitVec.ofInt k.bits a ||| BitVec.ofInt k.bits b).toNat) k a b = k.wrap (BitVec.ofInt k.bits a ||| BitVec.ofInt k.bits b).toNat := by
  refine bitsF_ok fun x y ha hb h1 h2 => ?_
  subst ha hb
  obtain ⟨b1, e1⟩ := fitsK_nat h1
  obtain ⟨b2, _⟩ := fitsK_nat h2
  have l := pow_le e1
  rw [BitVec.toNat_or, ofInt_toNat (by omega), ofInt_toNat (by omega)]
  exact (fitsK_ok (fitsK_of h1 (Nat.or_lt_two_pow b1 b2))).symm
theorem xor_ok (k : IntKind) (a b : Int) : bitsF Nat.xor (k.wrap (BitVec.ofInt k.bits a ^^^ BitVec.ofInt k.bits b).toNat) k a b = k.wrap (BitVec.ofInt k.bits a ^^^ BitVec.ofInt k.bits b).toNat := by
  refine bitsF_ok fun x y ha hb h1 h2 => ?_
  subst ha hb
  obtain ⟨b1, e1⟩ := fitsK_nat h1
  obtain ⟨b2, _⟩ := fitsK_nat h2
  have l := pow_le e1
  rw [BitVec.toNat_xor, ofInt_toNat (by omega), ofInt_toNat (by omega)]
  exact (fitsK_ok (fitsK_of h1 (Nat.xor_lt_two_pow b1 b2))).symm
/-! ### Memory -/
inductive MT where
  | tip
  | node (o : SObj) (l r : MT)
def MT.get : MT → Nat → SObj
  | .tip, _ => ⟨false, []⟩
  | .node s l r, i => bif Nat.beq i 0 then s else bif Nat.beq (i % 2) 1 then l.get (i / 2) else r.get (i / 2 - 1)
def MT.set : MT → Nat → SObj → Option MT
  | .tip, i, v => bif Nat.beq i 0 then some (.node v .tip .tip) else none
  | .node s l r, i, v => bif Nat.beq i 0 then some (.node v l r) else bif Nat.beq (i % 2) 1 then (match l.set (i / 2) v with | some l' => some (.node s l' r) | none => none) else (match r.set (i / 2 - 1) v with | some r' => some (.node s l r') | none => none)
theorem MT.get_set : ∀ {t t' : MT} {i : Nat} {v : SObj}, t.set i v = some t' → ∀ j, t'.get j = if j = i then v else t.get j
  | .tip, t', i, v, h, j => by
    unfold MT.set at h
    cases h0 : Nat.beq i 0 with
    | false => simp [h0] at h
    | true =>
      simp only [h0, cond_true] at h
      injection h with h; subst h
      rw [nbeq] at h0; subst h0
      unfold MT.get
      cases h1 : Nat.beq j 0 with
      | true => rw [nbeq] at h1; subst h1; simp
      | false =>
        rw [nbeqf] at h1
        simp only [cond_false, if_neg h1]
        cases Nat.beq (j % 2) 1 <;> simp [MT.get]
  | .node s l r, t', i, v, h, j => by
    unfold MT.set at h
    cases h0 : Nat.beq i 0 with
    | true =>
      simp only [h0, cond_true] at h
      injection h with h; subst h
      rw [nbeq] at h0; subst h0
      unfold MT.get
      cases h1 : Nat.beq j 0 with
      | true => rw [nbeq] at h1; subst h1; simp
      | false => rw [nbeqf] at h1; simp [h1]
    | false =>
      simp only [h0, cond_false] at h
      rw [nbeqf] at h0
      cases h2 : Nat.beq (i % 2) 1 with
      | true =>
        simp only [h2, cond_true] at h
        split at h
        · rename_i l' hl
          injection h with h; subst h
          rw [nbeq] at h2
          unfold MT.get
          cases h1 : Nat.beq j 0 with
          | true => rw [nbeq] at h1; subst h1; simp only [cond_true]; rw [if_neg (by omega)]
          | false =>
            simp only [cond_false]
            rw [nbeqf] at h1
            cases h3 : Nat.beq (j % 2) 1 with
            | true =>
              rw [nbeq] at h3
              simp only [cond_true]
              rw [MT.get_set hl]
              by_cases e : j = i
              · subst e; simp
              · rw [if_neg e, if_neg (by omega)]
            | false =>
              rw [nbeqf] at h3
              simp only [cond_false]
              rw [if_neg (by omega)]
        · cases h
      | false =>
        simp only [h2, cond_false] at h
        split at h
        · rename_i r' hr
          injection h with h; subst h
          rw [nbeqf] at h2
          unfold MT.get
          cases h1 : Nat.beq j 0 with
          | true => rw [nbeq] at h1; subst h1; simp only [cond_true]; rw [if_neg (by omega)]
          | false =>
            simp only [cond_false]
            rw [nbeqf] at h1
            cases h3 : Nat.beq (j % 2) 1 with
            | true =>
              rw [nbeq] at h3
              simp only [cond_true]
              rw [if_neg (by omega)]
            | false =>
              rw [nbeqf] at h3
              simp only [cond_false]
              rw [MT.get_set hr]
              by_cases e : j = i
              · subst e; simp
              · rw [if_neg e, if_neg (by omega)]
        · cases h
structure MM where
  t : MT
  n : Nat
/-- An object, as somebody sees it who may write the later ones only. -/
def vw (lo k : Nat) (o : SObj) : SObj := bif Nat.blt k lo then ⟨false, o.cells⟩ else o
def MM.at_ (lo : Nat) (mm : MM) (k : Nat) : Option SObj := bif Nat.blt k mm.n then some (vw lo k (mm.t.get k)) else none
/-- The memory that is meant. -/
def MM.mem (lo : Nat) (mm : MM) : Mem := (List.range mm.n).map fun k => vw lo k (mm.t.get k)
theorem mem_len {lo : Nat} {mm : MM} : (mm.mem lo).length = mm.n := by simp [MM.mem]
theorem mem_at {lo : Nat} {mm : MM} {k : Nat} : (mm.mem lo)[k]? = mm.at_ lo k := by
  unfold MM.mem MM.at_
  rw [List.getElem?_map, nblt]
  by_cases h : k < mm.n
  · rw [List.getElem?_range h]; simp [h]
  · rw [List.getElem?_eq_none (by simp; omega)]; simp [h]
def MM.push (mm : MM) (o : SObj) : Option MM := match mm.t.set mm.n o with | some t => some ⟨t, mm.n + 1⟩ | none => none
theorem push_ok {lo : Nat} {mm mm' : MM} {o : SObj} (h : mm.push o = some mm') (hlo : lo ≤ mm.n) : mm'.mem lo = mm.mem lo ++ [o] ∧ mm'.n = mm.n + 1 ∧ ∀ k, k < mm.n → mm'.t.get k = mm.t.get k := by
  unfold MM.push at h
  split at h
  · rename_i t ht
    injection h with h; subst h
    have hg := MT.get_set ht
    refine ⟨?_, rfl, fun k hk => by rw [hg, if_neg (by omega)]⟩
    unfold MM.mem
    rw [List.range_succ, List.map_append]
    congr 1
    · apply List.map_congr_left
      intro k hk
      rw [List.mem_range] at hk
      rw [hg, if_neg (by omega)]
    · simp only [List.map_cons, List.map_nil]
      rw [hg, if_pos rfl]
      unfold vw
      rw [nblt, decide_eq_false (by omega)]
      rfl
  · cases h
def MM.put (lo : Nat) (mm : MM) (k : Nat) (o : SObj) : Option MM := bif Nat.ble lo k && Nat.blt k mm.n then (match mm.t.set k o with | some t => some ⟨t, mm.n⟩ | none => none) else none
theorem put_ok {lo : Nat} {mm mm' : MM} {k : Nat} {o : SObj} (h : mm.put lo k o = some mm') : mm'.mem lo = (mm.mem lo).set k o ∧ mm'.n = mm.n ∧ ∀ i, i < lo → mm'.t.get i = mm.t.get i := by
  unfold MM.put at h
  cases hc : Nat.ble lo k && Nat.blt k mm.n with
  | false => simp [hc] at h
  | true =>
    simp only [hc, cond_true] at h
    simp only [Bool.and_eq_true, nblt, decide_eq_true_eq] at hc
    have hlo := Nat.le_of_ble_eq_true hc.1
    split at h
    · rename_i t ht
      injection h with h; subst h
      have hg := MT.get_set ht
      refine ⟨?_, rfl, fun i hi => by rw [hg, if_neg (by omega)]⟩
      apply List.ext_getElem?
      intro i
      rw [mem_at, List.getElem?_set, mem_at]
      unfold MM.at_
      simp only
      rw [nblt, hg, mem_len]
      by_cases hi : i < mm.n
      · by_cases e : k = i
        · subst e
          simp only [hi, decide_true, cond_true, if_true]
          unfold vw
          rw [nblt, decide_eq_false (by omega)]
          rfl
        · rw [if_neg e, if_neg (Ne.symm e)]
      · have e : ¬ k = i := by omega
        rw [if_neg e]
        simp [hi]
    · cases h
end Go.Proofs.Ytibefgdjijmncaa.Sz
