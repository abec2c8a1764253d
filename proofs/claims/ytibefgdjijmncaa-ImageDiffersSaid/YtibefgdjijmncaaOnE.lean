/- Layer 2 (sum): a sum, reckoned with plain numbers. -/
import Derived.Test.YtibefgdjijmncaaOnD
import Derived.Test.YtibefgdjijmncaaSzZ
namespace Go.Proofs.Ytibefgdjijmncaa
open Go.RowKit Sz
set_option linter.unusedVariables false
set_option linter.unusedSimpArgs false
theorem u32_xor {a b : Nat} (ha : a < 4294967296) (hb : b < 4294967296) : xoI (Int.ofNat a) (Int.ofNat b) = Int.ofNat (Nat.xor a b) := by
  have := xor_ok .u32 (Int.ofNat a) (Int.ofNat b)
  unfold xoI
  rw [← this]
  unfold bitsF
  simp only [fitsK, nblt, ha, hb, decide_true, Bool.and_self, cond_true]
def stN (v : Nat) : Nat := bif Nat.beq (Nat.mod v 2) 1 then Nat.xor (Nat.div v 2) 2197175160 else Nat.div v 2
theorem xor_lt {a b : Nat} (ha : a < 4294967296) (hb : b < 4294967296) : Nat.xor a b < 4294967296 := Nat.xor_lt_two_pow (n := 32) ha hb
theorem stN_lt {v : Nat} (h : v < 4294967296) : stN v < 4294967296 := by
  have h2 : Nat.div v 2 < 4294967296 := by show v / 2 < _; omega
  unfold stN
  cases Nat.beq (Nat.mod v 2) 1
  · exact h2
  · exact xor_lt h2 (by decide)
theorem stN_ok {v : Nat} (h : v < 4294967296) : stepI (Int.ofNat v) = Int.ofNat (stN v) := by
  have h1 : lowI (Int.ofNat v) = Int.ofNat (Nat.mod v 2) := by
    have := and_ok .u32 (Int.ofNat v) (Int.ofNat 1)
    unfold lowI
    show IntKind.u32.wrap (BitVec.ofInt IntKind.u32.bits (Int.ofNat v) &&& BitVec.ofInt IntKind.u32.bits (Int.ofNat 1)).toNat = _
    rw [← this]
    unfold bitsF
    simp only [fitsK, nblt, h, show 1 < 4294967296 by decide, decide_true, Bool.and_self, cond_true]
    show Int.ofNat (v &&& 1) = Int.ofNat (v % 2)
    rw [Nat.and_one_is_mod]
  have h2 : shI (Int.ofNat v) = Int.ofNat (Nat.div v 2) := by
    unfold shI
    rw [← ishr_ok]
    show Int.ofNat (v >>> 1) = Int.ofNat (v / 2)
    rw [Nat.shiftRight_eq_div_pow]
  unfold stepI stN
  rw [h1, h2]
  have hd : Nat.div v 2 < 4294967296 := by show v / 2 < _; omega
  cases hb : Nat.beq (Nat.mod v 2) 1 with
  | true =>
    rw [nbeq] at hb
    rw [if_pos (by rw [hb]; rfl), cond_true]
    exact u32_xor hd (by decide)
  | false =>
    rw [nbeqf] at hb
    rw [if_neg (by intro h; exact hb (Int.ofNat.inj h)), cond_false]
def crN (v : Nat) : Nat := stN (stN (stN (stN (stN (stN (stN (stN v)))))))
theorem crN_lt {v : Nat} (h : v < 4294967296) : crN v < 4294967296 := stN_lt (stN_lt (stN_lt (stN_lt (stN_lt (stN_lt (stN_lt (stN_lt h)))))))
theorem crN_ok {v : Nat} (h : v < 4294967296) : crc8 v = Int.ofNat (crN v) := by
  unfold crc8 crN
  simp only [stepN]
  rw [show ((v : Nat) : Int) = Int.ofNat v from rfl]
  rw [stN_ok h, stN_ok (stN_lt h), stN_ok (stN_lt (stN_lt h)), stN_ok (stN_lt (stN_lt (stN_lt h))), stN_ok (stN_lt (stN_lt (stN_lt (stN_lt h)))), stN_ok (stN_lt (stN_lt (stN_lt (stN_lt (stN_lt h))))), stN_ok (stN_lt (stN_lt (stN_lt (stN_lt (stN_lt (stN_lt h)))))), stN_ok (stN_lt (stN_lt (stN_lt (stN_lt (stN_lt (stN_lt (stN_lt h)))))))]
def onN (v c : Nat) : Nat := Nat.xor (Nat.div v 256) (crN (Nat.xor (Nat.mod v 256) c))
theorem onN_ok {v c : Nat} (h : v < 4294967296) (hc : c < 256) : onS (Int.ofNat v) (Int.ofNat c) = Int.ofNat (onN v c) := by
  have e1 : sh8 (Int.ofNat v) = Int.ofNat (Nat.div v 256) := by
    unfold sh8
    rw [← ishr_ok]
    show Int.ofNat (v >>> 8) = Int.ofNat (v / 256)
    rw [Nat.shiftRight_eq_div_pow]
  have hm : Nat.mod v 256 < 256 := Nat.mod_lt v (by decide)
  have e2 : ixI (Int.ofNat v) (Int.ofNat c) = Int.ofNat (Nat.xor (Nat.mod v 256) c) := by
    unfold ixI
    have e3 : IntKind.u8.wrap (Int.ofNat v) = Int.ofNat (Nat.mod v 256) := by
      rw [IntKind.wrap_u8]
      show (v : Int) % 256 = ((v % 256 : Nat) : Int)
      omega
    rw [e3]
    have := xor_ok .u8 (Int.ofNat (Nat.mod v 256)) (Int.ofNat c)
    rw [← this]
    unfold bitsF
    simp only [fitsK, nblt, hm, hc, decide_true, Bool.and_self, cond_true]
  have hx : Nat.xor (Nat.mod v 256) c < 256 := Nat.xor_lt_two_pow (n := 8) hm hc
  have hd : Nat.div v 256 < 4294967296 := by show v / 256 < _; omega
  unfold onS onN
  rw [e1, e2]
  show xoI _ (crc8 (Nat.xor (Nat.mod v 256) c)) = _
  rw [crN_ok (by omega)]
  exact u32_xor hd (crN_lt (by omega))
/-- Of cells, from a register on. -/
def sumL : Nat → List SV → Option Nat
  | v, [] => some (Nat.xor v 4294967295)
  | v, .v (.int .u8 (.ofNat c)) :: l => bif Nat.blt c 256 && Nat.blt (onN v c) 4294967296 then sumL (onN v c) l else none
  | _, _ :: _ => none
theorem noI_ok {v : Nat} (h : v < 4294967296) : noI (Int.ofNat v) = Int.ofNat (Nat.xor v 4294967295) := by
  have e : noI (Int.ofNat v) = xoI (Int.ofNat 4294967295) (Int.ofNat v) := rfl
  rw [e, u32_xor (by decide) h]
  congr 1
  exact Nat.xor_comm _ _
theorem sumL_ok : ∀ {l : List SV} {v r : Nat}, v < 4294967296 → sumL v l = some r → ∃ bs, decB l = some bs ∧ bs.length = l.length ∧ noI (onF (Int.ofNat v) bs) = Int.ofNat r := by
  intro l
  induction l with
  | nil =>
    intro v r hv h
    simp only [sumL] at h
    injection h with h; subst h
    exact ⟨[], rfl, rfl, noI_ok hv⟩
  | cons a l ih =>
    intro v r hv h
    unfold sumL at h
    split at h
    · rename_i heq; cases heq
    · rename_i v w0 w1 c l' heq
      cases heq
      cases hc : Nat.blt c 256 && Nat.blt (onN v c) 4294967296 with
      | false => simp [hc] at h
      | true =>
        simp only [hc, cond_true] at h
        simp only [Bool.and_eq_true, nblt, decide_eq_true_eq] at hc
        obtain ⟨bs, h1, h2, h3⟩ := ih hc.2 h
        refine ⟨Int.ofNat c :: bs, by simp only [decB, h1, Option.map_some], by simp [h2], ?_⟩
        rw [← h3, ← onN_ok hv hc.1]
        rfl
    · cases h
def g242N : Nat_ := fun args lo mm => match args with
  | [.v (.int .u32 (.ofNat s)), b] => (match rSl (mm.at_ lo) 1 b with
    | some p => bif Nat.ble p.2.length 1000 && Nat.blt s 4294967296 then (match sumL (Nat.xor s 4294967295) p.2 with | some r => some [(.v (.int .u32 (.ofNat r)), mm)] | none => none) else none
    | none => none)
  | _ => none
theorem Sz.Contract.mono [Inp] {P : Program} {f : FuncId} {q : Bool} {tr tr' : Trans} (h : Contract P f q tr) (ht : ∀ args m k, tr' args m k → tr args m k) : Contract P f q tr' :=
  ⟨h.enter, fun args m k base w0 W r vs h1 => h.calls args m k base w0 W r vs (ht _ _ _ h1)⟩
theorem h147 : ∀ I : Inp, @Callable I Try.prog 147 true (natTr g242N) := fun I => .inl (c147_ok.mono fun args m k h => by
  obtain ⟨lo, mm, L, hlo, rfl, hL, h⟩ := h
  unfold g242N at hL
  split at hL
  case h_2 => cases hL
  rename_i s b
  split at hL
  case h_2 => cases hL
  rename_i p hp
  cases hb : Nat.ble p.2.length 1000 && Nat.blt s 4294967296 with
  | false => simp [hb] at hL
  | true =>
    simp only [hb, cond_true] at hL
    simp only [Bool.and_eq_true, nblt, decide_eq_true_eq] at hb
    split at hL
    case h_2 => cases hL
    rename_i r hr
    injection hL with hL; subst hL
    have hle := Nat.le_of_ble_eq_true hb.1
    have hx : Nat.xor s 4294967295 < 4294967296 := xor_lt hb.2 (by decide)
    obtain ⟨bs, h1, h2, h3⟩ := sumL_ok hx hr
    refine ⟨bs, ?_, by omega, ?_⟩
    · unfold rdB
      rw [rSl_ok at_mem hp]
      exact h1
    · have e : sumF (Int.ofNat s) bs = Int.ofNat r := by
        unfold sumF
        rw [noI_ok hb.2]
        exact h3
      rw [e]
      exact h _ (List.mem_singleton.2 rfl) (Keep.refl _ _))
end Go.Proofs.Ytibefgdjijmncaa
