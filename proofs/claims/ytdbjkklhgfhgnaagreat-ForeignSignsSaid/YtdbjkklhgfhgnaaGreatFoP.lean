/- Layer 45 (foreign): rows of steps, as they are signed. No condition. -/
import Derived.Test.YtdbjkklhgfhgnaaGreatSzY
import Derived.IntWalk
namespace Go.Proofs.YtdbjkklhgfhgnaaGreat
open Go.RowKit Sz
set_option linter.unusedVariables false
set_option linter.unusedSimpArgs false
set_option maxHeartbeats 4000000
set_option maxRecDepth 20000
structure Stp where
  kind : Int
  tenant : Int
  other : Int
  a : Int
  b : Int
  op : Int
  place : Int
  data : ByteArray
def Stp.cs (s : Stp) : List Value := [.int .i64 s.kind, .int .i64 s.tenant, .int .i64 s.other, .int .i64 s.a, .int .i64 s.b, .int .i64 s.op, .int .i64 s.place, .string s.data]
theorem Stp.len (s : Stp) : s.cs.length = 8 := rfl
def sL (ls : List Stp) : List SV := (rowV Stp.cs ls).map .v
theorem sL_len (ls : List Stp) : (sL ls).length = ls.length * 8 := by simp [sL, rowV_len Stp.len]
theorem sL_cons (s : Stp) (ls : List Stp) : sL (s :: ls) = s.cs.map .v ++ sL ls := by simp [sL, rowV]
theorem sL_get {ls : List Stp} {i : Nat} {x : Stp} (h : ls[i]? = some x) : ((sL ls).drop (i * 8)).take 8 = x.cs.map .v := by
  have := rowV_at Stp.len h
  unfold sL
  rw [← List.map_drop, ← List.map_take, this]
theorem sL_over {ls : List Stp} {i : Nat} {x : Stp} (h : ls[i]? = some x) (d : ByteArray) : over (sL ls) (i * 8 + 7) [.v (.string d)] = sL (ls.set i { x with data := d }) := by
  induction ls generalizing i with
  | nil => simp at h
  | cons s ls ih =>
    cases i with
    | zero =>
      simp only [List.getElem?_cons_zero, Option.some.injEq] at h
      subst h
      simp [over, sL_cons, Stp.cs]
    | succ i =>
      have h' : ls[i]? = some x := by simpa using h
      have e := ih h'
      have e2 : (i + 1) * 8 + 7 = (s.cs.map SV.v).length + (i * 8 + 7) := by simp [Stp.len]; omega
      rw [List.set_cons_succ, sL_cons, sL_cons, ← e, e2]
      unfold over
      simp only [List.take_append, List.drop_append, List.length_map, Stp.len, List.length_cons, List.length_nil]
      have q1 : (s.cs.map SV.v).take (8 + (i * 8 + 7)) = s.cs.map SV.v := List.take_of_length_le (by simp [Stp.len])
      have q2 : (s.cs.map SV.v).drop (8 + (i * 8 + 7) + (0 + 1)) = [] := List.drop_of_length_le (by simp [Stp.len]; omega)
      have q3 : 8 + (i * 8 + 7) - 8 = i * 8 + 7 := by omega
      have q4 : 8 + (i * 8 + 7) + (0 + 1) - 8 = i * 8 + 7 + (0 + 1) := by omega
      rw [q1, q2, q3, q4]
      simp
theorem sL_one (ls : List Stp) : (sL ls).all SV.one = true := by
  induction ls with
  | nil => rfl
  | cons s ls ih => rw [sL_cons, List.all_append, ih]; simp [Stp.cs, SV.one, Value.oneCell']
theorem sL_le (g : List Nat) (ls : List Stp) : LeL g (sL ls) (sL ls) := LeL_v g _
theorem sL_up (d : Nat) (ls : List Stp) : upL d (sL ls) = sL ls := upL_v d _
theorem sL_ne {ls : List Stp} (h : ls ≠ []) : sL ls ≠ [] := by
  cases ls with
  | nil => exact (h rfl).elim
  | cons s ls => rw [sL_cons]; simp [Stp.cs]
/-- Does a step write something? -/
def wrF (s : Stp) : Bool := s.kind == 5 && s.op == 2 && !(s.data.toList == (⟨#[]⟩ : ByteArray).toList)
/-- A tenant that may be. -/
def inF (s : Stp) : Bool := decide (0 ≤ s.tenant) && decide (s.tenant < 4)
/-- The signed text, as the program reckons it. -/
def sgD (t : Int) (d : ByteArray) : ByteArray := strOf [UInt8.ofNat (65 + t).toNat] ++ d
def sgS (s : Stp) : Stp := if wrF s && inF s then { s with data := (sgD s.tenant s.data).extract 0 (min (s.data.size + 1) 16) } else s
/-- Is it signed, if it writes? -/
def okS (s : Stp) : Bool := !(wrF s && !(((s.data[0]?.getD 0).toNat : Int) - 65 == s.tenant))
theorem sg_size (t : Int) (d : ByteArray) : (sgD t d).size = d.size + 1 := by
  unfold sgD strOf
  simp [ByteArray.size_append, Nat.add_comm]
  rfl
/-- The first sixteen of a sign and a text: the sign, and the first fifteen of the text. -/
theorem sg_cut (t : Int) (d : ByteArray) : (sgD t d).extract 0 (min (d.size + 1) 16) = strOf [UInt8.ofNat (65 + t).toNat] ++ d.extract 0 (min d.size 15) := by
  unfold sgD
  have h1 : (strOf [UInt8.ofNat (65 + t).toNat]).size = 1 := rfl
  have e1 : (strOf [UInt8.ofNat (65 + t).toNat]).extract 0 (min (d.size + 1) 16) = strOf [UInt8.ofNat (65 + t).toNat] := by
    have : min (d.size + 1) 16 = max (min (d.size + 1) 16) (strOf [UInt8.ofNat (65 + t).toNat]).size := by rw [h1]; omega
    rw [this, ByteArray.extract_zero_max_size]
  rw [ByteArray.extract_append, h1, e1]
  have e2 : min (d.size + 1) 16 - 1 = min d.size 15 := by omega
  rw [e2]
theorem wr_size {s : Stp} (h : wrF s = true) : 0 < s.data.size := by
  rcases Nat.eq_zero_or_pos s.data.size with h0 | h0
  · have e := ByteArray.size_eq_zero_iff.1 h0
    have e2 : (⟨#[]⟩ : ByteArray) = ByteArray.empty := rfl
    unfold wrF at h
    rw [e, e2] at h
    simp at h
  · exact h0
/-- The steps, the first ones signed. -/
def mix (ls : List Stp) (x : Nat) : List Stp := (ls.take x).map sgS ++ ls.drop x
theorem mix_get {ls : List Stp} {x : Nat} {d : Stp} (h : ls[x]? = some d) : (mix ls x)[x]? = some d := by
  have hx := (List.getElem?_eq_some_iff.1 h).1
  unfold mix
  rw [List.getElem?_append_right (by simp; omega), List.getElem?_drop]
  have : x + (x - ((ls.take x).map sgS).length) = x := by simp; omega
  rw [this, h]
theorem mix_len (ls : List Stp) (x : Nat) (h : x ≤ ls.length) : (mix ls x).length = ls.length := by
  unfold mix; simp; omega
theorem mix_step {ls : List Stp} {x : Nat} {d : Stp} (h : ls[x]? = some d) : mix ls (x + 1) = (mix ls x).set x (sgS d) := by
  have hx := (List.getElem?_eq_some_iff.1 h).1
  unfold mix
  rw [take_snoc h, List.map_append, List.set_append_right _ _ (by simp; omega)]
  have e : x - ((ls.take x).map sgS).length = 0 := by simp; omega
  rw [e]
  have e2 : ls.drop x = d :: ls.drop (x + 1) := by
    rw [List.drop_eq_getElem_cons hx]
    congr 1
    have := List.getElem?_eq_getElem hx
    rw [this] at h
    exact Option.some.inj h
  rw [e2]
  simp
theorem mix_end (ls : List Stp) : mix ls ls.length = ls.map sgS := by simp [mix]
end Go.Proofs.YtdbjkklhgfhgnaaGreat
