/- Layer 43 (image): pictures as they lie in memory, and what two of them differ in: plain. No condition. -/
import Derived.Test.YtibefgdjijmncaaSzX
import Derived.Test.YtibefgdjijmncaaSzY
import Derived.Test.YtibefgdjijmncaaSzN
namespace Go.Proofs.Ytibefgdjijmncaa
open Go.RowKit Sz
set_option linter.unusedVariables false
set_option linter.unusedSimpArgs false
structure Pg where
  torn : Bool
  beside : ByteArray
  data : ByteArray
def Pg.cs (x : Pg) : List Value := [.bool x.torn, .string x.beside, .string x.data]
theorem Pg.len (x : Pg) : x.cs.length = 3 := rfl
structure Bk where
  bad : Bool
  er : Int
  pages : List Pg
/-- A block as it lies in what is read. -/
structure Bi where
  b : Bk
  a : Option Addr
  c : Nat
def Bi.cs (x : Bi) : List Value := [.bool x.b.bad, .int .i64 x.b.er, .slice x.a x.b.pages.length x.c]
theorem Bi.len (x : Bi) : x.cs.length = 3 := rfl
def Bi.In [Inp] (x : Bi) : Prop := inpL x.a (x.b.pages.length * 3) = some (rowV Pg.cs x.b.pages)
/-- A picture's geometry. -/
structure Ge where
  ch : Int
  di : Int
  bl : Int
  pa : Int
  deriving DecidableEq
def Ge.sv (g : Ge) : List SV := [.v (.int .i64 g.ch), .v (.int .i64 g.di), .v (.int .i64 g.bl), .v (.int .i64 g.pa)]
/-- Blocks as somebody's memory has them. -/
def blkS [Inp] (m : Mem) : List SV → List Bk → Prop
  | [], [] => True
  | x :: y :: z :: t, b :: bs => x = .v (.bool b.bad) ∧ y = .v (.int .i64 b.er) ∧ slOf m 3 z = some (b.pages.length, (rowV Pg.cs b.pages).map .v) ∧ blkS m t bs
  | _, _ => False
/-- A picture as somebody's memory has it. -/
def picS [Inp] (m : Mem) (s : SV) (g : Ge) (bs : List Bk) : Prop := ∃ r cells, s = .agg (g.sv ++ [r]) ∧ slOf m 3 r = some (bs.length, cells) ∧ blkS m cells bs
theorem blk_kn {I J : Inp} {m : Mem} {K : SV → Value → Prop} (hK : Kn I J m K) : ∀ {cells : List SV} {bs : List Bk} {us : List Value}, @blkS I m cells bs → KL K cells us → ∃ xs : List Bi, xs.map Bi.b = bs ∧ us = rowV Bi.cs xs ∧ ∀ x ∈ xs, @Bi.In J x
  | [], [], us, _, h => ⟨[], rfl, by simpa [KL, rowV] using h, by simp⟩
  | x :: y :: z :: t, b :: bs, us, h, hk => by
    obtain ⟨h1, h2, h3, h4⟩ := h
    obtain ⟨u, us, rfl, k1, v, us2, rfl, k2, w, us3, rfl, k3, k4⟩ := hk
    subst h1; subst h2
    obtain rfl := hK.v _ _ k1
    obtain rfl := hK.v _ _ k2
    obtain ⟨p, c, ps, rfl, kp, hin⟩ := hK.sl 3 _ z _ w h3 k3
    obtain rfl := KL_v hK.v kp
    obtain ⟨xs, e1, e2, e3⟩ := blk_kn hK h4 k4
    refine ⟨⟨b, p, c⟩ :: xs, by simp [e1], ?_, ?_⟩
    · rw [e2]; rfl
    · intro x hx
      rcases List.mem_cons.1 hx with rfl | hx
      · exact hin
      · exact e3 x hx
  | [], _ :: _, us, h, _ => h.elim
  | _ :: _, [], us, h, _ => by simp [blkS] at h
  | [_], _ :: _, us, h, _ => by simp [blkS] at h
  | [_, _], _ :: _, us, h, _ => by simp [blkS] at h
/-- A picture that a reader is given. -/
theorem pic_kn {I J : Inp} {m : Mem} {K : SV → Value → Prop} (hK : Kn I J m K) {s : SV} {g : Ge} {bs : List Bk} {u : Value} (h : @picS I m s g bs) (hk : K s u) :
    ∃ (p : Option Addr) (c : Nat) (xs : List Bi), SV.of u = .agg (g.sv ++ [.v (.slice p xs.length c)]) ∧ xs.map Bi.b = bs ∧ @inpL J p (xs.length * 3) = some (rowV Bi.cs xs) ∧ ∀ x ∈ xs, @Bi.In J x := by
  obtain ⟨r, cells, rfl, h1, h2⟩ := h
  obtain ⟨us, rfl, hk2⟩ := hK.agg _ _ hk
  obtain ⟨a, b, rfl, ka, kb⟩ := KL_append hk2
  obtain ⟨w, t, rfl, k1, rfl⟩ := kb
  obtain ⟨p, c, vs, rfl, kv, hin⟩ := hK.sl 3 _ r _ w h1 k1
  obtain ⟨xs, e1, e2, e3⟩ := blk_kn hK h2 kv
  have hl : bs.length = xs.length := by rw [← e1, List.length_map]
  have ea : a = [.int .i64 g.ch, .int .i64 g.di, .int .i64 g.bl, .int .i64 g.pa] := KL_v hK.v (ys := [.int .i64 g.ch, .int .i64 g.di, .int .i64 g.bl, .int .i64 g.pa]) ka
  rw [hl, e2] at hin
  refine ⟨p, c, xs, ?_, e1, hin, e3⟩
  rw [of_agg, ea, hl]
  rfl
theorem blk_plain [Inp] (m : Mem) : ∀ {xs : List Bi}, (∀ x ∈ xs, Bi.In x) → blkS m ((rowV Bi.cs xs).map .v) (xs.map Bi.b)
  | [], _ => trivial
  | x :: xs, h => by
    refine ⟨rfl, rfl, ?_, blk_plain m fun y hy => h y (by simp [hy])⟩
    have := h x (by simp)
    unfold Bi.In at this
    simp only [slOf, this, Option.map_some]
theorem pic_plain [Inp] (m : Mem) {g : Ge} {p : Option Addr} {c : Nat} {xs : List Bi} (hin : inpL p (xs.length * 3) = some (rowV Bi.cs xs)) (h : ∀ x ∈ xs, Bi.In x) : picS m (.agg (g.sv ++ [.v (.slice p xs.length c)])) g (xs.map Bi.b) :=
  ⟨_, _, rfl, by simp only [slOf, hin, Option.map_some, List.length_map], blk_plain m h⟩
/-! ### The same? -/
def eqP (x y : Pg) : Bool := (x.torn == y.torn) && ((x.beside.toList == y.beside.toList) && ((x.data.toList == y.data.toList) && true))
def eqPs (ps qs : List Pg) : Bool := (ps.length == qs.length) && (ps.zip qs).all fun z => eqP z.1 z.2
def eqB (a b : Bk) : Bool := a.bad == b.bad && (a.er == b.er && eqPs a.pages b.pages)
def eqBs (as bs : List Bk) : Bool := (as.length == bs.length) && (as.zip bs).all fun z => eqB z.1 z.2
def difF (as bs : List Bk) (i : Nat) : Bool := match as[i]?, bs[i]? with
  | some a, some b => !eqB a b
  | _, _ => true
def difN (as bs : List Bk) (n : Nat) : List Int := ((List.range n).filter (difF as bs)).map Int.ofNat
def difL (as bs : List Bk) : List Int := difN as bs (max as.length bs.length)
theorem difN_succ (as bs : List Bk) (n : Nat) : difN as bs (n + 1) = difN as bs n ++ (if difF as bs n = true then [(n : Int)] else []) := by
  unfold difN
  rw [List.range_succ, List.filter_append, List.map_append]
  congr 1
  by_cases h : difF as bs n = true <;> simp [h]
theorem difN_len (as bs : List Bk) (n : Nat) : (difN as bs n).length ≤ n := by
  unfold difN
  rw [List.length_map]
  exact Nat.le_trans (List.length_filter_le _ _) (by simp)
theorem eqP_self (x : Pg) : eqP x x = true := by simp [eqP]
theorem eqPs_self (ps : List Pg) : eqPs ps ps = true := by
  unfold eqPs
  rw [beq_self_eq_true, Bool.true_and, List.all_eq_true]
  intro z hz
  obtain ⟨a, b⟩ := z
  have := List.of_mem_zip hz
  obtain ⟨i, hi⟩ := List.getElem?_of_mem hz
  rw [List.getElem?_zip_eq_some] at hi
  have e : a = b := Option.some.inj (hi.1.symm.trans hi.2)
  subst e
  exact eqP_self _
theorem eqB_self (a : Bk) : eqB a a = true := by simp [eqB, eqPs_self]
/-- Blocks are the same just if none differs. -/
theorem same_dif (as bs : List Bk) : eqBs as bs = ((difL as bs).length == 0) := by
  rw [Bool.eq_iff_iff, beq_iff_eq]
  unfold eqBs difL difN
  rw [List.length_map, List.length_eq_zero_iff, List.filter_eq_nil_iff, Bool.and_eq_true, beq_iff_eq, List.all_eq_true]
  constructor
  · rintro ⟨hl, h⟩ i hi
    rw [List.mem_range] at hi
    obtain ⟨a, ha⟩ : ∃ a, as[i]? = some a := ⟨_, List.getElem?_eq_getElem (by omega)⟩
    obtain ⟨b, hb⟩ : ∃ b, bs[i]? = some b := ⟨_, List.getElem?_eq_getElem (by omega)⟩
    have := h (a, b) (List.mem_of_getElem? (List.getElem?_zip_eq_some.2 ⟨ha, hb⟩))
    simp only [difF, ha, hb, this, Bool.not_true, Bool.false_eq_true, not_false_eq_true]
  · intro h
    have hl : as.length = bs.length := by
      rcases Nat.lt_trichotomy as.length bs.length with hlt | he | hlt
      · have := h as.length (List.mem_range.2 (by omega))
        simp [difF] at this
      · exact he
      · have := h bs.length (List.mem_range.2 (by omega))
        have e : bs[bs.length]? = none := List.getElem?_eq_none (Nat.le_refl _)
        simp [difF, e] at this
    refine ⟨hl, fun z hz => ?_⟩
    obtain ⟨i, hi⟩ := List.getElem?_of_mem hz
    obtain ⟨h1, h2⟩ := List.getElem?_zip_eq_some.1 hi
    have hlt := (List.getElem?_eq_some_iff.1 h1).1
    have := h i (List.mem_range.2 (by omega))
    simp only [difF, h1, h2, Bool.not_eq_true', Bool.not_eq_false] at this
    exact this
end Go.Proofs.Ytibefgdjijmncaa
