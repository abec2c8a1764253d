/- Layer 13 (buffer): the law's row: a slice that begins inside its block. -/
import Derived.Test.YtppndeoiifkkkaaBufF
namespace Go.Proofs.Ytppndeoiifkkkaa
open Go.RowKit Go.Proofs.YtppndeoiifkkkaaW.PrintWords
set_option linter.unusedVariables false
section
variable {P : Program} (w : World)
theorem wpList_append_q {ops : Array Oper} {rest : List Oper} {o : Oper} {a : Act} {Q : Exit → Act → World → Prop} (hgd : o.guard = none) (s x : Operand) (t : TypeId)
    (ho : o.op = .call { callee := .builtin .append, args := #[s, x], argTypes := #[t, t] })
    (base : Nat) (e : TypeId) (i : TypeInfo) (z : Value) (size bytes : Nat) (ht : P.underlying t = some (.slice e)) (hi : P.info? e = some i) (hz : i.zero = some z)
    (hsize : i.size = size) (hby : i.bytes = bytes) (hzs : z.cells.size = size) (hsz : 0 < size)
    (v : Value) (n : Nat) (xs : List Value) (hs : a.eval s = v) (hown : QRow w base e size v n xs)
    (ad : Addr) (m c : Nat) (news : List Value) (hx : a.eval x = .slice (some ad) m c) (hl : news.length = m * size) (hnews : ∀ j u, news[j]? = some u → w.cell? (ad.add j) = some u) (h1 : ∀ u ∈ news, u.oneCell' = true) (hm : 0 < m)
    (h63 : n + m ≤ maxLen) (hbytes : (n + m) * bytes ≤ 140737488355328) (hbase : base ≤ w.heap.size)
    (h : ∀ v' w', QRow w' base e size v' (n + m) (xs ++ news) → w.grownBy w' v.ownBlock → wpList P ops Q rest (a.put o.dst v') w') : wpList P ops Q (o :: rest) a w :=
  wpList_plain hgd fun _ hK => by
    obtain ⟨v', w', hr, h2, h3, _⟩ := q_append (P := P) w base t o.type e i z size bytes ht hi hz hsize hby hzs hsz v n xs hown ad m c news hl hnews h1 hm h63 hbytes hbase
    unfold Oper.wp execOp
    simp only [ho, resolve, invoke, builtin, Sem.run_bind, Sem.run_pure, Result.andThen_ok, List.map_toArray, List.map_cons, List.map_nil, hs, hx, hr]
    exact hK _ _ (h v' w' h2 h3)
end
theorem chgCells_len (l : List Chg) : (chgCells l).length = l.length * 3 := by
  induction l with
  | nil => rfl
  | cons c l ih => simp [chgCells, Chg.cs] at ih ⊢; omega
theorem chgCells_get : ∀ {l : List Chg} {k : Nat} {c : Chg}, l[k]? = some c → (chgCells l)[k * 3]? = some (.int .i64 c.place) ∧ (chgCells l)[k * 3 + 1]? = some (.int .i64 c.kind) ∧ (chgCells l)[k * 3 + 2]? = some (.string c.data)
  | [], k, c, h => by simp at h
  | d :: l, 0, c, h => by simp at h; subst h; simp [chgCells, Chg.cs]
  | d :: l, k + 1, c, h => by
    have ih := chgCells_get (l := l) (k := k) (c := c) (by simpa using h)
    have e : ∀ j, (chgCells (d :: l))[(k + 1) * 3 + j]? = (chgCells l)[k * 3 + j]? := fun j => by
      show (d.cs ++ chgCells l)[(k + 1) * 3 + j]? = _
      rw [List.getElem?_append_right (by simp [Chg.cs]; omega)]
      congr 1
      simp [Chg.cs]; omega
    exact ⟨(e 0).trans ih.1, (e 1).trans ih.2.1, (e 2).trans ih.2.2⟩
/-- Three cells of a change, somewhere. -/
def ChgAt (w : World) (g o : Nat) (c : Chg) : Prop := w.cell? ⟨g, o, none⟩ = some (.int .i64 c.place) ∧ w.cell? ⟨g, o + 1, none⟩ = some (.int .i64 c.kind) ∧ w.cell? ⟨g, o + 2, none⟩ = some (.string c.data)
theorem ChgAt.below {w w' : World} {g o : Nat} {c : Chg} (h : ChgAt w g o c) (hb : Below w.heap.size w w') : ChgAt w' g o c := ⟨keep_below hb h.1, keep_below hb h.2.1, keep_below hb h.2.2⟩
/-- A row of changes that are read. -/
def RdChg (w : World) (v : Value) (l : List Chg) : Prop := ∃ A c, v = .slice A l.length c ∧ l.length ≤ c ∧ (0 < l.length → ∃ g o, A = some ⟨g, o, none⟩ ∧ ∀ (k : Nat) (x : Chg), l[k]? = some x → ChgAt w g (o + k * 3) x)
theorem RdChg.below {w w' : World} {v : Value} {l : List Chg} (h : RdChg w v l) (hb : Below w.heap.size w w') : RdChg w' v l := by
  obtain ⟨A, c, h1, h2, h3⟩ := h
  exact ⟨A, c, h1, h2, fun h0 => by
    obtain ⟨g, o, h4, h5⟩ := h3 h0
    exact ⟨g, o, h4, fun k x hk => (h5 k x hk).below hb⟩⟩
theorem rd_of_q {w : World} {base : Nat} {v : Value} {l : List Chg} (h : QRow w base 48 3 v l.length (chgCells l)) : RdChg w v l := by
  obtain ⟨A, c, rfl, hc⟩ := q_slice h
  refine ⟨A, c, rfl, hc, fun h0 => ?_⟩
  rcases h.2 with ⟨h1, _⟩ | ⟨g, off, cap, cur, he, hg, hh, hnc, hm, hcs, ht⟩
  · omega
  · injection he with ha _ hc'
    refine ⟨g, off * 3, ha, fun k x hk => ?_⟩
    obtain ⟨a1, a2, a3⟩ := chgCells_get hk
    have key : ∀ j u, (chgCells l)[j]? = some u → w.cell? ⟨g, off * 3 + j, none⟩ = some u := fun j u hj => by
      rw [cell_of_row w g _ cur 48 (0, 0) hh]
      rw [← ht, List.getElem?_take] at hj
      split at hj
      · rw [List.getElem?_drop] at hj
        rw [← Array.getElem?_toList]; exact hj
      · cases hj
    exact ⟨key _ _ a1, key _ _ a2, key _ _ a3⟩
theorem rd_of_own {w : World} {base n : Nat} {v : Value} {l : List Chg} (h : w.ownsRow base 48 3 v n (chgCells l)) (hn : l.length = n) : RdChg w v l := by
  subst hn; exact rd_of_q (q_of_own h)
/-- A row cut behind its first one. -/
theorem q_cut {w : World} {base n c : Nat} {A : Option Addr} {l : List Chg} {i : TypeInfo} (h : QRow w base 48 3 (.slice A n c) n (chgCells l)) (hn : l.length = n) (hi : Try.prog.info? 48 = some i) (hs : i.size = 3) (j : Nat) (hj : j ≤ n) :
    ∃ A2 c2, (∀ W : World, (Instr.slice 46 (.slice A n c) (some (.int .i64 (j : Int))) none none).run Try.prog W = .ok (.slice A2 (n - j) c2) W) ∧ QRow w base 48 3 (.slice A2 (n - j) c2) (n - j) (chgCells (l.drop j)) := by
  have hc := cut_from (P := Try.prog) 46 48 .i64 Try.underlying46 hi 3 hs A n c (j : Int) (by omega) (by omega)
  simp only [Int.toNat_natCast] at hc
  refine ⟨_, _, hc, ?_⟩
  have hd := q_drop h hj
  have e : (chgCells l).drop (j * 3) = chgCells (l.drop j) := by
    have h2 : chgCells l = chgCells (l.take j) ++ chgCells (l.drop j) := by rw [← chgCells_app, List.take_append_drop]
    rw [h2, List.drop_append_of_le_length (by rw [chgCells_len, List.length_take]; omega), List.drop_eq_nil_of_le (by rw [chgCells_len, List.length_take]; omega), List.nil_append]
  rw [← e]; exact hd
theorem rowOf_put {r : Nat → Chg} {f n : Nat} {c : Chg} (hf : f < 4) (hn : n < 4) : rowOf (upd r ((f + n) % 4) c) f (n + 1) = rowOf r f n ++ [c] := by
  rw [rowOf_succ]
  congr 1
  · unfold rowOf
    refine List.map_congr_left fun i hi => ?_
    have := List.mem_range.1 hi
    unfold upd
    rw [if_neg (by omega)]
  · simp [upd]
theorem rowOf_drop {r : Nat → Chg} {f n : Nat} {c : Chg} (hf : f < 4) (hn : 0 < n) (hn4 : n ≤ 4) : rowOf (upd r f c) ((f + 1) % 4) (n - 1) = (rowOf r f n).drop 1 := by
  obtain ⟨m, rfl⟩ : ∃ m, n = m + 1 := ⟨n - 1, by omega⟩
  unfold rowOf
  rw [List.range_succ_eq_map, List.map_cons, List.drop_one, List.tail_cons, List.map_map, Nat.add_sub_cancel]
  refine List.map_congr_left fun i hi => ?_
  have := List.mem_range.1 hi
  show upd r f c (((f + 1) % 4 + i) % 4) = r ((f + (i + 1)) % 4)
  unfold upd
  rw [if_neg (by omega)]
  congr 1; omega
theorem rowOf_get {r : Nat → Chg} {f n k : Nat} (h : k < n) : (rowOf r f n)[k]? = some (r ((f + k) % 4)) := by simp [rowOf, h]
end Go.Proofs.Ytppndeoiifkkkaa
