/- Symbolic walks, part D: operations that make or change memory; calls. No condition. -/
import Derived.Test.YtppndeoiifkkkaaSzC
namespace Go.Proofs.Ytppndeoiifkkkaa.Sz
open Go.RowKit
set_option linter.unusedVariables false
set_option linter.unusedSimpArgs false
/-- The cells of a value, where they are known. -/
def SV.cells : SV → Option (List SV)
  | .agg cs => some cs
  | .tup _ | .any => none
  | .v (.agg _) => none
  | s => some [s]
theorem cells_is {r : List Loc} {s : SV} {cs : List SV} {u : Value} (h : s.cells = some cs) (hs : s.Is r u) : SV.IsL r cs u.cells.toList := by
  have one : ∀ s : SV, s.Is r u → (∀ c, u ≠ .agg c) → SV.IsL r [s] u.cells.toList := by
    intro s hs hu
    have : u.cells = #[u] := by cases u <;> first | rfl | exact (hu _ rfl).elim
    rw [this]; simp only [SV.IsL]; exact ⟨u, [], rfl, hs, rfl⟩
  unfold SV.cells at h
  split at h
  · injection h with h; subst h
    simp only [SV.Is] at hs
    obtain ⟨us, rfl, hus⟩ := hs
    simpa [Value.cells] using hus
  · cases h
  · cases h
  · cases h
  · rename_i h1 h2 h3 h4
    injection h with h; subst h
    refine one _ hs fun c hc => ?_
    subst hc
    cases s <;> simp only [SV.Is] at hs
    case v x => subst hs; exact h4 _ rfl
    case ptr => obtain ⟨l, _, hh⟩ := hs; cases hh
    case row => obtain ⟨l, c, _, _, _, hh⟩ := hs; cases hh
    case agg cs => exact h1 cs rfl
    case tup cs => exact h2 cs rfl
    case fn => obtain ⟨us, hh, _⟩ := hs; cases hh
    case bnd => obtain ⟨us, hh, _⟩ := hs; cases hh
    case emp => obtain ⟨a, c, hh, _⟩ := hs; cases hh
    case any => exact h3 rfl
def over (l : List SV) (o : Nat) (cs : List SV) : List SV := l.take o ++ cs ++ l.drop (o + cs.length)
theorem over_len {l : List SV} {o : Nat} {cs : List SV} (h : o + cs.length ≤ l.length) : (over l o cs).length = l.length := by simp [over]; omega
/-! ### What a function does, to a walk -/
abbrev Trans := List SV → Mem → (SV → Mem → Prop) → Prop
def Enterable (P : Program) (f : FuncId) : Prop := ∃ fn, P.funcs[f]? = some fn ∧ (fn.name == "runtime.NumGoroutine") = false ∧ fn.body.isNone = false
structure Contract [Inp] (P : Program) (f : FuncId) (q : Bool) (tr : Trans) : Prop where
  enter : Enterable P f
  calls : ∀ (args : List SV) (m : Mem) (k : SV → Mem → Prop) (base : Nat → Prop) (w0 W : World) (r : List Loc) (vs : List Value), tr args m k → St base w0 r m W → SV.IsL r args vs →
    Calls P f vs.toArray W fun e W1 => ∃ s m' t u, k s m' ∧ e = .returned u ∧ St base w0 (r ++ t) m' W1 ∧ s.Is (r ++ t) u ∧ (q = true → Same r W W1)
structure CEntry where
  f : FuncId
  q : Bool
  tr : Trans
/-- A function without a body: the model stands in for it. -/
structure ExtC [Inp] (P : Program) (f : FuncId) (q : Bool) (tr : Trans) : Prop where
  runs : ∀ (args : List SV) (m : Mem) (k : SV → Mem → Prop) (base : Nat → Prop) (w0 W : World) (r : List Loc) (vs : List Value), tr args m k → St base w0 r m W → SV.IsL r args vs →
    ∃ s m' t u W1, k s m' ∧ (callFunc f vs.toArray).run P W = .ok (.value u) W1 ∧ St base w0 (r ++ t) m' W1 ∧ s.Is (r ++ t) u ∧ (q = true → Same r W W1)
/-- What may be called: a function of the program, or one that the model stands in for. -/
def Callable [Inp] (P : Program) (f : FuncId) (q : Bool) (tr : Trans) : Prop := Contract P f q tr ∨ ExtC P f q tr
def GOk [Inp] (P : Program) (G : List CEntry) : Prop := ∀ c ∈ G, Callable P c.f c.q c.tr
def look (f : FuncId) : List CEntry → Option CEntry
  | [] => none
  | c :: G => if c.f = f then some c else look f G
theorem look_ok [Inp] {P : Program} {G : List CEntry} (h : GOk P G) {f : FuncId} {c : CEntry} (hc : look f G = some c) : Callable P f c.q c.tr := by
  induction G with
  | nil => simp [look] at hc
  | cons d G ih =>
    simp only [look] at hc
    split at hc
    · rename_i he
      injection hc with hc; subst hc; subst he
      exact h _ (by simp)
    · exact ih (fun c hc => h c (by simp [hc])) hc
inductive XB where
  | ofA (x : XA)
  | box (x : XO)
  | alloc (zero : List SV)
  | build (zero : List SV) (parts : List (Nat × Nat × XO))
  | buildSl (sz len : Nat) (zero : List SV) (parts : List (Nat × Nat × XO))
  | store (sz : Nat) (a x : XO)
  | app (sz bytes : Nat) (s x : XO)
  | apps (bytes : Nat) (s x : XO)
  | cpy (sz : Nat) (d x : XO)
  | mkSl (sz bytes : Nat) (zero : List SV) (l c : XO)
  | s2b (x : XO)
  | call (f : XO) (args : List XO)
def fillS : List SV → List (Nat × Nat × SV) → Option (List SV)
  | l, [] => some l
  | l, (off, sz, s) :: rest =>
    match s.cells with
    | some cs => if cs.length = sz ∧ off + sz ≤ l.length then fillS (over l off cs) rest else none
    | none => none
/-- A string's bytes, as cells. -/
def bytesC (b : ByteArray) : List SV := b.data.toList.map fun x => .v (.int .u8 x.toNat)
/-- Behind an append the old object is dead. -/
def kill (m : Mem) : SV → Mem
  | .row k _ _ _ => m.set k ⟨false, []⟩
  | _ => m
/-- May it be appended to: nil, or all of an own object from a cell on. -/
def grows (m : Mem) (sz : Nat) : SV → Prop
  | .v (.slice _ n c) => n = c
  | .row k o n s => s = sz ∧ (match m[k]? with | some ob => ob.own = true ∧ o + n * sz = ob.cells.length | none => False)
  | _ => False
/-- No longer than it may grow. -/
def capOk : SV → Prop
  | .v (.slice _ n c) => n ≤ c
  | _ => True
def evB [Inp] (G : List CEntry) (x : XB) (e : Env) (m : Mem) (K : SV → Mem → Prop) : Prop :=
  match x with
  | .ofA x => evA x e m fun s => K s m
  | .box x => match (x.get e).cells with | some cs => K (.ptr m.length 0) (m ++ [⟨true, cs⟩]) | none => False
  | .alloc zero => K (.ptr m.length 0) (m ++ [⟨true, zero⟩])
  | .build zero parts => match fillS zero (parts.map fun p => (p.1, p.2.1, p.2.2.get e)) with | some cs => K (.agg cs) m | none => False
  | .buildSl sz len zero parts => match fillS zero (parts.map fun p => (p.1, p.2.1, p.2.2.get e)) with | some cs => K (.row m.length 0 len sz) (m ++ [⟨true, cs⟩]) | none => False
  | .store sz a x =>
    match a.get e, (x.get e).cells with
    | .ptr k o, some cs =>
      match m[k]? with
      | some ob => (ob.own = true ∧ cs.length = sz ∧ o + sz ≤ ob.cells.length ∧ cs.all SV.one = true) ∧ K (.tup []) (m.set k ⟨true, over ob.cells o cs⟩)
      | none => False
    | _, _ => False
  | .app sz bytes s x =>
    match slOf m sz (s.get e), slOf m sz (x.get e) with
    | some (n, xs), some (k, ys) =>
      if k = 0 then capOk (s.get e) ∧ K (s.get e) m else
      (grows m sz (s.get e) ∧ xs.length = n * sz ∧ ys.length = k * sz ∧ 0 < k ∧ ys.all SV.one = true ∧ n + k ≤ maxLen ∧ (n + k) * bytes ≤ 140737488355328) ∧ K (.row m.length 0 (n + k) sz) (kill m (s.get e) ++ [⟨true, xs ++ ys⟩])
    | _, _ => False
  | .apps bytes s x =>
    match slOf m 1 (s.get e), x.get e with
    | some (n, xs), .v (.string str) =>
      if str.size = 0 then capOk (s.get e) ∧ K (s.get e) m else
      (grows m 1 (s.get e) ∧ xs.length = n ∧ n + str.size ≤ maxLen ∧ (n + str.size) * bytes ≤ 140737488355328) ∧ K (.row m.length 0 (n + str.size) 1) (kill m (s.get e) ++ [⟨true, xs ++ bytesC str⟩])
    | _, _ => False
  | .cpy sz d x =>
    match d.get e, slOf m sz (x.get e) with
    | .row k o n s, some (k2, ys) =>
      match m[k]? with
      | some ob => (s = sz ∧ ob.own = true ∧ o + n * sz ≤ ob.cells.length ∧ ys.length = k2 * sz ∧ ys.all SV.one = true) ∧ K (.v (.int .i64 (min k2 n : Nat))) (m.set k ⟨true, over ob.cells o (ys.take (min k2 n * sz))⟩)
      | none => False
    | _, _ => False
  | .mkSl sz bytes zero l c =>
    match l.get e, c.get e with
    | .v (.int _ n), .v (.int _ q) => (0 ≤ n ∧ n ≤ q ∧ (bytes : Int) * q ≤ 281474976710656 ∧ q ≤ 9223372036854775807) ∧ K (.row m.length 0 n.toNat sz) (m ++ [⟨true, (List.replicate n.toNat zero).flatten⟩])
    | _, _ => False
  | .s2b x => match x.get e with | .v (.string s) => K (.row m.length 0 s.size 1) (m ++ [⟨false, bytesC s⟩]) | _ => False
  | .call f args => match f.get e with | .fn f cap => (match look f G with | some c => c.tr (args.map (XO.get e) ++ cap) m K | none => False) | .bnd f fst => (match look f G with | some c => c.tr (fst ++ args.map (XO.get e)) m K | none => False) | _ => False
/-- Does it leave the blocks of the walk's objects as they are? -/
def quiet (G : List CEntry) (e : Env) : XB → Bool
  | .store .. | .app .. | .apps .. | .cpy .. => false
  | .call f _ => match f.get e with | .fn f _ | .bnd f _ => (match look f G with | some c => c.q | none => false) | _ => false
  | _ => true
def compParts (P : Program) (e : Nat → Option (Nat × Nat)) : List (Nat × Operand) → Option (List (Nat × Nat × XO))
  | [] => some []
  | (i, x) :: rest => match e i, compParts P e rest with | some (o, z), some l => some ((o, z, XO.of x) :: l) | _, _ => none
def svCells (v : Value) : List SV := v.cells.toList.map SV.v
def compB (P : Program) (o : Op) : Option XB :=
  match compA P o with
  | some x => some (.ofA x)
  | none =>
  match o with
  | .box _ x => some (.box (XO.of x))
  | .build t parts => (P.info? t).bind fun i => i.zero.bind fun z =>
    match P.underlying t with
    | some (.struct fs) => if fs.toList.all (fun f => (P.info? f.type).isSome) then (compParts P (fun i => (fs[i]?).bind fun f => (P.info? f.type).map fun j => (f.offset, j.size)) parts.toList).map (.build (svCells z)) else none
    | some (.array _ el) => (P.info? el).bind fun j => (compParts P (fun i => some (i * j.size, j.size)) parts.toList).map (.build (svCells z))
    | _ => none
  | .buildSlice t len parts =>
    match P.underlying t with
    | some (.slice el) => (P.info? el).bind fun j => j.zero.bind fun z => if len * j.size ≤ 16777216 then (compParts P (fun i => some (i * j.size, j.size)) parts.toList).map (.buildSl j.size len ((List.range (len * j.size)).map fun i => .v (z.cells[i % z.cells.size]!))) else none
    | _ => none
  | .alloc t => (P.info? t).bind fun i => i.zero.map fun z => .alloc (svCells z)
  | .store t a x => (P.info? t).map fun i => .store i.size (XO.of a) (XO.of x)
  | .call { callee := .value f, args, argTypes := _ } => some (.call (XO.of f) (args.toList.map XO.of))
  | .call { callee := .builtin .append, args, argTypes } =>
    match args.toList, argTypes.toList with
    | [s, x], [t, t'] =>
      match P.underlying t with
      | some (.slice el) => if t = t' then (P.info? el).bind fun i => i.zero.bind fun z => if 0 < i.size ∧ z.cells.size = i.size then some (.app i.size i.bytes (XO.of s) (XO.of x)) else none else
        match P.underlying t' with
        | some .string => (P.info? el).bind fun i => i.zero.bind fun z => if i.size = 1 ∧ z.cells.size = i.size then some (.apps i.bytes (XO.of s) (XO.of x)) else none
        | some (.slice _) => (P.info? el).bind fun i => i.zero.bind fun z => if 0 < i.size ∧ z.cells.size = i.size then some (.app i.size i.bytes (XO.of s) (XO.of x)) else none
        | _ => none
      | _ => none
    | _, _ => none
  | .call { callee := .builtin .copy, args, argTypes } =>
    match args.toList, argTypes.toList with
    | [d, x], [t, t'] =>
      match P.underlying t with
      | some (.slice el) => (P.info? el).map fun i => .cpy i.size (XO.of d) (XO.of x)
      | _ => none
    | _, _ => none
  | .makeSlice t l c =>
    match P.underlying t with
    | some (.slice el) => (P.info? el).bind fun i => i.zero.bind fun z => if z.cells.size = i.size then some (.mkSl i.size i.bytes (svCells z) (XO.of l) (XO.of c)) else none
    | _ => none
  | .convert s d x =>
    match P.underlying s, P.underlying d with
    | some .string, some (.slice e) => (match P.underlying e with | some (.int .u8) => some (.s2b (XO.of x)) | _ => none)
    | _, _ => none
  | _ => none
section
variable {P : Program} {n : Nat} {r : List Loc} {e : Env} {m : Mem} {a : Act} {base : Nat → Prop} {w0 W : World}
theorem val_wp {o : Oper} {Kr : Act → World → Prop} {Q : Exit → Act → World → Prop} {u : Value} {W1 : World} (h : (execOp a.eval o).run P W = .ok (.value u) W1) (hK : Kr (a.put o.dst u) W1) : o.wp P a W Kr Q := by
  unfold Oper.wp; rw [h]; exact hK
theorem skip_wp {o : Oper} {Kr : Act → World → Prop} {Q : Exit → Act → World → Prop} {W1 : World} (h : (execOp a.eval o).run P W = .ok .skip W1) (hK : Kr (a.put o.dst undef) W1) : o.wp P a W Kr Q := by
  unfold Oper.wp; rw [h]; exact hK
/-- A new block of the call's own. -/
theorem St.new [Inp] (h : St base w0 r m W) {cs : List SV} {us : List Value} (hus : SV.IsL r cs us) (T : TypeId) :
    St base w0 (r ++ [⟨W.heap.size, 0, us.length⟩]) (m ++ [⟨true, cs⟩]) (W.alloc (.cells us.toArray T)) ∧ Same r W (W.alloc (.cells us.toArray T)) := by
  have hb : Low base W (W.alloc (.cells us.toArray T)) := Low.of_below ((Below.refl _ _).alloc (Nat.le_refl _) _)
  have hs : Same r W (W.alloc (.cells us.toArray T)) := Same.below h ((Below.refl _ _).alloc (Nat.le_refl _) _)
  have hl := IsL_len hus
  refine ⟨h.add hb hs _ _ ⟨⟨us.toArray, T, (0, 0), heap_alloc_new _ _, by simp, ?_, fun _ => rfl⟩, by simp [hl], fun _ => h.from_ _ h.low.size⟩ (fun k l' o' hl _ _ e => by have := h.locs l' (List.mem_of_getElem? hl); simp at e; omega), hs⟩
  simp only [List.drop_zero]
  rw [List.take_of_length_le (by simp [hl])]
  exact SV.IsL.grow _ hus
/-- An own object's block is written. -/
theorem St.put [Inp] (h : St base w0 r m W) {k : Nat} {l : Loc} {ob : SObj} (hl : r[k]? = some l) (hob : m[k]? = some ob) (hown : ob.own = true) {c : Array Value} {T : TypeId} (hc : W.heap[l.blk]? = some (.cells c T (0, 0))) (c' : Array Value) (hsz : c'.size = c.size)
    (o' : SObj) (ho' : ObjAt base r (W.setRow l.blk c') l o') : St base w0 r (m.set k o') (W.setRow l.blk c') := by
  have hk : k < m.length := (List.getElem?_eq_some_iff.1 hob).1
  have hbase : base l.blk := (h.obj k l ob hl hob).own hown
  have hget : ∀ (k' : Nat) (y : SObj), (m.set k o')[k']? = some y → (k' = k ∧ y = o') ∨ (k' ≠ k ∧ m[k']? = some y) := by
    intro k' y hy
    rw [List.getElem?_set] at hy
    by_cases e : k = k'
    · subst e
      simp [hk] at hy
      exact .inl ⟨rfl, hy.symm⟩
    · rw [if_neg e] at hy
      exact .inr ⟨fun x => e x.symm, hy⟩
  refine ⟨h.low.trans ⟨by simp, by simp, by simp, by simp, fun j hj hb => setRow_other _ _ _ _ (fun e => hb (e ▸ hbase)), fun j d T2 fr2 hj => by
    by_cases e : j = l.blk
    · subst e
      rw [hc] at hj
      injection hj with hj; injection hj with e1 e2 e3
      subst e1
      exact ⟨c', T, (0, 0), setRow_heap _ _ _ _ _ _ hc, hsz⟩
    · exact ⟨d, T2, fr2, by rw [setRow_other _ _ _ _ e]; exact hj, rfl⟩⟩, h.from_, h.inp, by simp [h.len], fun k' l' y h1 h2 => ?_, fun k1 k2 l1 l2 y1 y2 h1 h2 h3 h4 hne ho hal => ?_⟩
  · rcases hget k' y h2 with ⟨rfl, rfl⟩ | ⟨hne, hy⟩
    · rw [hl] at h1; injection h1 with h1; subst h1; exact ho'
    · have hO := h.obj k' l' y h1 hy
      by_cases e : l'.blk = l.blk
      · have hdead : ¬ (y.own = true ∨ y.cells ≠ []) := fun hal => h.sep k k' l l' ob y hl h1 hob hy (Ne.symm hne) hown hal e.symm
        have hd1 : y.own = false := by cases hy' : y.own <;> simp_all
        have hd2 : y.cells = [] := by cases hy' : y.cells <;> simp_all
        obtain ⟨⟨c2, T2, fr, g1, g2, g3, g4⟩, g5, g6⟩ := hO
        rw [e, hc] at g1
        injection g1 with g1
        injection g1 with g1 g1' g1''
        subst g1
        refine ⟨⟨c', T, (0, 0), by rw [e]; exact setRow_heap _ _ _ _ _ _ hc, by rw [hsz]; exact g2, by rw [hd2]; simp [SV.IsL], fun _ => rfl⟩, g5, g6⟩
      · exact hO.same (setRow_other _ _ _ _ e)
  · rcases hget k1 y1 h3 with ⟨rfl, rfl⟩ | ⟨hne1, hy1⟩ <;> rcases hget k2 y2 h4 with ⟨rfl, rfl⟩ | ⟨hne2, hy2⟩
    · exact (hne rfl).elim
    · rw [hl] at h1; injection h1 with h1; subst h1
      exact h.sep k1 k2 l l2 ob y2 hl h2 hob hy2 hne hown hal
    · rw [hl] at h2; injection h2 with h2; subst h2
      exact h.sep k1 k2 l1 l y1 ob h1 hl hy1 hob hne ho (.inl hown)
    · exact h.sep k1 k2 l1 l2 y1 y2 h1 h2 hy1 hy2 hne ho hal
theorem real_over (c : List Value) (b o k : Nat) (vs : List Value) (hk : b + k ≤ c.length) (ho : o + vs.length ≤ k) :
    ((c.take (b + o) ++ vs ++ c.drop (b + o + vs.length)).drop b).take k = (((c.drop b).take k).take o ++ vs ++ ((c.drop b).take k).drop (o + vs.length)) := by
  apply List.ext_getElem?
  intro i
  simp only [List.getElem?_take, List.getElem?_drop, List.getElem?_append, List.length_append, List.length_take, List.length_drop]
  by_cases h1 : i < k
  · by_cases h2 : i < o
    · repeat (first | rw [if_pos (by omega)] | rw [if_neg (by omega)])
    · by_cases h3 : i < o + vs.length
      · repeat (first | rw [if_pos (by omega)] | rw [if_neg (by omega)])
        congr 1
        omega
      · repeat (first | rw [if_pos (by omega)] | rw [if_neg (by omega)])
        congr 1
        omega
  · repeat (first | rw [if_pos (by omega)] | rw [if_neg (by omega)])
theorem IsL_over {s cs : List SV} {u us : List Value} (o : Nat) (h : SV.IsL r s u) (hc : SV.IsL r cs us) : SV.IsL r (over s o cs) (u.take o ++ us ++ u.drop (o + us.length)) := by
  unfold over
  rw [IsL_len hc]
  exact IsL_append (IsL_append (IsL_take _ h) hc) (IsL_drop _ h)
theorem foldl_set (off : Nat) : ∀ (vs : List Value) (j : Nat) (cells : Array Value), off + j + vs.length ≤ cells.size →
    ((vs.zipIdx j).foldl (fun cs p => cs.setIfInBounds (off + p.2) p.1) cells).toList = cells.toList.take (off + j) ++ vs ++ cells.toList.drop (off + j + vs.length)
  | [], j, cells, h => by simp
  | v :: vs, j, cells, h => by
    simp only [List.zipIdx_cons, List.foldl_cons]
    simp at h
    rw [foldl_set off vs (j + 1) _ (by simp; omega)]
    simp only [Array.toList_setIfInBounds, List.length_cons]
    rw [List.drop_set_of_lt (by omega)]
    have : (cells.toList.set (off + j) v).take (off + (j + 1)) = cells.toList.take (off + j) ++ [v] := by
      rw [show off + (j + 1) = off + j + 1 by omega, List.take_succ_eq_append_getElem (by simp; omega)]
      simp [List.take_set_of_le (Nat.le_refl _)]
    rw [this]
    simp only [List.append_assoc, List.cons_append, List.nil_append]
    rw [show off + (j + 1) + vs.length = off + j + (vs.length + 1) by omega]
theorem compParts_is {place : Nat → Option (Nat × Nat)} {ev : Operand → Value} (hev : ∀ x, ((XO.of x).get e).Is r (ev x)) : ∀ {parts : List (Nat × Operand)} {xs : List (Nat × Nat × XO)} {l cs : List SV} {us : Array Value}, compParts P place parts = some xs → SV.IsL r l us.toList →
    fillS l (xs.map fun p => (p.1, p.2.1, p.2.2.get e)) = some cs → ∃ us', Instr.fill place us (parts.map fun p => (p.1, ev p.2)) = some us' ∧ SV.IsL r cs us'.toList
  | [], xs, l, cs, us, hp, hl, hf => by
    simp only [compParts] at hp
    injection hp with hp; subst hp
    simp only [List.map_nil, fillS] at hf
    injection hf with hf; subst hf
    exact ⟨us, rfl, hl⟩
  | (i, x) :: rest, xs, l, cs, us, hp, hl, hf => by
    simp only [compParts] at hp
    split at hp
    · rename_i o z l2 h1 h2
      injection hp with hp; subst hp
      simp only [List.map_cons, fillS] at hf
      split at hf
      · rename_i c1 hc1
        split at hf
        · rename_i hcond
          have hcs := cells_is hc1 (hev x)
          have hlen := IsL_len hcs
          have hll := IsL_len hl
          simp only [Array.length_toList] at hlen hll
          simp only [Instr.fill, List.map_cons, h1]
          rw [if_neg (by simp; omega)]
          refine compParts_is hev h2 ?_ hf
          rw [← Array.foldl_toList, Array.toList_zipIdx, foldl_set _ _ _ _ (by simp; omega)]
          simp only [Nat.add_zero]
          exact IsL_over _ hl hcs
        · cases hf
      · cases hf
    · cases hp
theorem svCells_is (v : Value) : SV.IsL r (svCells v) v.cells.toList := IsL_v _
theorem run_places {fs : List Field} (h : fs.all (fun f => (P.info? f.type).isSome) = true) (W : World) : (fs.mapM fun f => (do pure (f.offset, ← sizeOf f.type) : Sem (Nat × Nat))).run P W = .ok (fs.map fun f => (f.offset, ((P.info? f.type).map (·.size)).getD 0)) W := by
  induction fs with
  | nil => simp
  | cons f fs ih =>
    simp at h
    obtain ⟨i, hi⟩ := Option.isSome_iff_exists.1 h.1
    have ih := ih (by simpa using h.2)
    have h1 : (sizeOf f.type).run P W = .ok i.size W := by simp [sizeOf, typeInfo, hi]
    rw [List.mapM_cons]
    simp only [Sem.run_bind, h1, Result.andThen_ok, Sem.run_pure, ih, List.map_cons, hi, Option.map_some, Option.getD_some]
end
end Go.Proofs.Ytppndeoiifkkkaa.Sz
