/- Symbolic walks, part D: operations that make or change memory; calls. No condition. -/
import Derived.Test.YtibefgdjijmncaaSzC
namespace Go.Proofs.Ytibefgdjijmncaa.Sz
open Go.RowKit
set_option linter.unusedVariables false
set_option linter.unusedSimpArgs false
/-- The cells of a value, where they are known. -/
def SV.cells : SV → Option (List SV)
  | .agg cs => some cs
  | .tup _ | .any => none
  | .v (.agg _) => none
  | s => some [s]
theorem cells_is {r : List Loc} {s : SV} {cs : List SV} {u : Value} (h : s.cells = some cs) (hs : s.Is r u) : SV.IsL r cs u.cells.toList := by
  have one : ∀ s : SV, s.Is r u → (∀ c, u ≠ .agg c) → SV.IsL r [s] u.cells.toList := by
    intro s hs hu
    have : u.cells = #[u] := by cases u <;> first | rfl | exact (hu _ rfl).elim
    rw [this]; simp only [SV.IsL]; exact ⟨u, [], rfl, hs, rfl⟩
  unfold SV.cells at h
  split at h
  · injection h with h; subst h
    simp only [SV.Is] at hs
    obtain ⟨us, rfl, hus⟩ := hs
    simpa [Value.cells] using hus
  · cases h
  · cases h
  · cases h
  · rename_i h1 h2 h3 h4
    injection h with h; subst h
    refine one _ hs fun c hc => ?_
    subst hc
    cases s <;> simp only [SV.Is] at hs
    case v x => subst hs; exact h4 _ rfl
    case ptr => obtain ⟨l, _, hh⟩ := hs; cases hh
    case row => obtain ⟨l, c, _, _, _, hh⟩ := hs; cases hh
    case agg cs => exact h1 cs rfl
    case tup cs => exact h2 cs rfl
    case fn => obtain ⟨us, hh, _⟩ := hs; cases hh
    case bnd => obtain ⟨us, hh, _⟩ := hs; cases hh
    case emp => obtain ⟨a, c, hh, _⟩ := hs; cases hh
    case any => exact h3 rfl
    case zro => obtain ⟨a, hh, _⟩ := hs; cases hh
    case mp => obtain ⟨l, _, hh⟩ := hs; cases hh
def over (l : List SV) (o : Nat) (cs : List SV) : List SV := l.take o ++ cs ++ l.drop (o + cs.length)
theorem over_len {l : List SV} {o : Nat} {cs : List SV} (h : o + cs.length ≤ l.length) : (over l o cs).length = l.length := by simp [over]; omega
/-! ### What a function does, to a walk -/
abbrev Trans := List SV → Mem → (SV → Mem → Prop) → Prop
def Enterable (P : Program) (f : FuncId) : Prop := ∃ fn, P.funcs[f]? = some fn ∧ (fn.name == "runtime.NumGoroutine") = false ∧ fn.body.isNone = false
structure Contract [Inp] (P : Program) (f : FuncId) (q : Bool) (tr : Trans) : Prop where
  enter : Enterable P f
  calls : ∀ (args : List SV) (m : Mem) (k : SV → Mem → Prop) (base : Nat → Prop) (w0 W : World) (r : List Loc) (vs : List Value), tr args m k → St base w0 r m W → SV.IsL r args vs →
    Calls P f vs.toArray W fun e W1 => ∃ s m' t u, k s m' ∧ e = .returned u ∧ St base w0 (r ++ t) m' W1 ∧ s.Is (r ++ t) u ∧ (q = true → Same r W W1)
structure CEntry where
  f : FuncId
  q : Bool
  tr : Trans
/-- A function without a body: the model stands in for it. -/
structure ExtC [Inp] (P : Program) (f : FuncId) (q : Bool) (tr : Trans) : Prop where
  runs : ∀ (args : List SV) (m : Mem) (k : SV → Mem → Prop) (base : Nat → Prop) (w0 W : World) (r : List Loc) (vs : List Value), tr args m k → St base w0 r m W → SV.IsL r args vs →
    ∃ s m' t u W1, k s m' ∧ (callFunc f vs.toArray).run P W = .ok (.value u) W1 ∧ St base w0 (r ++ t) m' W1 ∧ s.Is (r ++ t) u ∧ (q = true → Same r W W1)
/-- What may be called: a function of the program, or one that the model stands in for. -/
def Callable [Inp] (P : Program) (f : FuncId) (q : Bool) (tr : Trans) : Prop := Contract P f q tr ∨ ExtC P f q tr
def GOk [Inp] (P : Program) (G : List CEntry) : Prop := ∀ c ∈ G, Callable P c.f c.q c.tr
def look (f : FuncId) : List CEntry → Option CEntry
  | [] => none
  | c :: G => if c.f = f then some c else look f G
theorem look_ok [Inp] {P : Program} {G : List CEntry} (h : GOk P G) {f : FuncId} {c : CEntry} (hc : look f G = some c) : Callable P f c.q c.tr := by
  induction G with
  | nil => simp [look] at hc
  | cons d G ih =>
    simp only [look] at hc
    split at hc
    · rename_i he
      injection hc with hc; subst hc; subst he
      exact h _ (by simp)
    · exact ih (fun c hc => h c (by simp [hc])) hc
inductive XB where
  | ofA (x : XA)
  | box (x : XO)
  | alloc (zero : List SV)
  | build (zero : List SV) (parts : List (Nat × Nat × XO))
  | buildSl (sz len : Nat) (zero : List SV) (parts : List (Nat × Nat × XO))
  | store (sz : Nat) (a x : XO)
  | app (sz bytes : Nat) (s x : XO)
  | apps (bytes : Nat) (s x : XO)
  | cpy (sz : Nat) (d x : XO)
  | mkSl (sz bytes : Nat) (zero : List SV) (l c : XO)
  | s2b (x : XO)
  | call (f : XO) (args : List XO)
  | mkMap (kt : KT)
  | mapUpd (kt : KT) (x i v : XO)
  | mapEnt (kt : KT) (zero : SV) (x i : XO)
  | entSt (x j v : XO)
def fillS : List SV → List (Nat × Nat × SV) → Option (List SV)
  | l, [] => some l
  | l, (off, sz, s) :: rest =>
    match s.cells with
    | some cs => if cs.length = sz ∧ off + sz ≤ l.length then fillS (over l off cs) rest else none
    | none => none
/-- A string's bytes, as cells. -/
def bytesC (b : ByteArray) : List SV := b.data.toList.map fun x => .v (.int .u8 x.toNat)
/-- Behind an append the old object is dead. -/
def kill (m : Mem) : SV → Mem
  | .row k _ _ _ => m.set k ⟨false, []⟩
  | _ => m
/-- May it be appended to: nil, or all of an own object from a cell on. -/
def grows (m : Mem) (sz : Nat) : SV → Prop
  | .v (.slice _ n c) => n = c
  | .row k o n s => s = sz ∧ (match m[k]? with | some ob => (ob.own = true ∧ o + n * sz = ob.cells.length) ∧ ob.isM = false | none => False)
  | .zro => True
  | _ => False
/-- No longer than it may grow. -/
def capOk : SV → Prop
  | .v (.slice _ n c) => n ≤ c
  | _ => True
def anyOb (ob : SObj) : Option (KT × List (Value × SV)) := match ob.x.v with | .map kt es => some (kt, es) | _ => none
theorem anyOb_m {kt : KT} {es : List (Value × SV)} : anyOb (mapO kt es) = some (kt, es) := rfl
def anyAt (m : Mem) (k : Nat) : Option (KT × List (Value × SV)) := match m[k]? with | some ob => bif ob.own then anyOb ob else none | none => none
/-- A map's entry is written. -/
def evUpd (kt : KT) (x i v : SV) (m : Mem) (K : SV → Mem → Prop) : Prop := match x, i with
  | .mp k, .v key => (match anyAt m k with | some (kt', es) => (kt' = kt ∧ isK kt key = true) ∧ K (.tup []) (m.set k (mapO kt (putM key v es))) | none => False)
  | _, _ => False
/-- The entry of a key, made if there is none: its value, and its number. -/
def evEnt (kt : KT) (zero : SV) (x i : SV) (m : Mem) (K : SV → Mem → Prop) : Prop := match x, i with
  | .mp k, .v key => (match anyAt m k with
    | some (kt', es) => (kt' = kt ∧ isK kt key = true) ∧ (match findM key 0 es with
      | some (j, s) => K (.tup [s, .v (.int .i64 j)]) (m.set k (mapO kt es))
      | none => K (.tup [zero, .v (.int .i64 es.length)]) (m.set k (mapO kt (es ++ [(key, zero)]))))
    | none => False)
  | _, _ => False
def evEntSt (x j v : SV) (m : Mem) (K : SV → Mem → Prop) : Prop := match x, j with
  | .mp k, .v (.int _ j) => (match anyAt m k with | some (kt, es) => (0 ≤ j ∧ j < (es.length : Int)) ∧ K (.tup []) (m.set k (mapO kt (setM v j.toNat es))) | none => False)
  | _, _ => False
def evB [Inp] (G : List CEntry) (x : XB) (e : Env) (m : Mem) (K : SV → Mem → Prop) : Prop :=
  match x with
  | .ofA x => evA x e m fun s => K s m
  | .box x => match (x.get e).cells with | some cs => K (.ptr m.length 0) (m ++ [⟨true, cs⟩]) | none => False
  | .alloc zero => K (.ptr m.length 0) (m ++ [⟨true, zero⟩])
  | .build zero parts => match fillS zero (parts.map fun p => (p.1, p.2.1, p.2.2.get e)) with | some cs => K (.agg cs) m | none => False
  | .buildSl sz len zero parts => match fillS zero (parts.map fun p => (p.1, p.2.1, p.2.2.get e)) with | some cs => K (.row m.length 0 len sz) (m ++ [⟨true, cs⟩]) | none => False
  | .store sz a x =>
    match a.get e, (x.get e).cells with
    | .ptr k o, some cs =>
      match m[k]? with
      | some ob => (ob.own = true ∧ cs.length = sz ∧ o + sz ≤ ob.cells.length ∧ cs.all SV.one = true ∧ ob.isM = false) ∧ K (.tup []) (m.set k ⟨true, over ob.cells o cs⟩)
      | none => False
    | _, _ => False
  | .app sz bytes s x =>
    match slOf m sz (s.get e), slOf m sz (x.get e) with
    | some (n, xs), some (k, ys) =>
      if k = 0 then capOk (s.get e) ∧ K (s.get e) m else
      (grows m sz (s.get e) ∧ xs.length = n * sz ∧ ys.length = k * sz ∧ 0 < k ∧ ys.all SV.one = true ∧ n + k ≤ maxLen ∧ (n + k) * bytes ≤ 140737488355328) ∧ K (.row m.length 0 (n + k) sz) (kill m (s.get e) ++ [⟨true, xs ++ ys⟩])
    | _, _ => False
  | .apps bytes s x =>
    match slOf m 1 (s.get e), x.get e with
    | some (n, xs), .v (.string str) =>
      if str.size = 0 then capOk (s.get e) ∧ K (s.get e) m else
      (grows m 1 (s.get e) ∧ xs.length = n ∧ n + str.size ≤ maxLen ∧ (n + str.size) * bytes ≤ 140737488355328) ∧ K (.row m.length 0 (n + str.size) 1) (kill m (s.get e) ++ [⟨true, xs ++ bytesC str⟩])
    | _, _ => False
  | .cpy sz d x =>
    match d.get e, slOf m sz (x.get e) with
    | .row k o n s, some (k2, ys) =>
      match m[k]? with
      | some ob => (s = sz ∧ ob.own = true ∧ o + n * sz ≤ ob.cells.length ∧ ys.length = k2 * sz ∧ ys.all SV.one = true ∧ ob.isM = false) ∧ K (.v (.int .i64 (min k2 n : Nat))) (m.set k ⟨true, over ob.cells o (ys.take (min k2 n * sz))⟩)
      | none => False
    | _, _ => False
  | .mkSl sz bytes zero l c =>
    match l.get e, c.get e with
    | .v (.int _ n), .v (.int _ q) => (0 ≤ n ∧ n ≤ q ∧ (bytes : Int) * q ≤ 281474976710656 ∧ q ≤ 9223372036854775807) ∧ K (.row m.length 0 n.toNat sz) (m ++ [⟨true, (List.replicate n.toNat zero).flatten⟩])
    | _, _ => False
  | .s2b x => match x.get e with | .v (.string s) => K (.row m.length 0 s.size 1) (m ++ [⟨false, bytesC s⟩]) | _ => False
  | .call f args => match f.get e with | .fn f cap => (match look f G with | some c => c.tr (args.map (XO.get e) ++ cap) m K | none => False) | .bnd f fst => (match look f G with | some c => c.tr (fst ++ args.map (XO.get e)) m K | none => False) | _ => False
  | .mkMap kt => K (.mp m.length) (m ++ [mapO kt []])
  | .mapUpd kt x i v => evUpd kt (x.get e) (i.get e) (v.get e) m K
  | .mapEnt kt zero x i => evEnt kt zero (x.get e) (i.get e) m K
  | .entSt x j v => evEntSt (x.get e) (j.get e) (v.get e) m K
/-- Does it leave the blocks of the walk's objects as they are? -/
def quiet (G : List CEntry) (e : Env) : XB → Bool
  | .store .. | .app .. | .apps .. | .cpy .. | .mapUpd .. | .mapEnt .. | .entSt .. => false
  | .call f _ => match f.get e with | .fn f _ | .bnd f _ => (match look f G with | some c => c.q | none => false) | _ => false
  | _ => true
def compParts (P : Program) (e : Nat → Option (Nat × Nat)) : List (Nat × Operand) → Option (List (Nat × Nat × XO))
  | [] => some []
  | (i, x) :: rest => match e i, compParts P e rest with | some (o, z), some l => some ((o, z, XO.of x) :: l) | _, _ => none
def svCells (v : Value) : List SV := v.cells.toList.map SV.v
def compB (P : Program) (o : Op) : Option XB :=
  match compA P o with
  | some x => some (.ofA x)
  | none =>
  match o with
  | .box _ x => some (.box (XO.of x))
  | .build t parts => (P.info? t).bind fun i => i.zero.bind fun z =>
    match P.underlying t with
    | some (.struct fs) => if fs.toList.all (fun f => (P.info? f.type).isSome) then (compParts P (fun i => (fs[i]?).bind fun f => (P.info? f.type).map fun j => (f.offset, j.size)) parts.toList).map (.build (svCells z)) else none
    | some (.array _ el) => (P.info? el).bind fun j => (compParts P (fun i => some (i * j.size, j.size)) parts.toList).map (.build (svCells z))
    | _ => none
  | .buildSlice t len parts =>
    match P.underlying t with
    | some (.slice el) => (P.info? el).bind fun j => j.zero.bind fun z => if len * j.size ≤ 16777216 then (compParts P (fun i => some (i * j.size, j.size)) parts.toList).map (.buildSl j.size len ((List.range (len * j.size)).map fun i => .v (z.cells[i % z.cells.size]!))) else none
    | _ => none
  | .alloc t => (P.info? t).bind fun i => i.zero.map fun z => .alloc (svCells z)
  | .store t a x => (P.info? t).map fun i => .store i.size (XO.of a) (XO.of x)
  | .call { callee := .value f, args, argTypes := _ } => some (.call (XO.of f) (args.toList.map XO.of))
  | .call { callee := .builtin .append, args, argTypes } =>
    match args.toList, argTypes.toList with
    | [s, x], [t, t'] =>
      match P.underlying t with
      | some (.slice el) => if t = t' then (P.info? el).bind fun i => i.zero.bind fun z => if 0 < i.size ∧ z.cells.size = i.size then some (.app i.size i.bytes (XO.of s) (XO.of x)) else none else
        match P.underlying t' with
        | some .string => (P.info? el).bind fun i => i.zero.bind fun z => if i.size = 1 ∧ z.cells.size = i.size then some (.apps i.bytes (XO.of s) (XO.of x)) else none
        | some (.slice _) => (P.info? el).bind fun i => i.zero.bind fun z => if 0 < i.size ∧ z.cells.size = i.size then some (.app i.size i.bytes (XO.of s) (XO.of x)) else none
        | _ => none
      | _ => none
    | _, _ => none
  | .call { callee := .builtin .copy, args, argTypes } =>
    match args.toList, argTypes.toList with
    | [d, x], [t, t'] =>
      match P.underlying t with
      | some (.slice el) => (P.info? el).map fun i => .cpy i.size (XO.of d) (XO.of x)
      | _ => none
    | _, _ => none
  | .makeSlice t l c =>
    match P.underlying t with
    | some (.slice el) => (P.info? el).bind fun i => i.zero.bind fun z => if z.cells.size = i.size then some (.mkSl i.size i.bytes (svCells z) (XO.of l) (XO.of c)) else none
    | _ => none
  | .makeMap t r =>
    match P.underlying t with
    | some (.map kt _) => (match r with | none | some (.const (.int _ _)) => (ktOf P kt).map .mkMap | _ => none)
    | _ => none
  | .mapUpdate t x i v | .insert t x i v =>
    match P.underlying t with
    | some (.map kt _) => (ktOf P kt).map fun k => .mapUpd k (XO.of x) (XO.of i) (XO.of v)
    | _ => none
  | .mapEntry t x i =>
    match P.underlying t with
    | some (.map kt et) => (ktOf P kt).bind fun k => (P.info? et).bind fun j => j.zero.map fun z => .mapEnt k (SV.of z) (XO.of x) (XO.of i)
    | _ => none
  | .entryStore _ x j v => some (.entSt (XO.of x) (XO.of j) (XO.of v))
  | .convert s d x =>
    match P.underlying s, P.underlying d with
    | some .string, some (.slice e) => (match P.underlying e with | some (.int .u8) => some (.s2b (XO.of x)) | _ => none)
    | _, _ => none
  | _ => none
section
variable {P : Program} {n : Nat} {r : List Loc} {e : Env} {m : Mem} {a : Act} {base : Nat → Prop} {w0 W : World}
theorem val_wp {o : Oper} {Kr : Act → World → Prop} {Q : Exit → Act → World → Prop} {u : Value} {W1 : World} (h : (execOp a.eval o).run P W = .ok (.value u) W1) (hK : Kr (a.put o.dst u) W1) : o.wp P a W Kr Q := by
  unfold Oper.wp; rw [h]; exact hK
theorem skip_wp {o : Oper} {Kr : Act → World → Prop} {Q : Exit → Act → World → Prop} {W1 : World} (h : (execOp a.eval o).run P W = .ok .skip W1) (hK : Kr (a.put o.dst undef) W1) : o.wp P a W Kr Q := by
  unfold Oper.wp; rw [h]; exact hK
theorem ObjAt.new {b : Nat} {room : Nat} {W1 : World} {c : Array Value} {T : TypeId} {cs : List SV} {own : Bool} (h : W1.heap[b]? = some (.cells c T (0, 0))) (hsz : room ≤ c.size) (hf : cs.length ≤ room) (hc : SV.IsL r cs ((c.toList.drop 0).take cs.length)) (hb : base b) : ObjAt base r W1 ⟨b, 0, room⟩ ⟨own, cs⟩ :=
  ⟨fun _ _ => ⟨c, T, (0, 0), h, by simpa using hsz, hc, fun _ => rfl⟩, hf, fun _ => hb, (Array.getElem?_eq_some_iff.1 h).1, trivial⟩
/-- A new block of the call's own. -/
theorem St.new [Inp] (h : St base w0 r m W) {cs : List SV} {us : List Value} (hus : SV.IsL r cs us) (T : TypeId) :
    St base w0 (r ++ [⟨W.heap.size, 0, us.length⟩]) (m ++ [⟨true, cs⟩]) (W.alloc (.cells us.toArray T)) ∧ Same r W (W.alloc (.cells us.toArray T)) := by
  have hb : Low base W (W.alloc (.cells us.toArray T)) := Low.of_below ((Below.refl _ _).alloc (Nat.le_refl _) _)
  have hs : Same r W (W.alloc (.cells us.toArray T)) := Same.below h ((Below.refl _ _).alloc (Nat.le_refl _) _)
  have hl := IsL_len hus
  refine ⟨h.add hb hs _ _ (ObjAt.new (heap_alloc_new _ _) (by simp) (by simp [hl]) ?_ (h.from_ _ h.low.size)) rfl (Nat.le_refl _), hs⟩
  simp only [List.drop_zero]
  rw [List.take_of_length_le (by simp [hl])]
  exact SV.IsL.grow _ hus
/-- An own object's block is written, whatever it holds. -/
theorem St.wrF [Inp] (h : St base w0 r m W) {F : Nat → List Nat} (hF : Hid base r m W F) {W1 : World} {k : Nat} {l : Loc} {ob : SObj} (hl : r[k]? = some l) (hob : m[k]? = some ob) (hown : ob.own = true) (hlow : Low base W W1) (hoth : ∀ j, j < W.heap.size → j ≠ l.blk → W1.heap[j]? = W.heap[j]?)
    (o' : SObj) (ho' : ObjAt base r W1 l o') (ha : o'.isA = false) : St base w0 r (m.set k o') W1 ∧ Hid base r (m.set k o') W1 (fun i => if i = k then [] else F i) := by
  have hk : k < m.length := (List.getElem?_eq_some_iff.1 hob).1
  have hget : ∀ (k' : Nat) (y : SObj), (m.set k o')[k']? = some y → (k' = k ∧ y = o') ∨ (k' ≠ k ∧ m[k']? = some y) := by
    intro k' y hy
    rw [List.getElem?_set] at hy
    by_cases e : k = k'
    · subst e
      simp [hk] at hy
      exact .inl ⟨rfl, hy.symm⟩
    · rw [if_neg e] at hy
      exact .inr ⟨fun x => e x.symm, hy⟩
  have hH : Hid base r (m.set k o') W1 (fun i => if i = k then [] else F i) := by
    refine ⟨fun i x y h1 h2 => ?_, fun i b hb => ?_, fun i b hb k' x y h1 h2 hal => ?_, fun i i' b hb hb' => ?_⟩
    · rcases hget i y h2 with ⟨rfl, rfl⟩ | ⟨hne, hy⟩
      · exact HidIs.not ha
      · simp only [if_neg hne]
        cases hya : y.isA with
        | false => exact HidIs.not hya
        | true =>
          have hyo := (h.obj i x y h1 hy).isA_own hya
          refine (hF.is i x y h1 hy).same hlow.size fun b hb => ?_
          rcases List.mem_cons.1 hb with rfl | hb
          · exact hoth _ (h.obj i x y h1 hy).lt fun e => h.sep k i l x ob y hl h1 hob hy (Ne.symm hne) hown (.inl hyo) e.symm
          · exact hoth _ (hF.base i b hb).2 fun e => hF.far i b hb k l ob hl hob (.inl hown) e.symm
    · split at hb
      · simp at hb
      · exact ⟨(hF.base i b hb).1, Nat.lt_of_lt_of_le (hF.base i b hb).2 hlow.size⟩
    · split at hb
      · simp at hb
      · rcases hget k' y h2 with ⟨rfl, rfl⟩ | ⟨hne, hy⟩
        · rw [hl] at h1; injection h1 with h1; subst h1
          exact hF.far i b hb k' l ob hl hob (.inl hown)
        · exact hF.far i b hb k' x y h1 hy hal
    · split at hb
      · simp at hb
      · split at hb'
        · simp at hb'
        · exact hF.apart i i' b hb hb'
  refine ⟨⟨h.low.trans hlow, h.from_, h.inp, by simp [h.len], fun k' l' y h1 h2 => ?_, fun k1 k2 l1 l2 y1 y2 h1 h2 h3 h4 hne ho hal => ?_, _, hH⟩, hH⟩
  · rcases hget k' y h2 with ⟨rfl, rfl⟩ | ⟨hne, hy⟩
    · rw [hl] at h1; injection h1 with h1; subst h1; exact ho'
    · have hO := h.obj k' l' y h1 hy
      by_cases hal : y.own = true ∨ y.cells ≠ []
      · exact hO.same (hoth _ hO.lt fun e => h.sep k k' l l' ob y hl h1 hob hy (Ne.symm hne) hown hal e.symm)
      · have hd1 : y.own = false := by cases hy' : y.own <;> simp_all
        have hd2 : y.cells = [] := by cases hy' : y.cells <;> simp_all
        rw [hO.isDead hd1 hd2]
        exact .dead (Nat.lt_of_lt_of_le hO.lt hlow.size)
  · rcases hget k1 y1 h3 with ⟨rfl, rfl⟩ | ⟨hne1, hy1⟩ <;> rcases hget k2 y2 h4 with ⟨rfl, rfl⟩ | ⟨hne2, hy2⟩
    · exact (hne rfl).elim
    · rw [hl] at h1; injection h1 with h1; subst h1
      exact h.sep k1 k2 l l2 ob y2 hl h2 hob hy2 hne hown hal
    · rw [hl] at h2; injection h2 with h2; subst h2
      exact fun e => h.sep k2 k1 l l1 ob y1 hl h1 hob hy1 (Ne.symm hne) hown (.inl ho) e.symm
    · exact h.sep k1 k2 l1 l2 y1 y2 h1 h2 hy1 hy2 hne ho hal
theorem St.wr [Inp] (h : St base w0 r m W) {W1 : World} {k : Nat} {l : Loc} {ob : SObj} (hl : r[k]? = some l) (hob : m[k]? = some ob) (hown : ob.own = true) (hlow : Low base W W1) (hoth : ∀ j, j < W.heap.size → j ≠ l.blk → W1.heap[j]? = W.heap[j]?)
    (o' : SObj) (ho' : ObjAt base r W1 l o') (ha : o'.isA = false) : St base w0 r (m.set k o') W1 := by
  obtain ⟨F, hF⟩ := h.hid
  exact (h.wrF hF hl hob hown hlow hoth o' ho' ha).1
/-- An own object's block becomes a new object's. -/
theorem St.move [Inp] (h : St base w0 r m W) {W1 : World} {k : Nat} {l l' : Loc} {ob o : SObj} (hl : r[k]? = some l) (hob : m[k]? = some ob) (hown : ob.own = true) (hlow : Low base W W1) (hoth : ∀ j, j < W.heap.size → j ≠ l.blk → W1.heap[j]? = W.heap[j]?)
    (hb : l'.blk = l.blk) (ho : ObjAt base (r ++ [l']) W1 l' o) (ha : o.isA = false) : St base w0 (r ++ [l']) (m.set k ⟨false, []⟩ ++ [o]) W1 := by
  obtain ⟨F, hF⟩ := h.hid
  have hO := h.obj k l ob hl hob
  obtain ⟨h1, h2⟩ := h.wrF hF hl hob hown hlow hoth ⟨false, []⟩ (.dead (Nat.lt_of_lt_of_le hO.lt hlow.size)) rfl
  refine h1.addG h2 l' o ho ha (fun i b hbb => ?_) (fun k' x y q1 q2 hal => ?_)
  · split at hbb
    · simp at hbb
    · rw [hb]; exact hF.far i b hbb k l ob hl hob (.inl hown)
  · rw [List.getElem?_set] at q2
    by_cases e : k = k'
    · subst e
      simp at q2
      obtain ⟨_, rfl⟩ := q2
      simp at hal
    · rw [if_neg e] at q2
      rw [hb]
      exact fun e2 => h.sep k k' l x ob y hl q1 hob q2 e hown hal e2.symm
theorem low_setRow {b : Nat} {c c' : Array Value} {T : TypeId} (hb : base b) (hc : W.heap[b]? = some (.cells c T (0, 0))) (hsz : c'.size = c.size) : Low base W (W.setRow b c') :=
  ⟨by simp, by simp, by simp, by simp, fun j hj hn => setRow_other _ _ _ _ (fun e => hn (e ▸ hb)), fun j d T2 fr2 hj => by
    by_cases e : j = b
    · subst e
      rw [hc] at hj
      injection hj with hj; injection hj with e1 e2 e3
      subst e1
      exact ⟨c', T, (0, 0), setRow_heap _ _ _ _ _ _ hc, hsz⟩
    · exact ⟨d, T2, fr2, by rw [setRow_other _ _ _ _ e]; exact hj, rfl⟩⟩
/-- An own object's block is written. -/
theorem St.put [Inp] (h : St base w0 r m W) {k : Nat} {l : Loc} {ob : SObj} (hl : r[k]? = some l) (hob : m[k]? = some ob) (hown : ob.own = true) {c : Array Value} {T : TypeId} (hc : W.heap[l.blk]? = some (.cells c T (0, 0))) (c' : Array Value) (hsz : c'.size = c.size)
    (o' : SObj) (ho' : ObjAt base r (W.setRow l.blk c') l o') (ha : o'.isA = false := by rfl) : St base w0 r (m.set k o') (W.setRow l.blk c') :=
  h.wr hl hob hown (low_setRow ((h.obj k l ob hl hob).own hown) hc hsz) (fun j _ hj => setRow_other _ _ _ _ hj) o' ho' ha
/-- An own object's new cells. -/
theorem ObjAt.put {l : Loc} {ob : SObj} (hO : ObjAt base r W l ob) (hown : ob.own = true) {c c' : Array Value} {T : TypeId} (hc : W.heap[l.blk]? = some (.cells c T (0, 0))) (hr : l.off + l.room ≤ c.size) (hsz : c'.size = c.size) {cs : List SV} (hf : cs.length ≤ l.room)
    (hcs : SV.IsL r cs ((c'.toList.drop l.off).take cs.length)) : ObjAt base r (W.setRow l.blk c') l ⟨true, cs⟩ :=
  ⟨fun _ _ => ⟨c', T, (0, 0), setRow_heap _ _ _ _ _ _ hc, by rw [hsz]; exact hr, hcs, fun _ => rfl⟩, hf, fun _ => hO.own hown, by simpa using hO.lt, trivial⟩
theorem real_over (c : List Value) (b o k : Nat) (vs : List Value) (hk : b + k ≤ c.length) (ho : o + vs.length ≤ k) :
    ((c.take (b + o) ++ vs ++ c.drop (b + o + vs.length)).drop b).take k = (((c.drop b).take k).take o ++ vs ++ ((c.drop b).take k).drop (o + vs.length)) := by
  apply List.ext_getElem?
  intro i
  simp only [List.getElem?_take, List.getElem?_drop, List.getElem?_append, List.length_append, List.length_take, List.length_drop]
  by_cases h1 : i < k
  · by_cases h2 : i < o
    · repeat (first | rw [if_pos (by omega)] | rw [if_neg (by omega)])
    · by_cases h3 : i < o + vs.length
      · repeat (first | rw [if_pos (by omega)] | rw [if_neg (by omega)])
        congr 1
        omega
      · repeat (first | rw [if_pos (by omega)] | rw [if_neg (by omega)])
        congr 1
        omega
  · repeat (first | rw [if_pos (by omega)] | rw [if_neg (by omega)])
theorem IsL_over {s cs : List SV} {u us : List Value} (o : Nat) (h : SV.IsL r s u) (hc : SV.IsL r cs us) : SV.IsL r (over s o cs) (u.take o ++ us ++ u.drop (o + us.length)) := by
  unfold over
  rw [IsL_len hc]
  exact IsL_append (IsL_append (IsL_take _ h) hc) (IsL_drop _ h)
theorem foldl_set (off : Nat) : ∀ (vs : List Value) (j : Nat) (cells : Array Value), off + j + vs.length ≤ cells.size →
    ((vs.zipIdx j).foldl (fun cs p => cs.setIfInBounds (off + p.2) p.1) cells).toList = cells.toList.take (off + j) ++ vs ++ cells.toList.drop (off + j + vs.length)
  | [], j, cells, h => by simp
  | v :: vs, j, cells, h => by
    simp only [List.zipIdx_cons, List.foldl_cons]
    simp at h
    rw [foldl_set off vs (j + 1) _ (by simp; omega)]
    simp only [Array.toList_setIfInBounds, List.length_cons]
    rw [List.drop_set_of_lt (by omega)]
    have : (cells.toList.set (off + j) v).take (off + (j + 1)) = cells.toList.take (off + j) ++ [v] := by
      rw [show off + (j + 1) = off + j + 1 by omega, List.take_succ_eq_append_getElem (by simp; omega)]
      simp [List.take_set_of_le (Nat.le_refl _)]
    rw [this]
    simp only [List.append_assoc, List.cons_append, List.nil_append]
    rw [show off + (j + 1) + vs.length = off + j + (vs.length + 1) by omega]
theorem compParts_is {place : Nat → Option (Nat × Nat)} {ev : Operand → Value} (hev : ∀ x, ((XO.of x).get e).Is r (ev x)) : ∀ {parts : List (Nat × Operand)} {xs : List (Nat × Nat × XO)} {l cs : List SV} {us : Array Value}, compParts P place parts = some xs → SV.IsL r l us.toList →
    fillS l (xs.map fun p => (p.1, p.2.1, p.2.2.get e)) = some cs → ∃ us', Instr.fill place us (parts.map fun p => (p.1, ev p.2)) = some us' ∧ SV.IsL r cs us'.toList
  | [], xs, l, cs, us, hp, hl, hf => by
    simp only [compParts] at hp
    injection hp with hp; subst hp
    simp only [List.map_nil, fillS] at hf
    injection hf with hf; subst hf
    exact ⟨us, rfl, hl⟩
  | (i, x) :: rest, xs, l, cs, us, hp, hl, hf => by
    simp only [compParts] at hp
    split at hp
    · rename_i o z l2 h1 h2
      injection hp with hp; subst hp
      simp only [List.map_cons, fillS] at hf
      split at hf
      · rename_i c1 hc1
        split at hf
        · rename_i hcond
          have hcs := cells_is hc1 (hev x)
          have hlen := IsL_len hcs
          have hll := IsL_len hl
          simp only [Array.length_toList] at hlen hll
          simp only [Instr.fill, List.map_cons, h1]
          rw [if_neg (by simp; omega)]
          refine compParts_is hev h2 ?_ hf
          rw [← Array.foldl_toList, Array.toList_zipIdx, foldl_set _ _ _ _ (by simp; omega)]
          simp only [Nat.add_zero]
          exact IsL_over _ hl hcs
        · cases hf
      · cases hf
    · cases hp
theorem svCells_is (v : Value) : SV.IsL r (svCells v) v.cells.toList := IsL_v _
theorem run_places {fs : List Field} (h : fs.all (fun f => (P.info? f.type).isSome) = true) (W : World) : (fs.mapM fun f => (do pure (f.offset, ← sizeOf f.type) : Sem (Nat × Nat))).run P W = .ok (fs.map fun f => (f.offset, ((P.info? f.type).map (·.size)).getD 0)) W := by
  induction fs with
  | nil => simp
  | cons f fs ih =>
    simp at h
    obtain ⟨i, hi⟩ := Option.isSome_iff_exists.1 h.1
    have ih := ih (by simpa using h.2)
    have h1 : (sizeOf f.type).run P W = .ok i.size W := by simp [sizeOf, typeInfo, hi]
    rw [List.mapM_cons]
    simp only [Sem.run_bind, h1, Result.andThen_ok, Sem.run_pure, ih, List.map_cons, hi, Option.map_some, Option.getD_some]
theorem St.newMap [Inp] (h : St base w0 r m W) (kt : KT) : St base w0 (r ++ [⟨W.heap.size, 0, 0⟩]) (m ++ [mapO kt []]) (W.alloc (.map #[] 0)) ∧ Same r W (W.alloc (.map #[] 0)) := by
  have hb : Below W.heap.size W (W.alloc (.map #[] 0)) := (Below.refl _ _).alloc (Nat.le_refl _) _
  have hext : ExtIs (r ++ [⟨W.heap.size, 0, 0⟩]) (W.alloc (.map #[] 0)) ⟨W.heap.size, 0, 0⟩ (mapO kt []) := ⟨⟨rfl, rfl, rfl⟩, #[], heap_alloc_new _ _, rfl⟩
  exact ⟨h.add (Low.of_below hb) (Same.below h hb) _ _ ⟨fun hh => Bool.noConfusion (show true = false from hh), Nat.le_refl _, fun _ => h.from_ _ h.low.size, (Array.getElem?_eq_some_iff.1 (heap_alloc_new W (.map #[] 0))).1, hext⟩ rfl (Nat.le_refl _), Same.below h hb⟩
/-! ### Maps -/
theorem keq_iff {kt : KT} {a b : Value} (ha : Go.MapKept.IsKey kt.desc a) (hb : Go.MapKept.IsKey kt.desc b) : keq a b = true ↔ a = b := by
  obtain ⟨x, h1, h2⟩ := Go.MapKept.sameNow_of_keys ha hb
  rw [keq_ok ha hb] at h1
  injection h1 with h1
  rw [h1]; exact h2
theorem upd_ok {kt : KT} {key : Value} (hk : Go.MapKept.IsKey kt.desc key) {v : SV} {u : Value} (hv : v.Is r u) : ∀ {n : Nat} {ps : List (Value × SV)} {es : List MapEntry}, MapIs r kt.desc n ps es →
    (findM key n ps = none ∧ Instr.findNow kt.desc key es n = some none ∧ MapIs r kt.desc n (putM key v ps) (es ++ [⟨key, u, n + es.length⟩]) ∧ MapIs r kt.desc n (ps ++ [(key, v)]) (es ++ [⟨key, u, n + es.length⟩]) ∧ (putM key v ps).length = ps.length + 1) ∨
    ∃ i e s, findM key n ps = some (n + i, s) ∧ Instr.findNow kt.desc key es n = some (some (n + i, e.val)) ∧ es[i]? = some e ∧ e.key = key ∧ s.Is r e.val ∧ MapIs r kt.desc n (putM key v ps) (es.modify i fun e => { e with key := key, val := u }) ∧ (putM key v ps).length = ps.length
  | n, [], es, h => by
    simp only [MapIs] at h
    subst h
    exact .inl ⟨rfl, rfl, ⟨_, [], rfl, rfl, hv, rfl, hk, by simp [MapIs]⟩, ⟨_, [], rfl, rfl, hv, rfl, hk, by simp [MapIs]⟩, rfl⟩
  | n, p :: ps, es, h => by
    obtain ⟨e, t, rfl, h1, h2, h3, h4, h5⟩ := h
    have he := keq_ok hk h4
    unfold findM Instr.findNow putM
    rw [he, ← h1]
    cases hq : keq key p.1 with
    | true =>
      rw [h1] at hq
      have hke := (keq_iff hk h4).1 hq
      refine .inr ⟨0, e, p.2, rfl, rfl, rfl, hke.symm, h2, ?_, rfl⟩
      simp only [cond_true]
      exact ⟨_, t, rfl, by rw [h1]; exact hke.symm, hv, h3, hk, h5⟩
    | false =>
      simp only [cond_false]
      rcases upd_ok hk hv h5 with ⟨a1, a2, a3, a4, a5⟩ | ⟨i, e', s, a1, a2, a3, a4, a5, a6, a7⟩
      · refine .inl ⟨a1, a2, ⟨e, _, rfl, h1, h2, h3, h4, ?_⟩, ⟨e, _, rfl, h1, h2, h3, h4, ?_⟩, by simp [a5]⟩
        · simpa [Nat.add_assoc, Nat.add_comm 1] using a3
        · simpa [Nat.add_assoc, Nat.add_comm 1] using a4
      · refine .inr ⟨i + 1, e', s, by rw [a1]; congr 2; omega, by rw [a2]; congr 3; omega, by simpa using a3, a4, a5, ⟨e, _, rfl, h1, h2, h3, h4, ?_⟩, by simp [a7]⟩
        exact a6
theorem set_ok {d : TypeDesc} {v : SV} {u : Value} (hv : v.Is r u) : ∀ {n : Nat} {ps : List (Value × SV)} {es : List MapEntry}, MapIs r d n ps es → ∀ i, i < ps.length →
    MapIs r d n (setM v i ps) (es.modify i fun e => { e with val := u }) ∧ (setM v i ps).length = ps.length ∧ es.findIdx? (fun e => (e.born : Int) == ((n + i : Nat) : Int)) = some i
  | n, [], es, h, i, hi => by simp at hi
  | n, p :: ps, es, h, 0, hi => by
    obtain ⟨e, t, rfl, h1, h2, h3, h4, h5⟩ := h
    refine ⟨⟨_, t, rfl, h1, hv, h3, h4, h5⟩, rfl, ?_⟩
    simp [List.findIdx?_cons, h3]
  | n, p :: ps, es, h, i + 1, hi => by
    obtain ⟨e, t, rfl, h1, h2, h3, h4, h5⟩ := h
    obtain ⟨a1, a2, a3⟩ := set_ok hv h5 i (by simpa using hi)
    refine ⟨⟨e, _, rfl, h1, h2, h3, h4, a1⟩, by simp [setM, a2], ?_⟩
    rw [List.findIdx?_cons]
    have hne : ((e.born : Int) == ((n + (i + 1) : Nat) : Int)) = false := by
      rw [h3]
      simp
      omega
    rw [hne]
    have e1 : n + 1 + i = n + (i + 1) := by omega
    rw [e1] at a3
    simp only [a3, Bool.false_eq_true, if_false, Option.map_some]
theorem modify_same {es : List MapEntry} {i : Nat} {f : MapEntry → MapEntry} (h : ∀ e, es[i]? = some e → f e = e) : es.modify i f = es := by
  apply List.ext_getElem?
  intro j
  rw [List.getElem?_modify]
  by_cases hij : i = j
  · subst hij
    cases he : es[i]? with
    | none => simp
    | some e => simp [h e he]
  · simp [hij]
theorem anyAt_ok [Inp] (hst : St base w0 r m W) {k : Nat} {l : Loc} {kt : KT} {es : List (Value × SV)} (hl : r[k]? = some l) (h : anyAt m k = some (kt, es)) : ∃ ob es', m[k]? = some ob ∧ ob.own = true ∧ W.heap[l.blk]? = some (.map es' es.length) ∧ MapIs r kt.desc 0 es es'.toList ∧ l.room = 0 := by
  unfold anyAt at h
  split at h
  · rename_i ob hob
    cases hown : ob.own with
    | false => simp [hown] at h
    | true =>
      simp only [hown, cond_true] at h
      obtain ⟨es', h1, h2, h3⟩ := mapOb_ok (kt := kt) (ps := es) (hst.obj k l ob hl hob) (by
        unfold anyOb at h
        unfold mapOb
        split at h
        · rename_i he
          injection h with h; injection h with h1 h2
          simp only [he, h1, h2, if_true]
        · cases h)
      exact ⟨ob, es', hob, hown, h1, h2, h3⟩
  · cases h
theorem St.setMap [Inp] (hst : St base w0 r m W) {k : Nat} {l : Loc} {ob : SObj} {kt : KT} {ps : List (Value × SV)} {es es' : Array MapEntry} {cl : Nat} (hl : r[k]? = some l) (hob : m[k]? = some ob) (hown : ob.own = true) (hb : W.heap[l.blk]? = some (.map es cl)) (hr : l.room = 0)
    (hm : MapIs r kt.desc 0 ps es'.toList) : St base w0 r (m.set k (mapO kt ps)) { W with heap := W.heap.setIfInBounds l.blk (.map es' ps.length) } := by
  have hO := hst.obj k l ob hl hob
  have hext : ExtIs r { W with heap := W.heap.setIfInBounds l.blk (.map es' ps.length) } l (mapO kt ps) := ⟨⟨rfl, hr, rfl⟩, es', (Go.MapKept.heap_set hb).1, hm⟩
  refine hst.wr (W1 := { W with heap := W.heap.setIfInBounds l.blk (.map es' ps.length) }) hl hob hown ⟨rfl, rfl, rfl, by simp, fun j hj hn => ?_, fun j d T fr hj => ?_⟩ (fun j _ hj => (Go.MapKept.heap_set hb).2 j hj) _ ⟨fun h => ?_, by simp [mapO], fun _ => hO.own hown, by simpa using hO.lt, hext⟩ rfl
  · exact (Go.MapKept.heap_set hb).2 j (fun e => hn (e ▸ hO.own hown))
  · have hne : j ≠ l.blk := fun e => by rw [e, hb] at hj; cases hj
    exact ⟨d, T, fr, by rw [← hj]; exact (Go.MapKept.heap_set hb).2 j hne, rfl⟩
  · exact (Bool.noConfusion (show true = false from h))
end
end Go.Proofs.Ytibefgdjijmncaa.Sz
