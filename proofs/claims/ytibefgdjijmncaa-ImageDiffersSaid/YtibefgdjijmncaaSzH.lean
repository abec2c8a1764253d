/- Symbolic walks, part H: loops; functions. No condition. -/
import Derived.Test.YtibefgdjijmncaaSzG
import Derived.Deep.LoopGhost
namespace Go.Proofs.Ytibefgdjijmncaa.Sz
open Go.RowKit
set_option linter.unusedVariables false
set_option linter.unusedSimpArgs false
mutual
/-- A symbolic value, numbers of objects read by a list: what it says is less, or the same. -/
def Le (g : List Nat) : SV → SV → Prop
  | .any, _ => True
  | .v x, s => s = .v x
  | .ptr k o, s => match g[k]? with | some k' => s = .ptr k' o | none => False
  | .row k o n sz, s => match g[k]? with | some k' => s = .row k' o n sz | none => False
  | .agg cs, s => match s with | .agg ds => LeL g cs ds | _ => False
  | .tup cs, s => match s with | .tup ds => LeL g cs ds | _ => False
  | .fn f cs, s => match s with | .fn f' ds => f' = f ∧ LeL g cs ds | _ => False
  | .bnd f cs, s => match s with | .bnd f' ds => f' = f ∧ LeL g cs ds | _ => False
  | .emp, s => s = .emp
  | .zro, s => match s with | .zro => True | .v (.slice none 0 0) => True | _ => False
  | .mp k, s => match g[k]? with | some k' => s = .mp k' | none => False
def LeL (g : List Nat) : List SV → List SV → Prop
  | [], ds => ds = []
  | c :: cs, ds => match ds with | d :: ds => Le g c d ∧ LeL g cs ds | [] => False
end
mutual
theorem Le.is {g : List Nat} {r r' : List Loc} (hr : ∀ (j k : Nat), g[j]? = some k → ∀ l, r[k]? = some l → r'[j]? = some l) : ∀ {s' s : SV} {u : Value}, Le g s' s → s.Is r u → s'.Is r' u
  | .any, s, u, h, hs => by simp only [SV.Is]
  | .emp, s, u, h, hs => by simp only [Le] at h; subst h; simpa only [SV.Is] using hs
  | .v x, s, u, h, hs => by simp only [Le] at h; subst h; simpa only [SV.Is] using hs
  | .zro, s, u, h, hs => by
    unfold Le at h
    split at h
    · simpa only [SV.Is] using hs
    · simp only [SV.Is] at hs ⊢
      subst hs
      exact ⟨none, rfl, fun x hx => by cases hx⟩
    · exact h.elim
  | .mp k, s, u, h, hs => by
    simp only [Le] at h
    split at h
    · rename_i k' hk
      subst h
      simp only [SV.Is] at hs ⊢
      obtain ⟨l, hl, hu⟩ := hs
      exact ⟨l, hr _ _ hk _ hl, hu⟩
    · exact h.elim
  | .ptr k o, s, u, h, hs => by
    simp only [Le] at h
    split at h
    · rename_i k' hk
      subst h
      simp only [SV.Is] at hs ⊢
      obtain ⟨l, hl, hu⟩ := hs
      exact ⟨l, hr _ _ hk _ hl, hu⟩
    · exact h.elim
  | .row k o n sz, s, u, h, hs => by
    simp only [Le] at h
    split at h
    · rename_i k' hk
      subst h
      simp only [SV.Is] at hs ⊢
      obtain ⟨l, cap, hl, hu⟩ := hs
      exact ⟨l, cap, hr _ _ hk _ hl, hu⟩
    · exact h.elim
  | .agg cs, s, u, h, hs => by
    simp only [Le] at h
    split at h
    · simp only [SV.Is] at hs ⊢
      obtain ⟨us, hu, hus⟩ := hs
      exact ⟨us, hu, LeL.is hr h hus⟩
    · exact h.elim
  | .tup cs, s, u, h, hs => by
    simp only [Le] at h
    split at h
    · simp only [SV.Is] at hs ⊢
      obtain ⟨us, hu, hus⟩ := hs
      exact ⟨us, hu, LeL.is hr h hus⟩
    · exact h.elim
  | .fn f cs, s, u, h, hs => by
    simp only [Le] at h
    split at h
    · obtain ⟨rfl, h⟩ := h
      simp only [SV.Is] at hs ⊢
      obtain ⟨us, hu, hus⟩ := hs
      exact ⟨us, hu, LeL.is hr h hus⟩
    · exact h.elim
  | .bnd f cs, s, u, h, hs => by
    simp only [Le] at h
    split at h
    · obtain ⟨rfl, h⟩ := h
      simp only [SV.Is] at hs ⊢
      obtain ⟨us, hu, hus⟩ := hs
      exact ⟨us, hu, LeL.is hr h hus⟩
    · exact h.elim
theorem LeL.is {g : List Nat} {r r' : List Loc} (hr : ∀ (j k : Nat), g[j]? = some k → ∀ l, r[k]? = some l → r'[j]? = some l) : ∀ {s' s : List SV} {u : List Value}, LeL g s' s → SV.IsL r s u → SV.IsL r' s' u
  | [], s, u, h, hs => by simp only [LeL] at h; subst h; simpa only [SV.IsL] using hs
  | c :: cs, s, u, h, hs => by
    simp only [LeL] at h
    split at h
    · simp only [SV.IsL] at hs ⊢
      obtain ⟨x, y, h1, h2, h3⟩ := hs
      exact ⟨x, y, h1, Le.is hr h.1 h2, LeL.is hr h.2 h3⟩
    · exact h.elim
end
theorem LeL_len {g : List Nat} : ∀ {s' s : List SV}, LeL g s' s → s.length = s'.length
  | [], s, h => by simp only [LeL] at h; subst h; rfl
  | c :: cs, s, h => by
    simp only [LeL] at h
    split at h
    · simp [LeL_len h.2]
    · exact h.elim
theorem LeL_v (g : List Nat) : ∀ l : List Value, LeL g (l.map SV.v) (l.map SV.v)
  | [] => by simp [LeL]
  | x :: l => by simp only [List.map_cons, LeL, Le]; exact ⟨trivial, LeL_v g l⟩
/-- The entries of maps: the same keys, values that say less. -/
def MLe (g : List Nat) : List (Value × SV) → List (Value × SV) → Prop
  | [], es => es = []
  | p :: ps, es => match es with | q :: qs => p.1 = q.1 ∧ Le g p.2 q.2 ∧ MLe g ps qs | [] => False
def ExtLe (g : List Nat) (own : Bool) : ExtV → ExtV → Prop
  | .no, .no => True
  | .no, .abs _ _ => True
  | .map kt es', .map kt2 es => own = true ∧ kt = kt2 ∧ MLe g es' es
  | .abs A refs', .abs B refs => own = true ∧ A = B ∧ refs'.mapM (g[·]?) = some refs
  | _, _ => False
@[simp] theorem extLe_no {g : List Nat} {o : Bool} : ExtLe g o (@Ext.v noExt) (@Ext.v noExt) = True := rfl
def ObLe (g : List Nat) (o' o : SObj) : Prop := (o' = ⟨false, []⟩) ∨ ((o'.own = true → o.own = true) ∧ LeL g o'.cells o.cells ∧ ExtLe g o'.own o'.x.v o.x.v)
theorem MLe_len {g : List Nat} : ∀ {ps es : List (Value × SV)}, MLe g ps es → es.length = ps.length
  | [], es, h => by simp only [MLe] at h; subst h; rfl
  | p :: ps, [], h => by simp [MLe] at h
  | p :: ps, q :: qs, h => by simp [MLe_len h.2.2]
theorem MLe_is {g : List Nat} {r r' : List Loc} (hr : ∀ (j k : Nat), g[j]? = some k → ∀ l, r[k]? = some l → r'[j]? = some l) {d : TypeDesc} : ∀ {n : Nat} {ps es : List (Value × SV)} {us : List MapEntry}, MLe g ps es → MapIs r d n es us → MapIs r' d n ps us
  | n, [], es, us, h, hm => by simp only [MLe] at h; subst h; exact hm
  | n, p :: ps, [], us, h, hm => by simp [MLe] at h
  | n, p :: ps, q :: qs, us, h, hm => by
    obtain ⟨h1, h2, h3⟩ := h
    obtain ⟨e, t, rfl, a1, a2, a3, a4, a5⟩ := hm
    exact ⟨e, t, rfl, h1.trans a1, h2.is hr a2, a3, a4, MLe_is hr h3 a5⟩
theorem mapM_ren {g : List Nat} {r r' : List Loc} (hr : ∀ (j k : Nat), g[j]? = some k → ∀ l, r[k]? = some l → r'[j]? = some l) : ∀ {refs' refs : List Nat} {ls : List Loc}, refs'.mapM (g[·]?) = some refs → refs.mapM (r[·]?) = some ls → refs'.mapM (r'[·]?) = some ls
  | [], refs, ls, h, h2 => by
    simp at h; subst h; simpa using h2
  | j :: js, refs, ls, h, h2 => by
    rw [List.mapM_cons] at h ⊢
    obtain ⟨a, ha, h⟩ := Option.bind_eq_some_iff.1 h
    obtain ⟨b, hb, h⟩ := Option.bind_eq_some_iff.1 h
    simp at h
    subst h
    rw [List.mapM_cons] at h2
    obtain ⟨c, hc, h2⟩ := Option.bind_eq_some_iff.1 h2
    obtain ⟨d, hd, h2⟩ := Option.bind_eq_some_iff.1 h2
    simp at h2
    subst h2
    simp [hr j a ha c hc, mapM_ren hr hb hd]
theorem ExtLe.is {g : List Nat} {r r' : List Loc} (hr : ∀ (j k : Nat), g[j]? = some k → ∀ l, r[k]? = some l → r'[j]? = some l) {w : World} {l : Loc} {o' o : SObj} (h : ExtLe g o'.own o'.x.v o.x.v) (ho : ExtIs r w l o) (h2 : LeL g o'.cells o.cells) : ExtIs r' w l o' := by
  unfold ExtIs at ho ⊢
  split
  · trivial
  · rename_i kt ps he
    rw [he] at h
    cases hx : o.x.v with
    | no => rw [hx] at h; exact h.elim
    | abs A refs => rw [hx] at h; exact h.elim
    | map kt2 es =>
      rw [hx] at h
      obtain ⟨h1, rfl, h⟩ := h
      simp only [hx] at ho
      obtain ⟨⟨q1, q2, q3⟩, us, q4, q5⟩ := ho
      rw [q1] at h2
      exact ⟨⟨List.length_eq_zero_iff.1 (by have := LeL_len h2; simpa using this.symm), q2, h1⟩, us, by rw [← MLe_len h]; exact q4, MLe_is hr h q5⟩
  · rename_i A refs' he
    rw [he] at h
    cases hx : o.x.v with
    | no => rw [hx] at h; exact h.elim
    | map kt2 es => rw [hx] at h; exact h.elim
    | abs B refs =>
      rw [hx] at h
      exact h.1
theorem ExtLe.hid {g : List Nat} {r r' : List Loc} (hr : ∀ (j k : Nat), g[j]? = some k → ∀ l, r[k]? = some l → r'[j]? = some l) {w : World} {l : Loc} {fp : List Nat} {o' o : SObj} (h : ExtLe g o'.own o'.x.v o.x.v) (ho : HidIs r w l fp o) : HidIs r' w l fp o' := by
  unfold HidIs at ho ⊢
  split
  · rename_i A refs' he
    rw [he] at h
    cases hx : o.x.v with
    | no => rw [hx] at h; exact h.elim
    | map kt2 es => rw [hx] at h; exact h.elim
    | abs B refs =>
      rw [hx] at h
      obtain ⟨h1, rfl, h⟩ := h
      simp only [hx] at ho
      obtain ⟨ls, q2, q3⟩ := ho
      exact ⟨ls, mapM_ren hr h q2, q3⟩
  · trivial
theorem ExtLe.isM {g : List Nat} {o' o : SObj} (h : ExtLe g o'.own o'.x.v o.x.v) (hm : o'.isM = false) : o.isM = false := by
  unfold SObj.isM at hm ⊢
  cases hx : o.x.v with
  | no => rfl
  | abs A refs => rfl
  | map kt es =>
    rw [hx] at h
    cases hx' : o'.x.v with
    | no => rw [hx'] at h; exact h.elim
    | abs A refs => rw [hx'] at h; exact h.elim
    | map kt2 es2 => rw [hx'] at hm; exact hm
/-- No two objects that are alive are one. -/
def NdA (k : Nat) (o : SObj) : List Nat → Mem → Prop
  | k' :: ks, o' :: m' => (k ≠ k' ∨ (o.own = false ∧ o.cells = []) ∨ (o'.own = false ∧ o'.cells = [])) ∧ NdA k o ks m'
  | _, _ => True
def NdL : List Nat → Mem → Prop
  | k :: ks, o :: m' => NdA k o ks m' ∧ NdL ks m'
  | _, _ => True
theorem NdA_get {k : Nat} {o : SObj} : ∀ {g : List Nat} {m : Mem}, NdA k o g m → ∀ {j k' : Nat} {o' : SObj}, g[j]? = some k' → m[j]? = some o' → (o.own = true ∨ o.cells ≠ []) → (o'.own = true ∨ o'.cells ≠ []) → k ≠ k'
  | [], m, _, j, k', o', h1, _, _, _ => by simp at h1
  | _ :: _, [], _, j, k', o', _, h2, _, _ => by simp at h2
  | k1 :: ks, o1 :: m, h, 0, k', o', h1, h2, a, b => by
    simp at h1 h2
    subst h1; subst h2
    simp only [NdA] at h
    rcases h.1 with h | h | h
    · exact h
    · rcases a with a | a
      · rw [h.1] at a; cases a
      · exact (a h.2).elim
    · rcases b with b | b
      · rw [h.1] at b; cases b
      · exact (b h.2).elim
  | k1 :: ks, o1 :: m, h, j + 1, k', o', h1, h2, a, b => by
    simp only [NdA] at h
    exact NdA_get h.2 (by simpa using h1) (by simpa using h2) a b
theorem NdL_get : ∀ {g : List Nat} {m : Mem}, NdL g m → ∀ {i j k k' : Nat} {o o' : SObj}, i ≠ j → g[i]? = some k → g[j]? = some k' → m[i]? = some o → m[j]? = some o' → (o.own = true ∨ o.cells ≠ []) → (o'.own = true ∨ o'.cells ≠ []) → k ≠ k'
  | [], m, _, i, j, k, k', o, o', _, h1, _, _, _, _, _ => by simp at h1
  | _ :: _, [], _, i, j, k, k', o, o', _, _, _, h3, _, _, _ => by simp at h3
  | k1 :: ks, o1 :: m, h, 0, 0, k, k', o, o', hne, _, _, _, _, _, _ => (hne rfl).elim
  | k1 :: ks, o1 :: m, h, 0, j + 1, k, k', o, o', hne, h1, h2, h3, h4, a, b => by
    simp at h1 h3
    subst h1; subst h3
    exact NdA_get h.1 (by simpa using h2) (by simpa using h4) a b
  | k1 :: ks, o1 :: m, h, i + 1, 0, k, k', o, o', hne, h1, h2, h3, h4, a, b => by
    simp at h2 h4
    subst h2; subst h4
    exact fun e => NdA_get h.1 (by simpa using h1) (by simpa using h3) b a e.symm
  | k1 :: ks, o1 :: m, h, i + 1, j + 1, k, k', o, o', hne, h1, h2, h3, h4, a, b => NdL_get (i := i) (j := j) h.2 (by omega) (by simpa using h1) (by simpa using h2) (by simpa using h3) (by simpa using h4) a b
theorem NdL_of : ∀ {g : List Nat} {m : Mem}, g.Nodup → NdL g m
  | [], m, _ => by simp [NdL]
  | _ :: _, [], _ => by simp [NdL]
  | k :: ks, o :: m, h => by
    rw [List.nodup_cons] at h
    refine ⟨?_, NdL_of h.2⟩
    have : ∀ (ks : List Nat) (m : Mem), k ∉ ks → NdA k o ks m := by
      intro ks
      induction ks with
      | nil => intro m _; simp [NdA]
      | cons k' ks ih =>
        intro m hk
        cases m with
        | nil => simp [NdA]
        | cons o' m =>
          simp only [List.mem_cons, not_or] at hk
          exact ⟨.inl hk.1, ih m hk.2⟩
    exact this ks m h.1
def FitM (g : List Nat) (m : Mem) : List Nat → Mem → Prop
  | [], [] => True
  | k :: ks, o' :: m' => (match m[k]? with | some o => ObLe g o' o | none => False) ∧ FitM g m ks m'
  | _, _ => False
def FitE (g : List Nat) (e : Env) : List (Nat × SV) → Prop
  | [] => True
  | (t, s) :: l => Le g s (e t) ∧ FitE g e l
def slots : List (Nat × SV) → Env
  | [] => fun _ => .any
  | (t, s) :: l => fun x => if x = t then s else slots l x
/-- The first objects keep their numbers. -/
def KeepOk [Inp] (g : List Nat) : Prop := ∀ k, k < Inp.keep → g[k]? = some k
theorem keep0 [Inp] [I : Inp] {g : List Nat} (h : I.keep = 0) : KeepOk g := fun k hk => by rw [h] at hk; omega
def Fit [Inp] (e : Env) (m : Mem) (l : List (Nat × SV)) (m' : Mem) : Prop := ∃ g : List Nat, NdL g m' ∧ FitM g m g m' ∧ FitE g e l ∧ KeepOk g
theorem slots_le {g : List Nat} {e : Env} : ∀ {l : List (Nat × SV)}, FitE g e l → ∀ t, Le g (slots l t) (e t)
  | [], h, t => by simp [slots, Le]
  | (t', s) :: l, h, t => by
    simp only [FitE] at h
    simp only [slots]
    split
    · rename_i ht; subst ht; exact h.1
    · exact slots_le h.2 t
theorem FitM_get {g : List Nat} {m : Mem} : ∀ {ks : List Nat} {m' : Mem}, FitM g m ks m' → ks.length = m'.length ∧ ∀ (j : Nat) (o' : SObj), m'[j]? = some o' → ∃ k o, ks[j]? = some k ∧ m[k]? = some o ∧ ObLe g o' o
  | [], [], h => ⟨rfl, fun j o' hj => by simp at hj⟩
  | k :: ks, o :: m', h => by
    simp only [FitM] at h
    obtain ⟨h1, h2⟩ := FitM_get h.2
    refine ⟨by simp [h1], fun j o' hj => ?_⟩
    cases j with
    | zero =>
      simp at hj; subst hj
      have h0 := h.1
      split at h0
      · rename_i o2 ho; exact ⟨k, o2, rfl, ho, h0⟩
      · exact h0.elim
    | succ j =>
      obtain ⟨k2, o2, q1, q2, q3⟩ := h2 j o' (by simpa using hj)
      exact ⟨k2, o2, by simpa using q1, q2, q3⟩
  | [], _ :: _, h => by simp [FitM] at h
  | _ :: _, [], h => by simp [FitM] at h
/-- The objects that are kept: where they lie, and what they hide. -/
def fitR (g : List Nat) (r : List Loc) : List Loc := g.map fun k => r.getD k ⟨0, 0, 0⟩
def fitF (g : List Nat) (m' : Mem) (F : Nat → List Nat) : Nat → List Nat := fun j => match m'[j]? with | some o' => (if o'.isA = true then (match g[j]? with | some k => F k | none => []) else []) | none => []
theorem fitR_get {g : List Nat} {r : List Loc} : ∀ (j k : Nat), g[j]? = some k → ∀ l, r[k]? = some l → (fitR g r)[j]? = some l := by
  intro j k hj l hl
  unfold fitR
  rw [List.getElem?_map, hj]
  simp [List.getD, hl]
theorem fit_hid [Inp] {g : List Nat} {m m' : Mem} {base : Nat → Prop} {w0 W : World} {r : List Loc} (hn : NdL g m') (hm : FitM g m g m') (hst : St base w0 r m W) {F : Nat → List Nat} (hF : Hid base r m W F) : Hid base (fitR g r) m' W (fitF g m' F) := by
  obtain ⟨h1, h2⟩ := FitM_get hm
  have hr := @fitR_get g r
  have hlen := hst.len
  refine ⟨fun j l' o' hl ho => ?_, fun j b hb => ?_, fun j b hb j' l' o' hl ho hal => ?_, fun j j' b hb hb' => ?_⟩
  · unfold fitF
    simp only [ho]
    cases ha : o'.isA with
    | false => exact HidIs.not ha
    | true =>
      obtain ⟨k, o, q1, q2, q3⟩ := h2 j o' ho
      have hk : k < r.length := by rw [hlen]; exact (List.getElem?_eq_some_iff.1 q2).1
      have e := hr j k q1 _ (List.getElem?_eq_getElem hk)
      rw [hl] at e; injection e with e; subst e
      simp only [if_true, q1]
      rcases q3 with rfl | ⟨_, _, q3⟩
      · simp at ha
      · exact q3.hid hr (hF.is k _ o (List.getElem?_eq_getElem hk) q2)
  · unfold fitF at hb
    split at hb
    · split at hb
      · split at hb
        · exact hF.base _ b hb
        · simp at hb
      · simp at hb
    · simp at hb
  · unfold fitF at hb
    split at hb
    · rename_i o1 ho1
      split at hb
      · rename_i ha
        split at hb
        · rename_i k hk
          obtain ⟨k2, p2, b1, b2, b3⟩ := h2 j' o' ho
          have hk2 : k2 < r.length := by rw [hlen]; exact (List.getElem?_eq_some_iff.1 b2).1
          have e2 := hr j' k2 b1 _ (List.getElem?_eq_getElem hk2)
          rw [hl] at e2; injection e2 with e2; subst e2
          refine hF.far k b hb k2 _ p2 (List.getElem?_eq_getElem hk2) b2 ?_
          rcases b3 with rfl | ⟨h, h', _⟩
          · simp at hal
          · rcases hal with hh | hh
            · exact .inl (h hh)
            · refine .inr fun e => hh ?_
              have := LeL_len h'
              rw [e] at this
              exact List.length_eq_zero_iff.1 this.symm
        · simp at hb
      · simp at hb
    · simp at hb
  · unfold fitF at hb hb'
    split at hb
    · rename_i o1 ho1
      split at hb
      · rename_i ha
        split at hb
        · rename_i k hk
          split at hb'
          · rename_i o2 ho2
            split at hb'
            · rename_i ha2
              split at hb'
              · rename_i k2 hk2
                have hkk := hF.apart k k2 b hb hb'
                by_cases hj : j = j'
                · exact hj
                · have own : ∀ (j : Nat) (o' : SObj), m'[j]? = some o' → o'.isA = true → o'.own = true := by
                    intro j o' ho ha
                    obtain ⟨k, o, q1, q2, q3⟩ := h2 j o' ho
                    rcases q3 with rfl | ⟨_, _, q3⟩
                    · simp at ha
                    · unfold SObj.isA at ha
                      split at ha
                      · rename_i A refs he
                        rw [he] at q3
                        cases hx : o.x.v with
                        | no => rw [hx] at q3; exact q3.elim
                        | map kt es => rw [hx] at q3; exact q3.elim
                        | abs B rs => rw [hx] at q3; exact q3.1
                      · cases ha
                  exact (NdL_get hn hj hk hk2 ho1 ho2 (.inl (own j o1 ho1 ha)) (.inl (own j' o2 ho2 ha2)) hkk).elim
              · simp at hb'
            · simp at hb'
          · simp at hb'
        · simp at hb
      · simp at hb
    · simp at hb
theorem fit_sound' [Inp] {N : Nat} {g : List Nat} {e : Env} {m m' : Mem} {l : List (Nat × SV)} {base : Nat → Prop} {w0 W : World} {r : List Loc} {ts : Array Value} (hn : NdL g m') (hm : FitM g m g m') (hst : St base w0 r m W) :
    St base w0 (fitR g r) m' W ∧ (∀ (j k : Nat), g[j]? = some k → ∀ l, r[k]? = some l → (fitR g r)[j]? = some l) ∧ (FitE g e l → EnvIs N r e ts → EnvIs N (fitR g r) (slots l) ts) := by
  obtain ⟨h1, h2⟩ := FitM_get hm
  have hr := @fitR_get g r
  refine ⟨⟨hst.low, hst.from_, hst.inp, by simp [fitR, h1], ?_, ?_, by
    obtain ⟨F, hF⟩ := hst.hid
    exact ⟨_, fit_hid hn hm hst hF⟩⟩, hr, fun hE he => ⟨he.size, fun t => (slots_le hE t).is hr (he.is t)⟩⟩
  · intro j l' o' hl ho
    obtain ⟨k, o, q1, q2, q3⟩ := h2 j o' ho
    have hlen := hst.len
    have hk : k < r.length := by rw [hlen]; exact (List.getElem?_eq_some_iff.1 q2).1
    have := hr j k q1 _ (List.getElem?_eq_getElem hk)
    rw [hl] at this
    injection this with this
    subst this
    have hO := hst.obj k _ o (List.getElem?_eq_getElem hk) q2
    rcases q3 with rfl | ⟨ho1, ho2, ho3⟩
    · exact .dead hO.lt
    · refine ⟨fun hm hal => ?_, by rw [← LeL_len ho2]; exact hO.fits, fun h => hO.own (ho1 h), hO.lt, ho3.is hr hO.ext ho2⟩
      obtain ⟨c, T, fr, g1, g2, g3, g4⟩ := hO.there (ho3.isM hm) (by
        rcases hal with h | h
        · exact .inl (ho1 h)
        · refine .inr fun e => h ?_
          have := LeL_len ho2
          rw [e] at this
          exact List.length_eq_zero_iff.1 this.symm)
      refine ⟨c, T, fr, g1, g2, ?_, fun h => g4 (ho1 h)⟩
      rw [← LeL_len ho2]
      exact LeL.is hr ho2 g3
  · intro j1 j2 l1 l2 o1 o2 hl1 hl2 ho1 ho2 hne hown hal
    obtain ⟨k1, p1, a1, a2, a3⟩ := h2 j1 o1 ho1
    obtain ⟨k2, p2, b1, b2, b3⟩ := h2 j2 o2 ho2
    have hlen := hst.len
    have hk1 : k1 < r.length := by rw [hlen]; exact (List.getElem?_eq_some_iff.1 a2).1
    have hk2 : k2 < r.length := by rw [hlen]; exact (List.getElem?_eq_some_iff.1 b2).1
    have e1 := hr j1 k1 a1 _ (List.getElem?_eq_getElem hk1)
    have e2 := hr j2 k2 b1 _ (List.getElem?_eq_getElem hk2)
    rw [hl1] at e1; injection e1 with e1; subst e1
    rw [hl2] at e2; injection e2 with e2; subst e2
    have hk : k1 ≠ k2 := NdL_get hn hne a1 b1 ho1 ho2 (.inl hown) hal
    have hown1 : p1.own = true := by
      rcases a3 with rfl | ⟨h, _⟩
      · cases hown
      · exact h hown
    have hal2 : p2.own = true ∨ p2.cells ≠ [] := by
      rcases b3 with rfl | ⟨h, h', _⟩
      · rcases hal with hh | hh
        · cases hh
        · exact (hh rfl).elim
      · rcases hal with hh | hh
        · exact .inl (h hh)
        · refine .inr fun e => hh ?_
          have := LeL_len h'
          rw [e] at this
          exact List.length_eq_zero_iff.1 this.symm
    exact hst.sep k1 k2 _ _ p1 p2 (List.getElem?_eq_getElem hk1) (List.getElem?_eq_getElem hk2) a2 b2 hk hown1 hal2
theorem fit_sound [Inp] {N : Nat} {g : List Nat} {e : Env} {m m' : Mem} {l : List (Nat × SV)} {base : Nat → Prop} {w0 W : World} {r : List Loc} {ts : Array Value} (hn : NdL g m') (hm : FitM g m g m') (hst : St base w0 r m W) :
    ∃ r', St base w0 r' m' W ∧ (∀ (j k : Nat), g[j]? = some k → ∀ l, r[k]? = some l → r'[j]? = some l) ∧ (FitE g e l → EnvIs N r e ts → EnvIs N r' (slots l) ts) := ⟨_, fit_sound' hn hm hst⟩
section
variable {P : Program} {N : Nat} {eff : List FuncId} {G : List CEntry}
/-- A loop: what the slots and the memory are, for a number that each round lowers. -/
theorem TX_loop [Inp] (hG : GOk P G) {X : Type} (L : X → List (Nat × SV)) (M : X → Mem) (u : X → Nat) (x0 : X) {body : XC} {e : Env} {m : Mem} {Q : Post} (h0 : Fit e m (L x0) (M x0))
    (round : ∀ x, evX P N eff G body (slots (L x)) (M x) (thenQ (fun e' m' => ∃ x', u x' < u x ∧ Fit e' m' (L x') (M x')) Q)) : TX P N eff (.loop body) e m Q := by
  intro c hc base w0 W r a hst he
  unfold compC at hc
  split at hc
  case h_7 c1 =>
    obtain ⟨x1, hx1, hc⟩ := Option.map_eq_some_iff.1 hc
    injection hc with hc; subst hc
    refine wp_loop_ghost (fun n a' W' => ∃ x r', n = u x ∧ St base w0 r' (M x) W' ∧ EnvIs N r' (slots (L x)) a'.tmps ∧ a'.defers = a.defers ∧ Kp r r') (u x0) ?_ ?_
    · obtain ⟨g, hn, hm, hE, hkg⟩ := h0
      obtain ⟨r', h1, h2, h3⟩ := fit_sound (N := N) (e := e) (l := L x0) (ts := a.tmps) hn hm hst
      exact ⟨x0, r', rfl, h1, h3 hE he, rfl, fun k l hk hl => h2 k k (hkg k hk) l hl⟩
    · rintro n a1 W1 ⟨x, r1, rfl, hst1, he1, hd1, hkp1⟩
      refine wp_mono (evX_sound hG _ (round x) c1 hx1 base w0 W1 r1 a1 hst1 he1) ?_
      rintro ex a2 W2 ⟨hgo, e2, m2, r2, hq, hst2, he2, hd2, hkp2⟩
      cases ex <;> simp only [Exit.then]
      case normal =>
        simp only [thenQ] at hq
        obtain ⟨x', hlt, g, hn, hm, hE, hkg⟩ := hq
        obtain ⟨r', h1, h2, h3⟩ := fit_sound (N := N) (e := e2) (l := L x') (ts := a2.tmps) hn hm hst2
        exact ⟨u x', hlt, x', r', rfl, h1, h3 hE he2, hd2.trans hd1, (hkp1.trans hkp2).trans fun k l hk hl => h2 k k (hkg k hk) l hl⟩
      case exit i => exact ⟨trivial, e2, m2, r2, hq, hst2, he2, hd2.trans hd1, hkp1.trans hkp2⟩
      case ret => exact ⟨trivial, e2, m2, r2, hq, hst2, he2, hd2.trans hd1, hkp1.trans hkp2⟩
      all_goals exact hgo.elim
  all_goals first | (cases hc; done) | (obtain ⟨x1, hx1, hc⟩ := Option.bind_eq_some_iff.1 hc; obtain ⟨x2, hx2, hc⟩ := Option.map_eq_some_iff.1 hc; cases hc; done) | (obtain ⟨x1, hx1, hc⟩ := Option.map_eq_some_iff.1 hc; cases hc; done) | (split at hc <;> first | (cases hc; done) | (obtain ⟨x1, hx1, hc⟩ := Option.map_eq_some_iff.1 hc; cases hc; done))
/-- A loop's rounds, one behind the other, so many at most. -/
def unr [Inp] (P : Program) (N : Nat) (eff : List FuncId) (G : List CEntry) (body : XC) (Q : Post) : Nat → Env → Mem → Prop
  | 0, _, _ => False
  | n + 1, e, m => evX P N eff G body e m (thenQ (fun e m => unr P N eff G body Q n e m) Q)
theorem TX_unroll [Inp] (hG : GOk P G) {body : XC} {e : Env} {m : Mem} {Q : Post} (n : Nat) (h : unr P N eff G body Q n e m) : TX P N eff (.loop body) e m Q := by
  intro c hc base w0 W r a hst he
  unfold compC at hc
  split at hc
  case h_7 c1 =>
    obtain ⟨x1, hx1, hc⟩ := Option.map_eq_some_iff.1 hc
    injection hc with hc; subst hc
    refine wp_loop_ghost (fun n a' W' => ∃ e' m' r', unr P N eff G x1 Q n e' m' ∧ St base w0 r' m' W' ∧ EnvIs N r' e' a'.tmps ∧ a'.defers = a.defers ∧ Kp r r') n ⟨e, m, r, h, hst, he, rfl, Kp.refl _⟩ ?_
    rintro n a1 W1 ⟨e1, m1, r1, hu, hst1, he1, hd1, hkp1⟩
    cases n with
    | zero => exact hu.elim
    | succ n =>
      refine wp_mono (evX_sound hG _ hu c1 hx1 base w0 W1 r1 a1 hst1 he1) ?_
      rintro ex a2 W2 ⟨hgo, e2, m2, r2, hq, hst2, he2, hd2, hkp2⟩
      cases ex <;> simp only [Exit.then]
      case normal => exact ⟨n, by omega, e2, m2, r2, hq, hst2, he2, hd2.trans hd1, hkp1.trans hkp2⟩
      case exit i => exact ⟨trivial, e2, m2, r2, hq, hst2, he2, hd2.trans hd1, hkp1.trans hkp2⟩
      case ret => exact ⟨trivial, e2, m2, r2, hq, hst2, he2, hd2.trans hd1, hkp1.trans hkp2⟩
      all_goals exact hgo.elim
  all_goals first | (cases hc; done) | (obtain ⟨x1, hx1, hc⟩ := Option.bind_eq_some_iff.1 hc; obtain ⟨x2, hx2, hc⟩ := Option.map_eq_some_iff.1 hc; cases hc; done) | (obtain ⟨x1, hx1, hc⟩ := Option.map_eq_some_iff.1 hc; cases hc; done) | (split at hc <;> first | (cases hc; done) | (obtain ⟨x1, hx1, hc⟩ := Option.map_eq_some_iff.1 hc; cases hc; done))
end
end Go.Proofs.Ytibefgdjijmncaa.Sz
