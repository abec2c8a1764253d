/- Symbolic walks, part H: loops; functions. No condition. -/
import Derived.Test.YtppndeoiifkkkaaSzG
import Derived.Deep.LoopGhost
namespace Go.Proofs.Ytppndeoiifkkkaa.Sz
open Go.RowKit
set_option linter.unusedVariables false
set_option linter.unusedSimpArgs false
mutual
/-- A symbolic value, numbers of objects read by a list: what it says is less, or the same. -/
def Le (g : List Nat) : SV → SV → Prop
  | .any, _ => True
  | .v x, s => s = .v x
  | .ptr k o, s => match g[k]? with | some k' => s = .ptr k' o | none => False
  | .row k o n sz, s => match g[k]? with | some k' => s = .row k' o n sz | none => False
  | .agg cs, s => match s with | .agg ds => LeL g cs ds | _ => False
  | .tup cs, s => match s with | .tup ds => LeL g cs ds | _ => False
  | .fn f cs, s => match s with | .fn f' ds => f' = f ∧ LeL g cs ds | _ => False
  | .bnd f cs, s => match s with | .bnd f' ds => f' = f ∧ LeL g cs ds | _ => False
  | .emp, s => s = .emp
def LeL (g : List Nat) : List SV → List SV → Prop
  | [], ds => ds = []
  | c :: cs, ds => match ds with | d :: ds => Le g c d ∧ LeL g cs ds | [] => False
end
mutual
theorem Le.is {g : List Nat} {r r' : List Loc} (hr : ∀ (j k : Nat), g[j]? = some k → ∀ l, r[k]? = some l → r'[j]? = some l) : ∀ {s' s : SV} {u : Value}, Le g s' s → s.Is r u → s'.Is r' u
  | .any, s, u, h, hs => by simp only [SV.Is]
  | .emp, s, u, h, hs => by simp only [Le] at h; subst h; simpa only [SV.Is] using hs
  | .v x, s, u, h, hs => by simp only [Le] at h; subst h; simpa only [SV.Is] using hs
  | .ptr k o, s, u, h, hs => by
    simp only [Le] at h
    split at h
    · rename_i k' hk
      subst h
      simp only [SV.Is] at hs ⊢
      obtain ⟨l, hl, hu⟩ := hs
      exact ⟨l, hr _ _ hk _ hl, hu⟩
    · exact h.elim
  | .row k o n sz, s, u, h, hs => by
    simp only [Le] at h
    split at h
    · rename_i k' hk
      subst h
      simp only [SV.Is] at hs ⊢
      obtain ⟨l, cap, hl, hu⟩ := hs
      exact ⟨l, cap, hr _ _ hk _ hl, hu⟩
    · exact h.elim
  | .agg cs, s, u, h, hs => by
    simp only [Le] at h
    split at h
    · simp only [SV.Is] at hs ⊢
      obtain ⟨us, hu, hus⟩ := hs
      exact ⟨us, hu, LeL.is hr h hus⟩
    · exact h.elim
  | .tup cs, s, u, h, hs => by
    simp only [Le] at h
    split at h
    · simp only [SV.Is] at hs ⊢
      obtain ⟨us, hu, hus⟩ := hs
      exact ⟨us, hu, LeL.is hr h hus⟩
    · exact h.elim
  | .fn f cs, s, u, h, hs => by
    simp only [Le] at h
    split at h
    · obtain ⟨rfl, h⟩ := h
      simp only [SV.Is] at hs ⊢
      obtain ⟨us, hu, hus⟩ := hs
      exact ⟨us, hu, LeL.is hr h hus⟩
    · exact h.elim
  | .bnd f cs, s, u, h, hs => by
    simp only [Le] at h
    split at h
    · obtain ⟨rfl, h⟩ := h
      simp only [SV.Is] at hs ⊢
      obtain ⟨us, hu, hus⟩ := hs
      exact ⟨us, hu, LeL.is hr h hus⟩
    · exact h.elim
theorem LeL.is {g : List Nat} {r r' : List Loc} (hr : ∀ (j k : Nat), g[j]? = some k → ∀ l, r[k]? = some l → r'[j]? = some l) : ∀ {s' s : List SV} {u : List Value}, LeL g s' s → SV.IsL r s u → SV.IsL r' s' u
  | [], s, u, h, hs => by simp only [LeL] at h; subst h; simpa only [SV.IsL] using hs
  | c :: cs, s, u, h, hs => by
    simp only [LeL] at h
    split at h
    · simp only [SV.IsL] at hs ⊢
      obtain ⟨x, y, h1, h2, h3⟩ := hs
      exact ⟨x, y, h1, Le.is hr h.1 h2, LeL.is hr h.2 h3⟩
    · exact h.elim
end
theorem LeL_len {g : List Nat} : ∀ {s' s : List SV}, LeL g s' s → s.length = s'.length
  | [], s, h => by simp only [LeL] at h; subst h; rfl
  | c :: cs, s, h => by
    simp only [LeL] at h
    split at h
    · simp [LeL_len h.2]
    · exact h.elim
theorem LeL_v (g : List Nat) : ∀ l : List Value, LeL g (l.map SV.v) (l.map SV.v)
  | [] => by simp [LeL]
  | x :: l => by simp only [List.map_cons, LeL, Le]; exact ⟨trivial, LeL_v g l⟩
def ObLe (g : List Nat) (o' o : SObj) : Prop := (o'.own = false ∧ o'.cells = []) ∨ ((o'.own = true → o.own = true) ∧ LeL g o'.cells o.cells)
/-- No two objects that are alive are one. -/
def NdA (k : Nat) (o : SObj) : List Nat → Mem → Prop
  | k' :: ks, o' :: m' => (k ≠ k' ∨ (o.own = false ∧ o.cells = []) ∨ (o'.own = false ∧ o'.cells = [])) ∧ NdA k o ks m'
  | _, _ => True
def NdL : List Nat → Mem → Prop
  | k :: ks, o :: m' => NdA k o ks m' ∧ NdL ks m'
  | _, _ => True
theorem NdA_get {k : Nat} {o : SObj} : ∀ {g : List Nat} {m : Mem}, NdA k o g m → ∀ {j k' : Nat} {o' : SObj}, g[j]? = some k' → m[j]? = some o' → (o.own = true ∨ o.cells ≠ []) → (o'.own = true ∨ o'.cells ≠ []) → k ≠ k'
  | [], m, _, j, k', o', h1, _, _, _ => by simp at h1
  | _ :: _, [], _, j, k', o', _, h2, _, _ => by simp at h2
  | k1 :: ks, o1 :: m, h, 0, k', o', h1, h2, a, b => by
    simp at h1 h2
    subst h1; subst h2
    simp only [NdA] at h
    rcases h.1 with h | h | h
    · exact h
    · rcases a with a | a
      · rw [h.1] at a; cases a
      · exact (a h.2).elim
    · rcases b with b | b
      · rw [h.1] at b; cases b
      · exact (b h.2).elim
  | k1 :: ks, o1 :: m, h, j + 1, k', o', h1, h2, a, b => by
    simp only [NdA] at h
    exact NdA_get h.2 (by simpa using h1) (by simpa using h2) a b
theorem NdL_get : ∀ {g : List Nat} {m : Mem}, NdL g m → ∀ {i j k k' : Nat} {o o' : SObj}, i ≠ j → g[i]? = some k → g[j]? = some k' → m[i]? = some o → m[j]? = some o' → (o.own = true ∨ o.cells ≠ []) → (o'.own = true ∨ o'.cells ≠ []) → k ≠ k'
  | [], m, _, i, j, k, k', o, o', _, h1, _, _, _, _, _ => by simp at h1
  | _ :: _, [], _, i, j, k, k', o, o', _, _, _, h3, _, _, _ => by simp at h3
  | k1 :: ks, o1 :: m, h, 0, 0, k, k', o, o', hne, _, _, _, _, _, _ => (hne rfl).elim
  | k1 :: ks, o1 :: m, h, 0, j + 1, k, k', o, o', hne, h1, h2, h3, h4, a, b => by
    simp at h1 h3
    subst h1; subst h3
    exact NdA_get h.1 (by simpa using h2) (by simpa using h4) a b
  | k1 :: ks, o1 :: m, h, i + 1, 0, k, k', o, o', hne, h1, h2, h3, h4, a, b => by
    simp at h2 h4
    subst h2; subst h4
    exact fun e => NdA_get h.1 (by simpa using h1) (by simpa using h3) b a e.symm
  | k1 :: ks, o1 :: m, h, i + 1, j + 1, k, k', o, o', hne, h1, h2, h3, h4, a, b => NdL_get (i := i) (j := j) h.2 (by omega) (by simpa using h1) (by simpa using h2) (by simpa using h3) (by simpa using h4) a b
theorem NdL_of : ∀ {g : List Nat} {m : Mem}, g.Nodup → NdL g m
  | [], m, _ => by simp [NdL]
  | _ :: _, [], _ => by simp [NdL]
  | k :: ks, o :: m, h => by
    rw [List.nodup_cons] at h
    refine ⟨?_, NdL_of h.2⟩
    have : ∀ (ks : List Nat) (m : Mem), k ∉ ks → NdA k o ks m := by
      intro ks
      induction ks with
      | nil => intro m _; simp [NdA]
      | cons k' ks ih =>
        intro m hk
        cases m with
        | nil => simp [NdA]
        | cons o' m =>
          simp only [List.mem_cons, not_or] at hk
          exact ⟨.inl hk.1, ih m hk.2⟩
    exact this ks m h.1
def FitM (g : List Nat) (m : Mem) : List Nat → Mem → Prop
  | [], [] => True
  | k :: ks, o' :: m' => (match m[k]? with | some o => ObLe g o' o | none => False) ∧ FitM g m ks m'
  | _, _ => False
def FitE (g : List Nat) (e : Env) : List (Nat × SV) → Prop
  | [] => True
  | (t, s) :: l => Le g s (e t) ∧ FitE g e l
def slots : List (Nat × SV) → Env
  | [] => fun _ => .any
  | (t, s) :: l => fun x => if x = t then s else slots l x
/-- The first objects keep their numbers. -/
def KeepOk [Inp] (g : List Nat) : Prop := ∀ k, k < Inp.keep → g[k]? = some k
theorem keep0 [Inp] [I : Inp] {g : List Nat} (h : I.keep = 0) : KeepOk g := fun k hk => by rw [h] at hk; omega
def Fit [Inp] (e : Env) (m : Mem) (l : List (Nat × SV)) (m' : Mem) : Prop := ∃ g : List Nat, NdL g m' ∧ FitM g m g m' ∧ FitE g e l ∧ KeepOk g
theorem slots_le {g : List Nat} {e : Env} : ∀ {l : List (Nat × SV)}, FitE g e l → ∀ t, Le g (slots l t) (e t)
  | [], h, t => by simp [slots, Le]
  | (t', s) :: l, h, t => by
    simp only [FitE] at h
    simp only [slots]
    split
    · rename_i ht; subst ht; exact h.1
    · exact slots_le h.2 t
theorem FitM_get {g : List Nat} {m : Mem} : ∀ {ks : List Nat} {m' : Mem}, FitM g m ks m' → ks.length = m'.length ∧ ∀ (j : Nat) (o' : SObj), m'[j]? = some o' → ∃ k o, ks[j]? = some k ∧ m[k]? = some o ∧ ObLe g o' o
  | [], [], h => ⟨rfl, fun j o' hj => by simp at hj⟩
  | k :: ks, o :: m', h => by
    simp only [FitM] at h
    obtain ⟨h1, h2⟩ := FitM_get h.2
    refine ⟨by simp [h1], fun j o' hj => ?_⟩
    cases j with
    | zero =>
      simp at hj; subst hj
      have h0 := h.1
      split at h0
      · rename_i o2 ho; exact ⟨k, o2, rfl, ho, h0⟩
      · exact h0.elim
    | succ j =>
      obtain ⟨k2, o2, q1, q2, q3⟩ := h2 j o' (by simpa using hj)
      exact ⟨k2, o2, by simpa using q1, q2, q3⟩
  | [], _ :: _, h => by simp [FitM] at h
  | _ :: _, [], h => by simp [FitM] at h
theorem fit_sound [Inp] {N : Nat} {g : List Nat} {e : Env} {m m' : Mem} {l : List (Nat × SV)} {base : Nat → Prop} {w0 W : World} {r : List Loc} {ts : Array Value} (hn : NdL g m') (hm : FitM g m g m') (hst : St base w0 r m W) :
    ∃ r', St base w0 r' m' W ∧ (∀ (j k : Nat), g[j]? = some k → ∀ l, r[k]? = some l → r'[j]? = some l) ∧ (FitE g e l → EnvIs N r e ts → EnvIs N r' (slots l) ts) := by
  obtain ⟨h1, h2⟩ := FitM_get hm
  have hr : ∀ (j k : Nat), g[j]? = some k → ∀ l, r[k]? = some l → (g.map fun k => r.getD k ⟨0, 0, 0⟩)[j]? = some l := by
    intro j k hj l hl
    rw [List.getElem?_map, hj]
    simp [List.getD, hl]
  refine ⟨g.map fun k => r.getD k ⟨0, 0, 0⟩, ⟨hst.low, hst.from_, hst.inp, by simp [h1], ?_, ?_⟩, hr, fun hE he => ⟨he.size, fun t => (slots_le hE t).is hr (he.is t)⟩⟩
  · intro j l' o' hl ho
    obtain ⟨k, o, q1, q2, q3⟩ := h2 j o' ho
    have hlen := hst.len
    have hk : k < r.length := by rw [hlen]; exact (List.getElem?_eq_some_iff.1 q2).1
    have := hr j k q1 _ (List.getElem?_eq_getElem hk)
    rw [hl] at this
    injection this with this
    subst this
    obtain ⟨⟨c, T, fr, g1, g2, g3, g4⟩, g5, g6⟩ := hst.obj k _ o (List.getElem?_eq_getElem hk) q2
    rcases q3 with ⟨ho1, ho2⟩ | ⟨ho1, ho2⟩
    · exact ⟨⟨c, T, fr, g1, g2, by rw [ho2]; simp [SV.IsL], by rw [ho1]; simp⟩, by rw [ho2]; simp, by rw [ho1]; simp⟩
    · refine ⟨⟨c, T, fr, g1, g2, ?_, fun h => g4 (ho1 h)⟩, by rw [← LeL_len ho2]; exact g5, fun h => g6 (ho1 h)⟩
      rw [← LeL_len ho2]
      exact LeL.is hr ho2 g3
  · intro j1 j2 l1 l2 o1 o2 hl1 hl2 ho1 ho2 hne hown hal
    obtain ⟨k1, p1, a1, a2, a3⟩ := h2 j1 o1 ho1
    obtain ⟨k2, p2, b1, b2, b3⟩ := h2 j2 o2 ho2
    have hlen := hst.len
    have hk1 : k1 < r.length := by rw [hlen]; exact (List.getElem?_eq_some_iff.1 a2).1
    have hk2 : k2 < r.length := by rw [hlen]; exact (List.getElem?_eq_some_iff.1 b2).1
    have e1 := hr j1 k1 a1 _ (List.getElem?_eq_getElem hk1)
    have e2 := hr j2 k2 b1 _ (List.getElem?_eq_getElem hk2)
    rw [hl1] at e1; injection e1 with e1; subst e1
    rw [hl2] at e2; injection e2 with e2; subst e2
    have hk : k1 ≠ k2 := NdL_get hn hne a1 b1 ho1 ho2 (.inl hown) hal
    have hown1 : p1.own = true := by
      rcases a3 with ⟨h, _⟩ | ⟨h, _⟩
      · rw [h] at hown; cases hown
      · exact h hown
    have hal2 : p2.own = true ∨ p2.cells ≠ [] := by
      rcases b3 with ⟨h, h'⟩ | ⟨h, h'⟩
      · rcases hal with hh | hh
        · rw [h] at hh; cases hh
        · exact (hh h').elim
      · rcases hal with hh | hh
        · exact .inl (h hh)
        · refine .inr fun e => hh ?_
          have := LeL_len h'
          rw [e] at this
          exact List.length_eq_zero_iff.1 this.symm
    exact hst.sep k1 k2 _ _ p1 p2 (List.getElem?_eq_getElem hk1) (List.getElem?_eq_getElem hk2) a2 b2 hk hown1 hal2
section
variable {P : Program} {N : Nat} {eff : List FuncId} {G : List CEntry}
/-- A loop: what the slots and the memory are, for a number that each round lowers. -/
theorem TX_loop [Inp] (hG : GOk P G) {X : Type} (L : X → List (Nat × SV)) (M : X → Mem) (u : X → Nat) (x0 : X) {body : XC} {e : Env} {m : Mem} {Q : Post} (h0 : Fit e m (L x0) (M x0))
    (round : ∀ x, evX P N eff G body (slots (L x)) (M x) (thenQ (fun e' m' => ∃ x', u x' < u x ∧ Fit e' m' (L x') (M x')) Q)) : TX P N eff (.loop body) e m Q := by
  intro c hc base w0 W r a hst he
  unfold compC at hc
  split at hc
  case h_7 c1 =>
    obtain ⟨x1, hx1, hc⟩ := Option.map_eq_some_iff.1 hc
    injection hc with hc; subst hc
    refine wp_loop_ghost (fun n a' W' => ∃ x r', n = u x ∧ St base w0 r' (M x) W' ∧ EnvIs N r' (slots (L x)) a'.tmps ∧ a'.defers = a.defers ∧ Kp r r') (u x0) ?_ ?_
    · obtain ⟨g, hn, hm, hE, hkg⟩ := h0
      obtain ⟨r', h1, h2, h3⟩ := fit_sound (N := N) (e := e) (l := L x0) (ts := a.tmps) hn hm hst
      exact ⟨x0, r', rfl, h1, h3 hE he, rfl, fun k l hk hl => h2 k k (hkg k hk) l hl⟩
    · rintro n a1 W1 ⟨x, r1, rfl, hst1, he1, hd1, hkp1⟩
      refine wp_mono (evX_sound hG _ (round x) c1 hx1 base w0 W1 r1 a1 hst1 he1) ?_
      rintro ex a2 W2 ⟨hgo, e2, m2, r2, hq, hst2, he2, hd2, hkp2⟩
      cases ex <;> simp only [Exit.then]
      case normal =>
        simp only [thenQ] at hq
        obtain ⟨x', hlt, g, hn, hm, hE, hkg⟩ := hq
        obtain ⟨r', h1, h2, h3⟩ := fit_sound (N := N) (e := e2) (l := L x') (ts := a2.tmps) hn hm hst2
        exact ⟨u x', hlt, x', r', rfl, h1, h3 hE he2, hd2.trans hd1, (hkp1.trans hkp2).trans fun k l hk hl => h2 k k (hkg k hk) l hl⟩
      case exit i => exact ⟨trivial, e2, m2, r2, hq, hst2, he2, hd2.trans hd1, hkp1.trans hkp2⟩
      case ret => exact ⟨trivial, e2, m2, r2, hq, hst2, he2, hd2.trans hd1, hkp1.trans hkp2⟩
      all_goals exact hgo.elim
  all_goals first | (cases hc; done) | (obtain ⟨x1, hx1, hc⟩ := Option.bind_eq_some_iff.1 hc; obtain ⟨x2, hx2, hc⟩ := Option.map_eq_some_iff.1 hc; cases hc; done) | (obtain ⟨x1, hx1, hc⟩ := Option.map_eq_some_iff.1 hc; cases hc; done) | (split at hc <;> first | (cases hc; done) | (obtain ⟨x1, hx1, hc⟩ := Option.map_eq_some_iff.1 hc; cases hc; done))
/-- A loop's rounds, one behind the other, so many at most. -/
def unr [Inp] (P : Program) (N : Nat) (eff : List FuncId) (G : List CEntry) (body : XC) (Q : Post) : Nat → Env → Mem → Prop
  | 0, _, _ => False
  | n + 1, e, m => evX P N eff G body e m (thenQ (fun e m => unr P N eff G body Q n e m) Q)
theorem TX_unroll [Inp] (hG : GOk P G) {body : XC} {e : Env} {m : Mem} {Q : Post} (n : Nat) (h : unr P N eff G body Q n e m) : TX P N eff (.loop body) e m Q := by
  intro c hc base w0 W r a hst he
  unfold compC at hc
  split at hc
  case h_7 c1 =>
    obtain ⟨x1, hx1, hc⟩ := Option.map_eq_some_iff.1 hc
    injection hc with hc; subst hc
    refine wp_loop_ghost (fun n a' W' => ∃ e' m' r', unr P N eff G x1 Q n e' m' ∧ St base w0 r' m' W' ∧ EnvIs N r' e' a'.tmps ∧ a'.defers = a.defers ∧ Kp r r') n ⟨e, m, r, h, hst, he, rfl, Kp.refl _⟩ ?_
    rintro n a1 W1 ⟨e1, m1, r1, hu, hst1, he1, hd1, hkp1⟩
    cases n with
    | zero => exact hu.elim
    | succ n =>
      refine wp_mono (evX_sound hG _ hu c1 hx1 base w0 W1 r1 a1 hst1 he1) ?_
      rintro ex a2 W2 ⟨hgo, e2, m2, r2, hq, hst2, he2, hd2, hkp2⟩
      cases ex <;> simp only [Exit.then]
      case normal => exact ⟨n, by omega, e2, m2, r2, hq, hst2, he2, hd2.trans hd1, hkp1.trans hkp2⟩
      case exit i => exact ⟨trivial, e2, m2, r2, hq, hst2, he2, hd2.trans hd1, hkp1.trans hkp2⟩
      case ret => exact ⟨trivial, e2, m2, r2, hq, hst2, he2, hd2.trans hd1, hkp1.trans hkp2⟩
      all_goals exact hgo.elim
  all_goals first | (cases hc; done) | (obtain ⟨x1, hx1, hc⟩ := Option.bind_eq_some_iff.1 hc; obtain ⟨x2, hx2, hc⟩ := Option.map_eq_some_iff.1 hc; cases hc; done) | (obtain ⟨x1, hx1, hc⟩ := Option.map_eq_some_iff.1 hc; cases hc; done) | (split at hc <;> first | (cases hc; done) | (obtain ⟨x1, hx1, hc⟩ := Option.map_eq_some_iff.1 hc; cases hc; done))
end
end Go.Proofs.Ytppndeoiifkkkaa.Sz
